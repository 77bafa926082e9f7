/-
  Layer 11's laws: the example that is asked first. Conditions as named.
-/
import Derived.Test.YtbpdgkaohfmabaaDoorElemParse
import Derived.Test.YtbpdgkaohfmabaaDoorElemS
import Derived.Test.YtbpdgkaohfmabaaDoorElemE
namespace Go.Proofs.YtbpdgkaohfmabaaDoor
set_option linter.unusedVariables false
open Go.RowKit
def exW : List ByteArray := [⟨#[104, 111, 117, 114, 108, 121]⟩, ⟨#[49, 50, 46, 53, 48]⟩, ⟨#[120, 51, 55, 46, 53, 48]⟩]
def exL : List El := [⟨⟨#[104, 111, 117, 114, 108, 121]⟩, 1250, 3750⟩, ⟨⟨#[98]⟩, 5, 100⟩, ⟨⟨#[104, 111, 117, 114, 108, 121]⟩, 1250, 3750⟩]
def exS : List Sm := [⟨⟨#[104, 111, 117, 114, 108, 121]⟩, 93750⟩, ⟨⟨#[98]⟩, 5⟩]
def exC : List El := [⟨⟨#[104, 111, 117, 114, 108, 121]⟩, 7, 100⟩, ⟨⟨#[98]⟩, 5, 100⟩]
theorem exW_e : epE 3 ⟨#[104, 111, 117, 114, 108, 121]⟩ ⟨#[49, 50, 46, 53, 48]⟩ ⟨#[120, 51, 55, 46, 53, 48]⟩ = 0 := by decide +kernel
theorem exW_a : parseV (⟨#[49, 50, 46, 53, 48]⟩ : ByteArray).data.toList = 1250 := by decide +kernel
theorem exW_u : parseV (xUn ⟨#[120, 51, 55, 46, 53, 48]⟩) = 3750 := by decide +kernel
theorem exS_e : ∀ k, k < 3 → smE exL k = 0 := by decide +kernel
theorem exS_l : smT exL 3 = exS := by
  have h : (smT exL 3).map (fun s => (s.k, s.v)) = exS.map (fun s => (s.k, s.v)) := by decide +kernel
  have := congrArg (List.map fun p : ByteArray × Int => Sm.mk p.1 p.2) h
  simpa [List.map_map, Function.comp_def] using this
theorem exC_l : chL ⟨#[104, 111, 117, 114, 108, 121]⟩ 7 exL 3 = exC := by
  have h : (chL ⟨#[104, 111, 117, 114, 108, 121]⟩ 7 exL 3).map (fun s => (s.k, s.a, s.u)) = exC.map (fun s => (s.k, s.a, s.u)) := by decide +kernel
  have := congrArg (List.map fun p : ByteArray × Int × Int => El.mk p.1 p.2.1 p.2.2) h
  simpa [List.map_map, Function.comp_def] using this
theorem exT_1 : elT ⟨#[104, 111, 117, 114, 108, 121]⟩ 1250 3750 = [104, 111, 117, 114, 108, 121, 32, 49, 50, 46, 53, 48, 32, 120, 51, 55, 46, 53, 48] := by decide +kernel
theorem exT_2 : elT ⟨#[98]⟩ 5 100 = [98, 32, 48, 46, 48, 53] := by decide +kernel
theorem exV_e : elE 1250 3750 = 0 := by decide +kernel
theorem exV_v : elV 1250 3750 = 46875 := by decide +kernel
theorem ex_st (w : World) : StSl (w.alloc (.cells #[.string ⟨#[104, 111, 117, 114, 108, 121]⟩, .string ⟨#[49, 50, 46, 53, 48]⟩, .string ⟨#[120, 51, 55, 46, 53, 48]⟩] 9)) (some ⟨w.heap.size, 0, none⟩) 3 exW := by
  refine ⟨rfl, by decide, fun _ => ⟨w.heap.size, 0, rfl, by simp, fun k hk => ?_⟩⟩
  rcases (by omega : k = 0 ∨ k = 1 ∨ k = 2) with rfl | rfl | rfl
  all_goals
    intro j u hu
    have hj : j < 1 := (List.getElem?_eq_some_iff.1 hu).1
    rw [cell_alloc, if_pos rfl]
    obtain rfl : j = 0 := by omega
    injection hu with hu; subst hu; rfl
theorem ex_el (w : World) : ElSl (w.alloc (.cells #[.string ⟨#[104, 111, 117, 114, 108, 121]⟩, .int .i64 1250, .int .i64 3750, .string ⟨#[98]⟩, .int .i64 5, .int .i64 100, .string ⟨#[104, 111, 117, 114, 108, 121]⟩, .int .i64 1250, .int .i64 3750] 23)) (some ⟨w.heap.size, 0, none⟩) 3 exL := by
  refine ⟨rfl, by decide, fun _ => ⟨w.heap.size, 0, rfl, by simp, fun k hk => ?_⟩⟩
  rcases (by omega : k = 0 ∨ k = 1 ∨ k = 2) with rfl | rfl | rfl
  all_goals
    intro j u hu
    have hj : j < 3 := (List.getElem?_eq_some_iff.1 hu).1
    rw [cell_alloc, if_pos rfl]
    rcases (by omega : j = 0 ∨ j = 1 ∨ j = 2) with rfl | rfl | rfl <;> (injection hu with hu; subst hu; rfl)
theorem ex_parse (A : Option Addr) (c : Nat) (w : World) (h : StSl w A 3 exW) :
    Calls Tryd.prog 12 #[.slice A 3 c] w fun e w' => e = .returned (.tuple #[.agg #[.string ⟨#[104, 111, 117, 114, 108, 121]⟩, .int .i64 1250, .int .i64 3750], .int .i64 0]) ∧ Below w.heap.size w w' :=
  eparse_c A 3 c exW w h (fun k hk => by rcases (by omega : k = 0 ∨ k = 1 ∨ k = 2) with rfl | rfl | rfl <;> decide) ⟨⟨#[104, 111, 117, 114, 108, 121]⟩, 1250, 3750⟩ 0 (Lib.hid exW_e.symm) (Lib.hid (by
    show _ = epZ 3 ⟨#[104, 111, 117, 114, 108, 121]⟩ ⟨#[49, 50, 46, 53, 48]⟩ ⟨#[120, 51, 55, 46, 53, 48]⟩
    unfold epZ
    rw [if_pos exW_e, exW_a, if_neg (by decide), exW_u]))
theorem ex_value (w : World) : Calls Tryd.prog 10 #[.agg #[.string ⟨#[104, 111, 117, 114, 108, 121]⟩, .int .i64 1250, .int .i64 3750]] w fun e w' => e = .returned (.tuple #[.int .i64 46875, .int .i64 0]) ∧ Below w.heap.size w w' :=
  evalue_c _ _ _ w _ _ (Lib.hid exV_v.symm) (Lib.hid exV_e.symm)
theorem ex_sums (A : Option Addr) (c : Nat) (w : World) (h : ElSl w A 3 exL) :
    Calls Tryd.prog 15 #[.slice A 3 c] w fun e w' => (∃ g c', e = .returned (.tuple #[.slice (some ⟨g, 0, none⟩) 2 c', .int .i64 0]) ∧ g < w'.heap.size ∧ w'.cell? ⟨g, 0, none⟩ = some (.string ⟨#[104, 111, 117, 114, 108, 121]⟩) ∧ w'.cell? ⟨g, 1, none⟩ = some (.int .i64 93750)) ∧ Below w.heap.size w w' := by
  refine (esums_c A 3 c exL w h (by decide)).mono ?_
  rintro e w' ⟨⟨_, v, rfl, hv⟩ | ⟨k, hk, _, hn, _⟩, hb⟩
  · rw [exS_l] at hv
    obtain ⟨g, cap, rfl, _, hlt, _, ho⟩ := own_form hv.2 (by decide)
    have hr := (own_rowE ho).1
    exact ⟨⟨g, cap, rfl, hlt, hr 0 (by decide), hr 1 (by decide)⟩, hb⟩
  · exact absurd (exS_e k hk) hn
theorem ex_change (A : Option Addr) (c : Nat) (w : World) (h : ElSl w A 3 exL) :
    Calls Tryd.prog 16 #[.string ⟨#[104, 111, 117, 114, 108, 121]⟩, .int .i64 7, .slice A 3 c] w fun e w' => (∃ g c', e = .returned (.slice (some ⟨g, 0, none⟩) 2 c') ∧ g < w'.heap.size ∧ w'.cell? ⟨g, 0, none⟩ = some (.string ⟨#[104, 111, 117, 114, 108, 121]⟩) ∧ w'.cell? ⟨g, 1, none⟩ = some (.int .i64 7) ∧ w'.cell? ⟨g, 2, none⟩ = some (.int .i64 100) ∧ ElSl w' (some ⟨g, 0, none⟩) 2 exC) ∧ Below w.heap.size w w' := by
  refine (echange_c _ 7 A 3 c exL w h (by decide)).mono ?_
  rintro e w' ⟨⟨v, rfl, hv⟩, hb⟩
  rw [exC_l] at hv
  obtain ⟨g, cap, rfl, _, hlt, _, ho⟩ := own_form hv.2 (by decide)
  have hr := (own_rowE ho).1
  obtain ⟨A', c', hA, hs⟩ := OwnEl.sl ⟨hv.1, ho⟩
  injection hA with hA _ _
  subst hA
  exact ⟨⟨g, cap, rfl, hlt, hr 0 (by decide), hr 1 (by decide), hr 2 (by decide), hs⟩, hb⟩
--%%
set_option maxRecDepth 100000 in
set_option maxHeartbeats 3200000 in
theorem worths_c (w : World) (htab : Tab w) : Calls Tryd.prog 9 #[] w fun e w' => e = .returned (.bool true) ∧ Below w.heap.size w w' := by
  have HT := Lib.hid htab
  have KT1 : Hid (∀ W, Tab W → Calls Tryd.prog 23 #[.agg #[.string ⟨#[104, 111, 117, 114, 108, 121]⟩, .int .i64 1250, .int .i64 3750]] W fun e w' => e = .returned (.string ⟨#[104, 111, 117, 114, 108, 121, 32, 49, 50, 46, 53, 48, 32, 120, 51, 55, 46, 53, 48]⟩) ∧ Below W.heap.size W w') := fun W h => by
    have := etext_c ⟨#[104, 111, 117, 114, 108, 121]⟩ 1250 3750 W (by decide) (by decide) (by decide) h
    rw [exT_1] at this
    exact this
  have KT2 : Hid (∀ W, Tab W → Calls Tryd.prog 23 #[.agg #[.string ⟨#[98]⟩, .int .i64 5, .int .i64 100]] W fun e w' => e = .returned (.string ⟨#[98, 32, 48, 46, 48, 53]⟩) ∧ Below W.heap.size W w') := fun W h => by
    have := etext_c ⟨#[98]⟩ 5 100 W (by decide) (by decide) (by decide) h
    rw [exT_2] at this
    exact this
  have KS : Hid (∀ (A : Option Addr) (c d : Nat) W, ElSl W A 2 exC → Calls Tryd.prog 18 #[.slice A 2 c, .slice A 2 d] W fun e w' => e = .returned (.bool true) ∧ Below W.heap.size W w') := fun A c d W h => esame_c A A 2 c 2 d exC exC W h h true (Lib.hid (sameB_self _).symm)
  clear htab
  go_enter Tryd.func9, Tryd.ntmps9
  go_wp2_with fail
  refine (ex_parse _ _ _ (ex_st w)).mono ?_
  rintro e w1 ⟨rfl, hb1⟩
  have hB1 : Below w.heap.size w w1 := bT (below1 w _) hb1
  have hB1a := bA hB1 (.cells #[.string ⟨#[104, 111, 117, 114, 108, 121]⟩, .int .i64 1250, .int .i64 3750] 23)
  have y := Blk.mk w1 23 #[.string ⟨#[104, 111, 117, 114, 108, 121]⟩, .int .i64 1250, .int .i64 3750]
  go_wp2_with fail
  refine (ex_value _).mono ?_
  rintro e w2 ⟨rfl, hb2⟩
  have hB2 := bT hB1a hb2
  have y2 := y.t hb2
  have G : Hid (∀ W, Below w2.heap.size w2 W → Below w2.heap.size w2 W ∧ (W.cell? ⟨w1.heap.size, 0, none⟩ = some (.string ⟨#[104, 111, 117, 114, 108, 121]⟩) ∧ W.cell? ⟨w1.heap.size, 1, none⟩ = some (.int .i64 1250) ∧ W.cell? ⟨w1.heap.size, 2, none⟩ = some (.int .i64 3750))) := fun W hW => ⟨hW, (y2.t hW).cell 0, (y2.t hW).cell 1, (y2.t hW).cell 2⟩
  go_wp2_with fail
  go_region_held3 (fun W => Below w2.heap.size w2 W ∧ (W.cell? ⟨w1.heap.size, 0, none⟩ = some (.string ⟨#[104, 111, 117, 114, 108, 121]⟩) ∧ W.cell? ⟨w1.heap.size, 1, none⟩ = some (.int .i64 1250) ∧ W.cell? ⟨w1.heap.size, 2, none⟩ = some (.int .i64 3750)))
    (first | assumption | exact G.out _ (b0 _).drew | (exact sK G.out (by assumption) (by assumption)) | (exact sK G.out (by assumption) (below1 _ _)))
    (first
      | (go_at_call 17; (with_reducible refine (eof_c _ 5 _).mono ?_); rintro e wq ⟨rfl, hbq⟩)
      | (go_at_call 15; (with_reducible refine (ex_sums _ _ _ (ex_el _)).mono ?_); rintro e w3 ⟨⟨g, c', rfl, hgl, hg0, hg1⟩, hbq⟩))
  all_goals
    have hW3 := (show Below w2.heap.size w2 w3 ∧ _ from by assumption).1
    have hB3 := bT hB2 hW3
    have y3 := y2.t hW3
    have G2 : Hid (∀ W, Below w3.heap.size w3 W → Below w3.heap.size w3 W ∧ (W.cell? ⟨w1.heap.size, 0, none⟩ = some (.string ⟨#[104, 111, 117, 114, 108, 121]⟩) ∧ W.cell? ⟨w1.heap.size, 1, none⟩ = some (.int .i64 1250) ∧ W.cell? ⟨w1.heap.size, 2, none⟩ = some (.int .i64 3750)) ∧ (W.cell? ⟨g, 0, none⟩ = some (.string ⟨#[104, 111, 117, 114, 108, 121]⟩) ∧ W.cell? ⟨g, 1, none⟩ = some (.int .i64 93750))) := fun W hW => ⟨hW, ⟨(y3.t hW).cell 0, (y3.t hW).cell 1, (y3.t hW).cell 2⟩, (hW.cell (p := ⟨g, _, none⟩) hgl).trans hg0, (hW.cell (p := ⟨g, _, none⟩) hgl).trans hg1⟩
    go_wp2_with fail
    go_region_held3 (fun W => Below w3.heap.size w3 W ∧ (W.cell? ⟨w1.heap.size, 0, none⟩ = some (.string ⟨#[104, 111, 117, 114, 108, 121]⟩) ∧ W.cell? ⟨w1.heap.size, 1, none⟩ = some (.int .i64 1250) ∧ W.cell? ⟨w1.heap.size, 2, none⟩ = some (.int .i64 3750)) ∧ (W.cell? ⟨g, 0, none⟩ = some (.string ⟨#[104, 111, 117, 114, 108, 121]⟩) ∧ W.cell? ⟨g, 1, none⟩ = some (.int .i64 93750)))
      (first | assumption | exact G2.out _ (b0 _).drew | (exact sK G2.out (by assumption) (by assumption)) | (exact sK G2.out (by assumption) (below1 _ _)))
      (first
        | (go_at_call 17; (with_reducible refine (eof_c _ 5 _).mono ?_); rintro e wq ⟨rfl, hbq⟩)
        | (go_at_call 16; (with_reducible refine (ex_change _ _ _ (ex_el _)).mono ?_); rintro e w4 ⟨⟨h, d', rfl, hhl, hh0, hh1, hh2, hhs⟩, hbq⟩))
  all_goals
    have hW4 := (show Below w3.heap.size w3 w4 ∧ _ from by assumption).1
    have hB4 := bT hB3 hW4
    have y4 := y3.t hW4
    have hg4 := Nat.lt_of_lt_of_le hgl hW4.size
    have hg40 := (hW4.cell (p := ⟨g, 0, none⟩) hgl).trans hg0
    have hg41 := (hW4.cell (p := ⟨g, 1, none⟩) hgl).trans hg1
    have G3 : Hid (∀ W, Below w4.heap.size w4 W → Below w4.heap.size w4 W ∧ (W.cell? ⟨w1.heap.size, 0, none⟩ = some (.string ⟨#[104, 111, 117, 114, 108, 121]⟩) ∧ W.cell? ⟨w1.heap.size, 1, none⟩ = some (.int .i64 1250) ∧ W.cell? ⟨w1.heap.size, 2, none⟩ = some (.int .i64 3750)) ∧ (W.cell? ⟨g, 0, none⟩ = some (.string ⟨#[104, 111, 117, 114, 108, 121]⟩) ∧ W.cell? ⟨g, 1, none⟩ = some (.int .i64 93750)) ∧ (W.cell? ⟨h, 0, none⟩ = some (.string ⟨#[104, 111, 117, 114, 108, 121]⟩) ∧ W.cell? ⟨h, 1, none⟩ = some (.int .i64 7) ∧ W.cell? ⟨h, 2, none⟩ = some (.int .i64 100)) ∧ ElSl W (some ⟨h, 0, none⟩) 2 exC ∧ Tab W) := fun W hW => ⟨hW, ⟨(y4.t hW).cell 0, (y4.t hW).cell 1, (y4.t hW).cell 2⟩, ⟨(hW.cell (p := ⟨g, _, none⟩) hg4).trans hg40, (hW.cell (p := ⟨g, _, none⟩) hg4).trans hg41⟩, ⟨(hW.cell (p := ⟨h, _, none⟩) hhl).trans hh0, (hW.cell (p := ⟨h, _, none⟩) hhl).trans hh1, (hW.cell (p := ⟨h, _, none⟩) hhl).trans hh2⟩, hhs.below hW, HT.out.t (bT hB4 hW)⟩
    go_wp2_with fail
    go_region_held3 (fun W => Below w4.heap.size w4 W ∧ (W.cell? ⟨w1.heap.size, 0, none⟩ = some (.string ⟨#[104, 111, 117, 114, 108, 121]⟩) ∧ W.cell? ⟨w1.heap.size, 1, none⟩ = some (.int .i64 1250) ∧ W.cell? ⟨w1.heap.size, 2, none⟩ = some (.int .i64 3750)) ∧ (W.cell? ⟨g, 0, none⟩ = some (.string ⟨#[104, 111, 117, 114, 108, 121]⟩) ∧ W.cell? ⟨g, 1, none⟩ = some (.int .i64 93750)) ∧ (W.cell? ⟨h, 0, none⟩ = some (.string ⟨#[104, 111, 117, 114, 108, 121]⟩) ∧ W.cell? ⟨h, 1, none⟩ = some (.int .i64 7) ∧ W.cell? ⟨h, 2, none⟩ = some (.int .i64 100)) ∧ ElSl W (some ⟨h, 0, none⟩) 2 exC ∧ Tab W)
      (first | assumption | exact G3.out _ (b0 _).drew | (exact sK G3.out (by assumption) (by assumption)) | (exact sK G3.out (by assumption) (below1 _ _)))
      (first
        | (go_at_call 17; (with_reducible refine (eof_c _ 5 _).mono ?_); rintro e wq ⟨rfl, hbq⟩)
        | (go_at_call 17; (with_reducible refine (eof_c _ 7 _).mono ?_); rintro e wq ⟨rfl, hbq⟩)
        | (go_at_call 23; (with_reducible refine (KT1.out _ (show Below _ _ _ ∧ _ ∧ _ ∧ _ ∧ _ ∧ Tab _ from by assumption).2.2.2.2.2).mono ?_); rintro e wq ⟨rfl, hbq⟩)
        | (go_at_call 23; (with_reducible refine (KT2.out _ (show Below _ _ _ ∧ _ ∧ _ ∧ _ ∧ _ ∧ Tab _ from by assumption).2.2.2.2.2).mono ?_); rintro e wq ⟨rfl, hbq⟩)
        | (go_at_call 18; (with_reducible refine (KS.out _ _ _ _ (show Below _ _ _ ∧ _ ∧ _ ∧ _ ∧ ElSl _ _ _ _ ∧ Tab _ from by assumption).2.2.2.2.1).mono ?_); rintro e wq ⟨rfl, hbq⟩))
  all_goals
    have hW5 := (show Below w4.heap.size w4 _ ∧ _ from by assumption).1
    go_wp2_with fail
    go_ret
    exact ⟨rfl, bT hB4 hW5⟩
--%%
end Go.Proofs.YtbpdgkaohfmabaaDoor
