/-
  Contract of tax.Year. Conditions as named.
-/
import Derived.Test.YtankoappneglcaaTax4
namespace Go.Proofs.Ytankoappneglcaa
set_option linter.unusedVariables false
open Go.RowKit
def TYearR (sch : List (List Bd)) (rnd nom : Int) (l : List St) (n : Nat) (w : World) (e : Ending) (w' : World) : Prop :=
  (((∀ k, k < n → yE sch rnd nom l k = 0) ∧ ∃ v, e = .returned (.tuple #[v, .int .i64 0]) ∧ OwnI w' w.heap.size v n (dueL sch rnd nom l n)) ∨
   (∃ k, k < n ∧ (∀ j, j < k → yE sch rnd nom l j = 0) ∧ yE sch rnd nom l k ≠ 0 ∧ e = .returned (.tuple #[.slice none 0 0, .int .i64 (yE sch rnd nom l k)]))) ∧ Below w.heap.size w w'
theorem tyear_r (As Ac Ak A : Option Addr) (ns cs nc cc nk ck n c : Nat) (lim rnd fq days : Int) (hf : nomI fq ≠ 0) (hd : 0 ≤ days ∧ days ≤ 366) (g : Nat) (w : World) (hy : YrAt w g fq days) (hn : cntI fq days < n) :
    Calls Try.prog 9 #[.agg #[.slice As ns cs, .slice Ac nc cc, .slice Ak nk ck, .int .i64 lim, .int .i64 rnd], .pointer (some ⟨g, 0, none⟩), .slice A n c] w fun e w' => e = .returned (.tuple #[.slice none 0 0, .int .i64 1]) ∧ Below w.heap.size w w' := by
  have hb0 := below1 w (.cells #[.slice As ns cs, .slice Ac nc cc, .slice Ak nk ck, .int .i64 lim, .int .i64 rnd] 26)
  have KC := Lib.hid (count_c fq days hf hd g _ (hy.t hb0))
  generalize cntI fq days = m at *
  have t : decide (m < (n : Int)) = true := by simpa using hn
  clear hy
  go_enter Try.func9, Try.ntmps9
  go_wp2_with fail
  refine KC.out.mono ?_
  rintro e w1 ⟨rfl, rfl⟩
  go_wp2_with fail
  go_ret2
  exact ⟨rfl, hb0⟩
--%%
set_option maxRecDepth 100000 in
set_option maxHeartbeats 3200000 in
theorem tyear_c (sch : List (List Bd)) (As Ac Ak A : Option Addr) (ns cs nc cc nk ck n c : Nat) (lim rnd fq days : Int) (hf : nomI fq ≠ 0) (hd : 0 ≤ days ∧ days ≤ 366) (g : Nat) (l : List St) (w : World) (hs : ScSl w As ns sch) (hok : ∀ k, k < ns → bandsErr (sch.getD k []) = 0) (hm : modeB rnd = true) (hy : YrAt w g fq days) (hl : StSl w A n l) (hn : (n : Int) ≤ cntI fq days) (hn2 : n ≤ 1000) :
    Calls Try.prog 9 #[.agg #[.slice As ns cs, .slice Ac nc cc, .slice Ak nk ck, .int .i64 lim, .int .i64 rnd], .pointer (some ⟨g, 0, none⟩), .slice A n c] w (TYearR sch rnd (nomI fq) l n w) := by
  have hb0 := below1 w (.cells #[.slice As ns cs, .slice Ac nc cc, .slice Ak nk ck, .int .i64 lim, .int .i64 rnd] 26)
  have z0 := Blk.mk w 26 #[.slice As ns cs, .slice Ac nc cc, .slice Ak nk ck, .int .i64 lim, .int .i64 rnd]
  have KC := Lib.hid (count_c fq days hf hd g _ (hy.t hb0))
  have KE := Lib.hid (fun j s k a f al x tx ah W h1 h2 h3 r hr h0 => tnext_e sch As Ac Ak ns cs nc cc nk ck lim rnd fq days hf hd g j s k a f al x tx ah W h1 hok hm h2 h3 r hr h0)
  have KT := Lib.hid (fun j s k a f al x tx ah W h1 h2 h3 hr v hv => tnext_t sch As Ac Ak ns cs nc cc nk ck lim rnd fq days hf hd g j s k a f al x tx ah W h1 hok hm h2 h3 hr v hv)
  generalize nomI fq = nf at *
  generalize cntI fq days = m at *
  have t : decide (m < (n : Int)) = false := by simpa using hn
  have HS := Lib.hid hs
  have HL := Lib.hid hl
  have HY := Lib.hid hy
  have HN := Lib.hid hn
  clear hs hok hy hl hm hf
  go_enter Try.func9, Try.ntmps9
  go_wp2_with fail
  refine KC.out.mono ?_
  rintro e w1 ⟨rfl, rfl⟩
  go_wp2_with fail
  go_loopw [8, 9, 10, 21] (fun v tx du i wr => ∃ k : Nat, k ≤ n ∧ i = .int .i64 k ∧ tx = .int .i64 (sumX l k) ∧ du = .int .i64 (dueA sch rnd nf l k) ∧ Hid (∀ j, j < k → yE sch rnd nf l j = 0) ∧ OwnI wr w.heap.size v k (dueL sch rnd nf l k) ∧ Below w.heap.size w wr ∧ Blk wr w.heap.size 26 #[.slice As ns cs, .slice Ac nc cc, .slice Ak nk ck, .int .i64 lim, .int .i64 rnd]) (fun _ _ _ i _ => n - (intOf i).toNat)
  case atStart => exact ⟨0, Nat.zero_le _, rfl, rfl, rfl, fun j hj => absurd hj (by omega), ⟨rfl, World.ownsRow_nil _ _ _ _⟩, hb0, z0⟩
  case round =>
    obtain ⟨k, hk', rfl, rfl, rfl, hM, ⟨ho1, ho⟩, hbl, z⟩ := hrel
    have HO1 := Lib.hid ho1
    clear ho1
    by_cases hk : k < n
    case neg =>
      obtain rfl : k = n := by omega
      have HO := Lib.hid ho
      clear ho
      go_wp2_with fail
      go_ret2
      exact ⟨Or.inl ⟨hM.out, _, rfl, HO1.out, HO.out⟩, hbl⟩
    obtain ⟨b, off, rfl, hlt, hat⟩ := (HL.out.below hbl).2.2 (by omega)
    have hc := hat k hk
    have HYE : Hid (yE sch rnd nf l k = if mrB (sumX l k) = true ∧ mrB (l.getD k st0).x = true ∧ mrB (sumX l k + (l.getD k st0).x) = true then nextE sch rnd nf ((k : Int) + 1) (l.getD k st0) (sumX l k + (l.getD k st0).x) (dueA sch rnd nf l k) else 10) := rfl
    have HDA : Hid (dueA sch rnd nf l (k + 1) = nextV sch rnd nf ((k : Int) + 1) (l.getD k st0) (sumX l k + (l.getD k st0).x) (dueA sch rnd nf l k)) := rfl
    have HSX : Hid (sumX l (k + 1) = sumX l k + (l.getD k st0).x) := rfl
    have HDL := Lib.hid (dueL_snoc sch rnd nf l k)
    clear hat
    generalize sumX l k = sx at *
    generalize dueA sch rnd nf l k = da at *
    generalize dueL sch rnd nf l k = dl at *
    generalize l.getD k st0 = zz at *
    obtain ⟨⟨s, kd, a, f, al⟩, x⟩ := zz
    obtain ⟨c0, c1, c2, c3, c4, c5⟩ : wr.cell? ⟨b, off + k * 6, none⟩ = some (.int .i64 s) ∧ wr.cell? ⟨b, off + k * 6 + 1, none⟩ = some (.int .i64 kd) ∧ wr.cell? ⟨b, off + k * 6 + 2, none⟩ = some (.int .i64 a) ∧ wr.cell? ⟨b, off + k * 6 + 3, none⟩ = some (.int .i64 f) ∧ wr.cell? ⟨b, off + k * 6 + 4, none⟩ = some (.bool al) ∧ wr.cell? ⟨b, off + k * 6 + 5, none⟩ = some (.int .i64 x) := ⟨hc 0 _ rfl, hc 1 _ rfl, hc 2 _ rfl, hc 3 _ rfl, hc 4 _ rfl, hc 5 _ rfl⟩
    dsimp only at HYE HDA HSX
    have z1 := z.alloc (.cells #[.int .i64 s, .int .i64 kd, .int .i64 a, .int .i64 f, .bool al, .int .i64 x] 42)
    have y1 := Blk.mk wr 42 #[.int .i64 s, .int .i64 kd, .int .i64 a, .int .i64 f, .bool al, .int .i64 x]
    have hb1 := bA hbl (.cells #[.int .i64 s, .int .i64 kd, .int .i64 a, .int .i64 f, .bool al, .int .i64 x] 42)
    have HO := Lib.hid (ho.alloc (.cells #[.int .i64 s, .int .i64 kd, .int .i64 a, .int .i64 f, .bool al, .int .i64 x] 42))
    have hsz := hbl.size
    clear ho hc
    by_cases hA : mrB sx = true ∧ mrB x = true ∧ mrB (sx + x) = true
    case neg =>
      have hE : yE sch rnd nf l k = 10 := HYE.out.trans (if_neg hA)
      have KA := Lib.hid (add_f sx x · hA)
      have HE := Lib.hid hE
      clear hA hE
      go_wp2_with fail
      refine (KA.out _).mono ?_
      rintro e w2 ⟨rfl, hb2⟩
      go_wp2_with fail
      go_ret2
      exact ⟨Or.inr ⟨k, hk, hM.out, by rw [HE.out]; decide, by rw [HE.out]; rfl⟩, bT hb1 hb2⟩
    have HYE2 : Hid (yE sch rnd nf l k = nextE sch rnd nf ((k : Int) + 1) ⟨⟨s, kd, a, f, al⟩, x⟩ (sx + x) da) := HYE.out.trans (if_pos hA)
    have KA := Lib.hid (add_t sx x · hA.1 hA.2.1 hA.2.2)
    have hw : IntKind.i64.wrap ((k : Int) + 1) = (k : Int) + 1 := by rw [IntKind.wrap_i64]; omega
    have hj : 1 ≤ (k : Int) + 1 ∧ (k : Int) + 1 ≤ m := by have := HN.out; omega
    clear hA
    by_cases hE : yE sch rnd nf l k = 0
    case neg =>
      have KE1 := Lib.hid (fun W h1 h2 => KE.out ((k : Int) + 1) s kd a f al x (sx + x) da W h1 h2 hj _ HYE2 hE)
      have HE := Lib.hid hE
      have t2 : (yE sch rnd nf l k != 0) = true := by simpa using hE
      clear hE hj
      go_wp2_with fail
      refine (KA.out _).mono ?_
      rintro e w2 ⟨rfl, hb2⟩
      have hb3 := bT hb1 hb2
      obtain ⟨p0, p1, p2, p3, p4⟩ := (z1.t hb2).all5
      obtain ⟨q0, q1, q2, q3, q4, q5⟩ := (y1.t hb2).all6
      go_wp2_with fail
      refine (KE1.out _ (HS.out.below hb3) (HY.out.t hb3)).mono ?_
      rintro e w3 ⟨rfl, hb4⟩
      go_wp2_with fail
      go_ret2
      exact ⟨Or.inr ⟨k, hk, hM.out, HE.out, rfl⟩, bT hb3 hb4⟩
    have KT1 := Lib.hid (fun W h1 h2 => KT.out ((k : Int) + 1) s kd a f al x (sx + x) da W h1 h2 hj (HYE2.out.symm.trans hE) _ HDA)
    have HE := Lib.hid hE
    clear hE hj
    go_wp2_with fail
    refine (KA.out _).mono ?_
    rintro e w2 ⟨rfl, hb2⟩
    have hb3 := bT hb1 hb2
    have z2 := z1.t hb2
    obtain ⟨p0, p1, p2, p3, p4⟩ := z2.all5
    obtain ⟨q0, q1, q2, q3, q4, q5⟩ := (y1.t hb2).all6
    go_wp2_with fail
    refine (KT1.out _ (HS.out.below hb3) (HY.out.t hb3)).mono ?_
    rintro e w3 ⟨rfl, hb4⟩
    have z3 := z2.t hb4
    have hb5 := bT hb3 hb4
    have HO2 := Lib.hid (own_below (own_below HO.out hb2) hb4)
    have hs5 := hb5.size
    generalize hdn : dueA sch rnd nf l (k + 1) = dn at *
    have HDN := Lib.hid hdn
    clear hdn
    go_wp2_with (at_builtin; refine wpList_app1 _ rfl _ _ 28 rfl 2 _ 1 8 Try.underlying28 info_i64 rfl (by decide) rfl HO2.out _ rfl (by first | rfl | simp) rfl (by simp [Value.oneCell']) (by omega) (by omega) (by first | omega | (simp; omega)) ?_; intro v' w6 ho' hg)
    go_roundw
    case rel =>
      refine ⟨k + 1, by omega, by go_num, ?_, ?_, fun j hj => ?_, ⟨?_, ?_⟩, bP hb5 HO2.out hg (Nat.le_refl _), z3.grown hg (own_blk HO2.out z3 (by decide))⟩
      · rw [HSX.out]
      · rw [HDN.out]
      · rcases (by omega : j = k ∨ j < k) with rfl | hj
        · exact HE.out
        · exact hM.out j hj
      · rw [HDL.out]; simp [← HO1.out]
      · rw [HDL.out]; simpa using ho'
    case measure => simp [intOf]; omega
--%%
end Go.Proofs.Ytankoappneglcaa
