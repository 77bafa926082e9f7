/-
  Contract of table.bands: bands as words. Conditions as named.
-/
import Derived.Test.YtcngmajkkhipoaaGreatDoorM1
import Derived.Test.YtcngmajkkhipoaaGreatDoorBand
import Derived.Deep.RegionHeld3
import Derived.Laws.Concat
namespace Go.Proofs.YtcngmajkkhipoaaGreatDoor
set_option linter.unusedVariables false
open Go.RowKit
theorem ba_app (a b : List UInt8) : (⟨a.toArray⟩ ++ ⟨b.toArray⟩ : ByteArray) = ⟨(a ++ b).toArray⟩ := by
  apply ByteArray.ext
  simp
/-- a band as a word -/
def bdT (both : Bool) (b : Bd) : List UInt8 := textB b.f ++ 58 :: (Lib.itoa b.r ++ (if both = true then 58 :: Lib.itoa b.e else []))
def bdsT (both : Bool) (l : List Bd) : List ByteArray := l.map fun b => ⟨(bdT both b).toArray⟩
theorem bdsT_snoc (both : Bool) (l : List Bd) (k : Nat) (hk : k < l.length) : bdsT both (l.take (k + 1)) = bdsT both (l.take k) ++ [⟨(bdT both (l.getD k bd0)).toArray⟩] := by
  unfold bdsT
  rw [List.take_add_one, List.getElem?_eq_getElem hk, List.map_append]
  simp [List.getD, List.getElem?_eq_getElem hk]
structure BdOK (b : Bd) : Prop where
  f : -100000000000 ≤ b.f ∧ b.f ≤ 100000000000
  r : 0 ≤ b.r ∧ b.r ≤ 10000
  e : 0 ≤ b.e ∧ b.e ≤ 10000
def GivesSt (n : Nat) (L : List ByteArray) (w : World) (e : Ending) (w' : World) : Prop := (∃ v, e = .returned v ∧ OwnSt w' w.heap.size v n L) ∧ Below w.heap.size w w'
--%%
set_option maxRecDepth 100000 in
set_option maxHeartbeats 3200000 in
theorem tbands_c (A : Option Addr) (n c : Nat) (l : List Bd) (both : Bool) (w : World) (hl : BandSl w A n l) (hok : ∀ k, k < n → BdOK (l.getD k bd0)) (hn : n ≤ 1000) (htab : Tab w) :
    Calls Tryz.prog 26 #[.slice A n c, .bool both] w (GivesSt n (bdsT both l) w) := by
  have HL := Lib.hid hl
  have HOK := Lib.hid hok
  have HT := Lib.hid htab
  have HN := Lib.hid hl.1
  clear hl hok htab
  go_enter Tryz.func26, Tryz.ntmps26
  go_wp2_with fail
  go_loopw [5, 11] (fun cv ci wr => ∃ (k : Nat) (A1 : Option Addr) (c1 : Nat), k ≤ n ∧ ci = .int .i64 k ∧ cv = .slice A1 k c1 ∧ Hid (OwnSt wr w.heap.size (.slice A1 k c1) k (bdsT both (l.take k))) ∧ Below w.heap.size w wr) (fun _ ci _ => n - (intOf ci).toNat)
  case atStart => exact ⟨0, none, 0, Nat.zero_le _, rfl, rfl, ⟨rfl, World.ownsRow_nil _ _ _ _⟩, b0 _⟩
  case round =>
    obtain ⟨k, A1, c1, hk', rfl, rfl, HO, hbl⟩ := hrel
    by_cases hk : k < n
    case neg =>
      obtain rfl : n = k := by omega
      have HF : Hid (bdsT both (l.take n) = bdsT both l) := by unfold Hid; rw [HN.out, List.take_length]
      go_wp2_with fail
      go_ret
      exact ⟨⟨_, rfl, by have := HO.out; rwa [HF.out] at this⟩, hbl⟩
    obtain ⟨b, off, rfl, hlt, hat⟩ := (HL.out.below hbl).2.2 (by omega)
    have hcl := hat k (by rw [← HN.out]; exact hk)
    have hbk := HOK.out k hk
    have HSN := Lib.hid (bdsT_snoc both l k (by rw [← HN.out]; exact hk))
    generalize l.getD k bd0 = zz at *
    obtain ⟨bf, br, be⟩ := zz
    obtain ⟨c0, c1', c2⟩ := hcl
    obtain ⟨⟨f0, f1⟩, ⟨r0, r1⟩, e0, e1⟩ := hbk
    dsimp only at c0 c1' c2 f0 f1 r0 r1 e0 e1
    have lt := textB_len bf f0 f1
    have lr := itoa_len br (by omega) (by omega)
    have le := itoa_len be (by omega) (by omega)
    have KT : Hid (∀ W, Tab W → Calls Tryz.prog 27 #[.int .i64 bf] W fun e w' => e = .returned (.string ⟨(textB bf).toArray⟩) ∧ Below W.heap.size W w') := fun W ht => text_c bf W (by omega) (by omega) ht
    have KR : Hid (∀ W, Tab W → Calls Tryz.prog 23 #[.int .i64 br] W fun e w' => e = .returned (.string ⟨(Lib.itoa br).toArray⟩) ∧ Below W.heap.size W w') := fun W ht => tnumber_c br (by omega) (by omega) W ht
    have KE : Hid (∀ W, Tab W → Calls Tryz.prog 23 #[.int .i64 be] W fun e w' => e = .returned (.string ⟨(Lib.itoa be).toArray⟩) ∧ Below W.heap.size W w') := fun W ht => tnumber_c be (by omega) (by omega) W ht
    have z := Blk.mk wr 44 #[.int .i64 bf, .int .i64 br, .int .i64 be]
    have HBW := Lib.hid (bA hbl (.cells #[.int .i64 bf, .int .i64 br, .int .i64 be] 44))
    have G : Hid (∀ W, Below ((wr.alloc (.cells #[.int .i64 bf, .int .i64 br, .int .i64 be] 44))).heap.size (wr.alloc (.cells #[.int .i64 bf, .int .i64 br, .int .i64 be] 44)) W → Below ((wr.alloc (.cells #[.int .i64 bf, .int .i64 br, .int .i64 be] 44))).heap.size (wr.alloc (.cells #[.int .i64 bf, .int .i64 br, .int .i64 be] 44)) W ∧ (W.cell? ⟨wr.heap.size, 0, none⟩ = some (.int .i64 bf) ∧ W.cell? ⟨wr.heap.size, 1, none⟩ = some (.int .i64 br) ∧ W.cell? ⟨wr.heap.size, 2, none⟩ = some (.int .i64 be)) ∧ Tab W) := fun W hW => ⟨hW, ⟨(z.t hW).cell 0, (z.t hW).cell 1, (z.t hW).cell 2⟩, HT.out.t (bT HBW.out hW)⟩
    have HD : Hid (bdT both ⟨bf, br, be⟩ = textB bf ++ 58 :: (Lib.itoa br ++ (if both = true then 58 :: Lib.itoa be else []))) := rfl
    generalize bdT both ⟨bf, br, be⟩ = et at *
    generalize textB bf = ta at *
    generalize Lib.itoa br = tr at *
    generalize Lib.itoa be = te at *
    have st1 : ∀ W, (Op.stringOp .add ⟨ta.toArray⟩ ⟨#[58]⟩).run Tryz.prog W = .ok (.string ⟨(ta ++ [58]).toArray⟩) W := fun W => run_string_add_lists W ta [58] (by omega) (by decide)
    have st2 : ∀ W, (Op.stringOp .add ⟨(ta ++ [58]).toArray⟩ ⟨tr.toArray⟩).run Tryz.prog W = .ok (.string ⟨(ta ++ [58] ++ tr).toArray⟩) W := fun W => run_string_add_lists W (ta ++ [58]) tr (by simp; omega) (by omega)
    have HO2 := Lib.hid (HO.out.2.alloc (.cells #[.int .i64 bf, .int .i64 br, .int .i64 be] 44))
    have HO1 := Lib.hid HO.out.1
    have hsz := hbl.size
    clear hbl hat z
    cases both with
    | false =>
      have HD2 : Hid (et = ta ++ 58 :: tr) := by unfold Hid; rw [HD.out]; simp
      go_wp2_with fail
      go_region_held3 (fun W => Below ((wr.alloc (.cells #[.int .i64 bf, .int .i64 br, .int .i64 be] 44))).heap.size (wr.alloc (.cells #[.int .i64 bf, .int .i64 br, .int .i64 be] 44)) W ∧ (W.cell? ⟨wr.heap.size, 0, none⟩ = some (.int .i64 bf) ∧ W.cell? ⟨wr.heap.size, 1, none⟩ = some (.int .i64 br) ∧ W.cell? ⟨wr.heap.size, 2, none⟩ = some (.int .i64 be)) ∧ Tab W)
        (first | assumption | exact G.out _ (b0 _).drew | (exact sK G.out (by assumption) (by assumption)) | (exact sK G.out (by assumption) (below1 _ _)))
        (first | (go_at_call 27; (with_reducible refine (KT.out _ (show Below _ _ _ ∧ _ ∧ Tab _ from by assumption).2.2).mono ?_); rintro e w1 ⟨rfl, hb1⟩) | (go_at_call 23; (with_reducible refine (KR.out _ (show Below _ _ _ ∧ _ ∧ Tab _ from by assumption).2.2).mono ?_); rintro e w1 ⟨rfl, hb1⟩))
      all_goals
        have hbz := (show Below ((wr.alloc (.cells #[.int .i64 bf, .int .i64 br, .int .i64 be] 44))).heap.size (wr.alloc (.cells #[.int .i64 bf, .int .i64 br, .int .i64 be] 44)) _ ∧ _ from by assumption).1
        have HO3 := Lib.hid (own_below HO2.out hbz)
        have HB3 := Lib.hid (bT HBW.out hbz)
        have hsz3 := HB3.out.size
        clear hbz
        go_wp2_with (at_builtin; refine wpList_app1 _ rfl _ _ 33 rfl 9 _ 1 16 Tryz.underlying33 info_str rfl (by decide) rfl HO3.out _ rfl (by first | rfl | simp) rfl (by simp [Value.oneCell']) (by omega) (by omega) (by first | omega | (simp; omega)) ?_; intro v' w6 ho' hg)
        obtain ⟨A6, c6, rfl⟩ := own_slice ho'
        have HO6 : Hid (OwnSt w6 w.heap.size (.slice A6 (k + 1) c6) (k + 1) (bdsT false (l.take (k + 1)))) := by
          unfold Hid
          rw [HSN.out, HD2.out]
          exact ⟨by simp [← HO1.out], by simpa [stC] using ho'⟩
        have HB6 := Lib.hid (bP HB3.out HO3.out hg (Nat.le_refl _))
        clear ho' hg
        go_wp2_with fail
        go_roundw
        case rel => exact ⟨k + 1, A6, c6, by omega, by go_num, rfl, HO6.out, HB6.out⟩
        case measure => simp [intOf]; omega
    | true =>
      have HD2 : Hid (et = ta ++ 58 :: (tr ++ 58 :: te)) := by unfold Hid; rw [HD.out]; simp
      go_wp2_with fail
      go_region_held3 (fun W => Below ((wr.alloc (.cells #[.int .i64 bf, .int .i64 br, .int .i64 be] 44))).heap.size (wr.alloc (.cells #[.int .i64 bf, .int .i64 br, .int .i64 be] 44)) W ∧ (W.cell? ⟨wr.heap.size, 0, none⟩ = some (.int .i64 bf) ∧ W.cell? ⟨wr.heap.size, 1, none⟩ = some (.int .i64 br) ∧ W.cell? ⟨wr.heap.size, 2, none⟩ = some (.int .i64 be)) ∧ Tab W)
        (first | assumption | exact G.out _ (b0 _).drew | (exact sK G.out (by assumption) (by assumption)) | (exact sK G.out (by assumption) (below1 _ _)))
        (first | (go_at_call 27; (with_reducible refine (KT.out _ (show Below _ _ _ ∧ _ ∧ Tab _ from by assumption).2.2).mono ?_); rintro e w1 ⟨rfl, hb1⟩) | (go_at_call 23; (with_reducible refine (KR.out _ (show Below _ _ _ ∧ _ ∧ Tab _ from by assumption).2.2).mono ?_); rintro e w1 ⟨rfl, hb1⟩))
      all_goals
        have hS := (show Below ((wr.alloc (.cells #[.int .i64 bf, .int .i64 br, .int .i64 be] 44))).heap.size (wr.alloc (.cells #[.int .i64 bf, .int .i64 br, .int .i64 be] 44)) _ ∧ (_ ∧ _ ∧ _) ∧ Tab _ from by assumption)
        have q2 := hS.2.1.2.2
        have HTB := Lib.hid hS.2.2
        have HO3 := Lib.hid (own_below HO2.out hS.1)
        have HB3 := Lib.hid (bT HBW.out hS.1)
        have hsz3 := HB3.out.size
        clear hS
        go_wp2_with fail
        refine (KE.out _ HTB.out).mono ?_
        rintro e w7 ⟨rfl, hb7⟩
        have HO7 := Lib.hid (own_below HO3.out hb7)
        have HB7 := Lib.hid (bT HB3.out hb7)
        have hsz7 := HB7.out.size
        clear hb7 q2
        go_wp2_with (at_builtin; refine wpList_app1 _ rfl _ _ 33 rfl 9 _ 1 16 Tryz.underlying33 info_str rfl (by decide) rfl HO7.out _ rfl (by first | rfl | simp) rfl (by simp [Value.oneCell']) (by omega) (by omega) (by first | omega | (simp; omega)) ?_; intro v' w6 ho' hg)
        obtain ⟨A6, c6, rfl⟩ := own_slice ho'
        have HO6 : Hid (OwnSt w6 w.heap.size (.slice A6 (k + 1) c6) (k + 1) (bdsT true (l.take (k + 1)))) := by
          unfold Hid
          rw [HSN.out, HD2.out]
          have e : (⟨(ta ++ 58 :: tr).toArray⟩ ++ (⟨#[58]⟩ ++ ⟨te.toArray⟩) : ByteArray) = ⟨(ta ++ 58 :: (tr ++ 58 :: te)).toArray⟩ := by
            rw [show (⟨#[58]⟩ : ByteArray) = ⟨[58].toArray⟩ from rfl, ba_app, ba_app]; simp
          rw [e] at ho'
          exact ⟨by simp [← HO1.out], by simpa [stC] using ho'⟩
        have HB6 := Lib.hid (bP HB7.out HO7.out hg (Nat.le_refl _))
        clear ho' hg
        go_wp2_with fail
        go_roundw
        case rel => exact ⟨k + 1, A6, c6, by omega, by go_num, rfl, HO6.out, HB6.out⟩
        case measure => simp [intOf]; omega
--%%
end Go.Proofs.YtcngmajkkhipoaaGreatDoor
