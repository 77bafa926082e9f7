/-
  Contracts of table.kinds and table.schemes: an answer 0 tells that they may be. Conditions as named.
-/
import Derived.Test.YtcngmajkkhipoaaGreatDoorTable2
namespace Go.Proofs.YtcngmajkkhipoaaGreatDoor
set_option linter.unusedVariables false
open Go.RowKit
theorem Blk.all4 {w : World} {g : Nat} {t : TypeId} {a b c d : Value} (h : Blk w g t #[a, b, c, d]) : w.cell? ⟨g, 0, none⟩ = some a ∧ w.cell? ⟨g, 1, none⟩ = some b ∧ w.cell? ⟨g, 2, none⟩ = some c ∧ w.cell? ⟨g, 3, none⟩ = some d :=
  ⟨h.cell 0, h.cell 1, h.cell 2, h.cell 3⟩
--%%
theorem sign_c (n : Int) (w : World) : Calls Tryz.prog 48 #[.int .i64 n] w fun e w' => e = .returned (.bool (decide (-1 ≤ n ∧ n ≤ 1))) ∧ w = w' := by
  by_cases h1 : -1 ≤ n
  · by_cases h2 : n ≤ 1
    · go_enter Tryz.func48, Tryz.ntmps48
      go_wp2
      go_ret
      exact ⟨ret_bool (by simp; omega), rfl⟩
    · go_enter Tryz.func48, Tryz.ntmps48
      go_wp2
      go_ret
      exact ⟨ret_bool (by simp; omega), rfl⟩
  · go_enter Tryz.func48, Tryz.ntmps48
    go_wp2
    go_ret
    exact ⟨ret_bool (by simp; omega), rfl⟩
--%%
set_option maxRecDepth 100000 in
set_option maxHeartbeats 1600000 in
theorem kinds_c (l : List Kd) (As Ac Ak : Option Addr) (ns cs nc cc nk ck : Nat) (lim rnd : Int) (w : World) (hs : KdSl w Ak nk l) (hcap : nk ≤ ck) :
    Calls Tryz.prog 22 #[.agg #[.slice As ns cs, .slice Ac nc cc, .slice Ak nk ck, .int .i64 lim, .int .i64 rnd]] w (Tells (∀ k, k < nk → KdOK (l.getD k kd0)) w) := by
  by_cases h0 : nk = 0
  · have h0' : ((nk : Int) == 0) = true := by simp; omega
    have H0 := Lib.hid h0
    clear h0
    go_enter Tryz.func22, Tryz.ntmps22
    go_wp2_with fail
    go_ret
    exact ⟨_, ⟨rfl, fun h => absurd h (by decide)⟩, below1 _ _⟩
  have h0' : ((nk : Int) == 0) = false := by simp; omega
  by_cases h6 : 12 < nk
  · have h6' : (12 : Int) < (nk : Int) := by omega
    go_enter Tryz.func22, Tryz.ntmps22
    go_wp2_with fail
    go_ret
    exact ⟨_, ⟨rfl, fun h => absurd h (by decide)⟩, below1 _ _⟩
  have h6' : ¬ (12 : Int) < (nk : Int) := by omega
  have HS := Lib.hid hs
  go_enter Tryz.func22, Tryz.ntmps22
  go_wp2_with fail
  go_loopw [18] (fun i wr => ∃ k : Nat, k ≤ nk ∧ i = .int .i64 k ∧ Hid (∀ j, j < k → KdOK (l.getD j kd0)) ∧ Below w.heap.size w wr ∧ Blk wr w.heap.size 26 #[.slice As ns cs, .slice Ac nc cc, .slice Ak nk ck, .int .i64 lim, .int .i64 rnd]) (fun i _ => nk - (intOf i).toNat)
  case atStart => exact ⟨0, Nat.zero_le _, rfl, fun j hj => by omega, below1 _ _, Blk.mk _ _ _⟩
  case round =>
    obtain ⟨k, hk', rfl, hok, hbl, z⟩ := hrel
    by_cases hk : k < nk
    case neg =>
      go_wp2_with fail
      go_ret
      exact ⟨_, ⟨rfl, fun _ => by have := hok.out; rwa [show nk = k by omega]⟩, hbl⟩
    have hsr := HS.out.below hbl
    obtain ⟨b, off, rfl, hlt, hat⟩ := hsr.2.2 (by omega)
    obtain ⟨c0, hsz, c1, c2, c3⟩ := hat k hk
    obtain ⟨z0, z1, z2, z3, z4⟩ := z.all5
    have hzl := z.lt
    have HX : Hid (∀ (_ : nameB (l.getD k kd0).nm = true) (_ : -1 ≤ (l.getD k kd0).c ∧ (l.getD k kd0).c ≤ 1) (_ : -1 ≤ (l.getD k kd0).t ∧ (l.getD k kd0).t ≤ 1) (_ : -1 ≤ (l.getD k kd0).s ∧ (l.getD k kd0).s ≤ 1), KdOK (l.getD k kd0)) := fun a b c d => ⟨a, b, c, d⟩
    have HR := Lib.hid hsr
    clear hat hsr hs
    generalize hxx : l.getD k kd0 = x at *
    have HXX := Lib.hid hxx
    clear hxx
    obtain ⟨nm, xc, xt, xs⟩ := x
    simp only at c0 c1 c2 c3 hsz HX
    cases hnm : nameB nm
    · go_wp2_with fail
      refine (name_c nm _ hsz).mono ?_
      rintro e w' ⟨rfl, rfl⟩
      go_wp2_with fail
      go_ret
      exact ⟨_, ⟨rfl, fun h => absurd h (by decide)⟩, hbl.alloc hbl.size _⟩
    go_wp2_with fail
    refine (name_c nm _ hsz).mono ?_
    rintro e w' ⟨rfl, rfl⟩
    go_wp2_with fail
    refine (kcontains_c (l.take k) _ k ck _ nm _ ((SlOf.take HR.out k (by omega)).below (fun b off x hx hlt => hx.below hlt (below1 _ _)) (below1 _ _)) (by simp) (by simp)).mono ?_
    rintro e w1 ⟨bb, rfl, hb1⟩
    have b1 : Below w.heap.size w w1 := (hbl.alloc hbl.size _).trans (hb1.mono (by have := hbl.size; simp; omega))
    have zz := (z.alloc _).below hb1 (by simp; omega)
    have cb := (Blk.mk wr _ _).below hb1 (by simp)
    obtain ⟨y0, y1, y2, y3, y4⟩ := zz.all5
    obtain ⟨q0, q1, q2, q3⟩ := cb.all4
    cases bb
    case true =>
      go_wp2_with fail
      go_ret
      exact ⟨_, ⟨rfl, fun h => absurd h (by decide)⟩, b1⟩
    cases e1 : decide (-1 ≤ xc ∧ xc ≤ 1)
    · go_wp2_with fail
      refine (sign_c xc _).mono ?_
      rw [e1]
      rintro e w' ⟨rfl, rfl⟩
      go_wp2_with fail
      go_ret
      exact ⟨_, ⟨rfl, fun h => absurd h (by decide)⟩, b1⟩
    cases e2 : decide (-1 ≤ xt ∧ xt ≤ 1)
    · go_wp2_with fail
      refine (sign_c xc _).mono ?_
      rw [e1]
      rintro e w' ⟨rfl, rfl⟩
      go_wp2_with fail
      refine (sign_c xt _).mono ?_
      rw [e2]
      rintro e w' ⟨rfl, rfl⟩
      go_wp2_with fail
      go_ret
      exact ⟨_, ⟨rfl, fun h => absurd h (by decide)⟩, b1⟩
    cases e3 : decide (-1 ≤ xs ∧ xs ≤ 1)
    all_goals
      go_wp2_with fail
      refine (sign_c xc _).mono ?_
      rw [e1]
      rintro e w' ⟨rfl, rfl⟩
      go_wp2_with fail
      refine (sign_c xt _).mono ?_
      rw [e2]
      rintro e w' ⟨rfl, rfl⟩
      go_wp2_with fail
      refine (sign_c xs _).mono ?_
      rw [e3]
      rintro e w' ⟨rfl, rfl⟩
      go_wp2_with fail
    · go_ret
      exact ⟨_, ⟨rfl, fun h => absurd h (by decide)⟩, b1⟩
    have HG : Hid (KdOK ⟨nm, xc, xt, xs⟩) := HX.out hnm (of_decide_eq_true e1) (of_decide_eq_true e2) (of_decide_eq_true e3)
    go_roundw
    case rel => exact ⟨k + 1, by omega, by go_num, fun j hj => by
      rcases (by omega : j = k ∨ j < k) with rfl | hj
      · exact HXX.out ▸ HG.out
      · exact hok.out j hj, b1, zz⟩
    case measure => simp [intOf]; omega
--%%
end Go.Proofs.YtcngmajkkhipoaaGreatDoor
