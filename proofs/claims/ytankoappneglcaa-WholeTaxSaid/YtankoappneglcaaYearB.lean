/-
  Plain: a year of periods with their codes; an append at the end of a region that draws. Conditions as named.
-/
import Derived.Test.YtankoappneglcaaTax5
namespace Go.Proofs.Ytankoappneglcaa
set_option linter.unusedVariables false
open Go.RowKit
def cdC (z : Cd) : List Value := [.int .i64 z.s, .int .i64 z.k, .int .i64 z.a, .int .i64 z.f, .bool z.al]
theorem cdC_len (z : Cd) : (cdC z).length = 5 := rfl
def cd0 : Cd := ⟨0, 0, 0, 0, false⟩
abbrev CdSl := RowSl cdC 5 cd0
theorem cK {W W1 : World} (hb : Below W.heap.size W W1) {a : Addr} {v : Value} (h : W.cell? a = some v) : W1.cell? a = some v := (hb.cell (World.block_lt_of_cell? W _ h)).trans h
/-- what a period's due is reckoned without an error tells -/
theorem yE_zero {sch : List (List Bd)} {rnd nom : Int} {l : List St} {k : Nat} (h : yE sch rnd nom l k = 0) :
    mrB (sumX l k) = true ∧ mrB (l.getD k st0).x = true ∧ mrB (sumX l (k + 1)) = true ∧ nextE sch rnd nom ((k : Int) + 1) (l.getD k st0) (sumX l k + (l.getD k st0).x) (dueA sch rnd nom l k) = 0 := by
  unfold yE at h
  by_cases h1 : mrB (sumX l k) = true ∧ mrB (l.getD k st0).x = true ∧ mrB (sumX l k + (l.getD k st0).x) = true
  · rw [if_pos h1] at h
    exact ⟨h1.1, h1.2.1, h1.2.2, h⟩
  · rw [if_neg h1] at h; cases h
theorem dueL_get (sch : List (List Bd)) (rnd nom : Int) (l : List St) (n k : Nat) (h : k < n) : (dueL sch rnd nom l n).getD k 0 = dueA sch rnd nom l (k + 1) := by simp [dueL, List.getD, h]
theorem map_getD {α β : Type} (f : α → β) (l : List α) (k : Nat) (d : α) (d' : β) (h : k < l.length) : (l.map f).getD k d' = f (l.getD k d) := by simp [List.getD, List.getElem?_eq_getElem h]
--%%
theorem app_one {w wr w1 : World} {A : Option Addr} {k c : Nat} {dl : List Int} {tb : Array Value} {tt : TypeId} (dn : Int) (hbl : Below w.heap.size w wr) (hb1 : Below wr.heap.size wr w1) (ho : wr.ownsRow w.heap.size 2 1 (.slice A k c) k (dl.map (Value.int .i64))) (hk : k ≤ 100000) (z : Blk wr w.heap.size tt tb) (ht : 2 ≠ tt) :
    ∃ v' w7, (Builtin.append_ #[28, 28] 28 #[.slice A k c, .slice (some ⟨w1.heap.size, 0, none⟩) 1 1]).run Try.prog (w1.alloc (.cells #[.int .i64 dn] 2)) = .ok v' w7 ∧ w7.ownsRow w.heap.size 2 1 v' (k + 1) ((dl ++ [dn]).map (Value.int .i64)) ∧ Below w.heap.size w w7 ∧ Blk w7 w.heap.size tt tb := by
  have hB := bT hbl hb1
  have hs := hB.size
  have ho1 := own_below ho hb1
  have z1 := z.t hb1
  obtain ⟨v', w7, hr, ho7, hg⟩ := run_app1 (P := Try.prog) w1 28 28 2 (.int .i64 0) 1 8 Try.underlying28 info_i64 rfl (by decide) ho1 #[.int .i64 dn] rfl (by simp [Value.oneCell']) (by omega) (by omega) hs
  exact ⟨v', w7, hr, by simpa using ho7, bP hB ho1 hg (Nat.le_refl _), z1.grown hg (own_blk ho1 z1 ht)⟩
--%%
end Go.Proofs.Ytankoappneglcaa
