/-
  Contracts of package base: what counts of a base. Conditions as named.
-/
import Derived.Test.YtpheeblpfcipaaaTable2
import Derived.Lib.MinMax
namespace Go.Proofs.Ytpheeblpfcipaaa
set_option linter.unusedVariables false
open Go.RowKit
/-- a period's bases -/
structure Bs where
  c : Int
  t : Int
  s : Int
def bs0 : Bs := ⟨0, 0, 0⟩
def bsR (b : Bs) : Bool := mrB b.c && (mrB b.t && mrB b.s)
def onI (base : Int) (b : Bs) : Int := if base = 1 then max 0 b.t else max 0 b.s
/-- how much of a base counts under the ceilings -/
def underI (pc yc x ahead : Int) : Int :=
  let a := max 0 x
  let b := if 0 < pc then min a pc else a
  if 0 < yc then min b (max 0 (yc - max 0 ahead)) else b
--%%
theorem bright_c (b : Bs) (w : World) : Calls Try.prog 28 #[.agg #[.int .i64 b.c, .int .i64 b.t, .int .i64 b.s]] w fun e w' => e = .returned (.bool (bsR b)) ∧ Below w.heap.size w w' := by
  obtain ⟨c, t, s⟩ := b
  unfold bsR
  dsimp only
  go_enter Try.func28, Try.ntmps28
  go_wp2_with fail
  refine (right3 _ _ _ c t s _ (by simp) (by simp) (by simp)).mono ?_
  rintro e w' ⟨rfl, rfl⟩
  go_wp2_with fail
  go_ret
  exact ⟨rfl, (below1 _ _).alloc (by simp) _⟩
--%%
theorem on_c (nm : ByteArray) (base pc yc rd : Int) (A : Option Addr) (n c : Nat) (b : Bs) (w : World) :
    Calls Try.prog 32 #[.agg #[.string nm, .int .i64 base, .slice A n c, .int .i64 pc, .int .i64 yc, .int .i64 rd], .agg #[.int .i64 b.c, .int .i64 b.t, .int .i64 b.s]] w fun e w' => e = .returned (.int .i64 (onI base b)) ∧ Below w.heap.size w w' := by
  obtain ⟨xc, xt, xs⟩ := b
  unfold onI
  dsimp only
  by_cases h : base = 1
  · subst h
    rw [if_pos rfl]
    go_enter Try.func32, Try.ntmps32
    go_wp2
    go_ret
    exact ⟨rfl, (below1 _ _).alloc (by simp) _⟩
  · rw [if_neg h]
    have h' : (base == 1) = false := by simpa using h
    clear h
    go_enter Try.func32, Try.ntmps32
    go_wp2
    go_ret
    exact ⟨rfl, (below1 _ _).alloc (by simp) _⟩
--%%
theorem under_c (nm : ByteArray) (base pc yc rd : Int) (A : Option Addr) (n c : Nat) (x ahead : Int) (w : World) (hyc : -4611686018427387904 ≤ yc ∧ yc ≤ 4611686018427387904) (ha : -4611686018427387904 ≤ ahead ∧ ahead ≤ 4611686018427387904) :
    Calls Try.prog 31 #[.agg #[.string nm, .int .i64 base, .slice A n c, .int .i64 pc, .int .i64 yc, .int .i64 rd], .int .i64 x, .int .i64 ahead] w fun e w' => e = .returned (.int .i64 (underI pc yc x ahead)) ∧ Below w.heap.size w w' := by
  unfold underI
  dsimp only
  by_cases h1 : 0 < pc <;> by_cases h2 : 0 < yc
  · rw [if_pos h1, if_pos h2]
    go_enter Try.func31, Try.ntmps31
    go_wp2
    go_ret
    exact ⟨ret_int (show _ = _ by omega), below1 _ _⟩
  · rw [if_pos h1, if_neg h2]
    go_enter Try.func31, Try.ntmps31
    go_wp2
    go_ret
    exact ⟨rfl, below1 _ _⟩
  · rw [if_neg h1, if_pos h2]
    go_enter Try.func31, Try.ntmps31
    go_wp2
    go_ret
    exact ⟨rfl, below1 _ _⟩
  · rw [if_neg h1, if_neg h2]
    go_enter Try.func31, Try.ntmps31
    go_wp2
    go_ret
    exact ⟨rfl, below1 _ _⟩
--%%
end Go.Proofs.Ytpheeblpfcipaaa
