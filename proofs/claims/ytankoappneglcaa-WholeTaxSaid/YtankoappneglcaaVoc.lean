/-
  Words for the walks of this seat: worlds, small facts on lists. No program, no conditions.
-/
import Derived.WalkKit
import Derived.ProofKit
import Derived.Below
import Derived.Lib.Hide
import Derived.ScopeJumps
namespace Go.Proofs.Ytankoappneglcaa
set_option linter.unusedVariables false
open Go.RowKit

theorem bcell {W w1 : World} (hb : Below W.heap.size W w1) : (∀ b o, b < W.heap.size → w1.cell? ⟨b, o, none⟩ = W.cell? ⟨b, o, none⟩) ∧ (∀ b o, b < W.heap.size → w1.frozen? ⟨b, o, none⟩ = W.frozen? ⟨b, o, none⟩) :=
  ⟨fun b o h => hb.cell (p := ⟨b, o, none⟩) h, fun b o h => hb.frozen (p := ⟨b, o, none⟩) h⟩

theorem below1 (w : World) (o : Obj) : Below w.heap.size w (w.alloc o) := (Below.refl _ _).alloc (Nat.le_refl _) o

theorem allTake {α : Type} (p : α → Bool) (l : List α) (k : Nat) (hk : k < l.length) (d : α) : (l.take (k + 1)).all p = ((l.take k).all p && p (l.getD k d)) := by
  rw [List.take_add_one, List.all_append]
  simp [List.getD, List.getElem?_eq_getElem hk]
theorem all_no {α : Type} (p : α → Bool) (l : List α) (k : Nat) (hk : k < l.length) (d : α) (h : p (l.getD k d) = false) : l.all p = false := by
  rw [List.all_eq_false]
  refine ⟨l[k], List.getElem_mem hk, ?_⟩
  rw [show l.getD k d = l[k] from by simp [List.getD, List.getElem?_eq_getElem hk]] at h
  simp [h]
theorem ret_bool {a b : Bool} (h : a = b) : Ending.returned (.bool a) = .returned (.bool b) := by rw [h]
theorem ret_int {k : IntKind} {a b : Int} (h : a = b) : Ending.returned (.int k a) = .returned (.int k b) := by rw [h]

/-- A scope whose label is jumped to from behind it: what holds at the label, each time, and a measure; the pass from the label is shown once. -/
theorem wp_scope_goto {P : Program} {a : Act} {w : World} {Q : Exit → Act → World → Prop} {c rest : Code} (l : Nat) (J : Act → World → Prop) (μ : Act → World → Nat) (hf : findLabel c l = some (.seq .skip rest))
    (pass : ∀ a w, J a w → rest.wp P (Exit.jump l (fun a' w' => J a' w' ∧ μ a' w' < μ a w) Q) a w)
    (first : (∀ a w, J a w → rest.wp P (Exit.jump l J Q) a w) → c.wp P (Exit.jump l J Q) a w) : (Code.scope c).wp P Q a w := by
  have sk : ∀ {Q : Exit → Act → World → Prop} {a : Act} {w : World}, rest.wp P Q a w → (Code.seq .skip rest).wp P Q a w := fun h => wp_seq (wp_skip h)
  refine wp_scope_jumps l J μ hf (first fun a w hJ => ?_) fun a w hJ => sk (pass a w hJ)
  refine Code.wp_mono ?_ (pass a w hJ)
  intro e a' w' h
  cases e with
  | goto l' => exact ⟨h.1, h.2.1⟩
  | normal => exact h
  | exit id => exact h
  | ret => exact h
  | panic ch => exact h
  | outgrown => exact h
end Go.Proofs.Ytankoappneglcaa
