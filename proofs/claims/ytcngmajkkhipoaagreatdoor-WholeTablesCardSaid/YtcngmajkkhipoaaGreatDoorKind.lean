/-
  Contract of table.Kind. Conditions as named.
-/
import Derived.Test.YtcngmajkkhipoaaGreatDoorM1
import Derived.Test.YtcngmajkkhipoaaGreatDoorM0
namespace Go.Proofs.YtcngmajkkhipoaaGreatDoor
set_option linter.unusedVariables false
open Go.RowKit
/-- the kind of a name, if there is one -/
def kdX (l : List Kd) (nm : ByteArray) : Kd := (l.find? fun x => decide (x.nm = nm)).getD kd0
def kdE (l : List Kd) (nm : ByteArray) : Int := if l.any (fun x => decide (x.nm = nm)) = true then 0 else 110
theorem kd_at {l : List Kd} {nm : ByteArray} {k : Nat} (hk : k < l.length) (h1 : (l.getD k kd0).nm = nm) (h2 : ∀ j, j < k → (l.getD j kd0).nm ≠ nm) : kdX l nm = l.getD k kd0 ∧ kdE l nm = 0 := by
  unfold kdX kdE
  constructor
  · induction l generalizing k with
    | nil => simp at hk
    | cons x l ih =>
      cases k with
      | zero =>
        have : x.nm = nm := h1
        simp [this]
      | succ k =>
        have h0 : x.nm ≠ nm := h2 0 (by omega)
        have := ih (k := k) (by simpa using hk) (by simpa using h1) (fun j hj => by simpa using h2 (j + 1) (by omega))
        simp only [List.find?_cons, decide_eq_false h0]
        simpa using this
  · rw [if_pos]
    rw [List.any_eq_true]
    refine ⟨l[k], List.getElem_mem hk, ?_⟩
    have e : l.getD k kd0 = l[k] := by simp [List.getD, List.getElem?_eq_getElem hk]
    rw [e] at h1
    simpa using h1
theorem kd_no {l : List Kd} {nm : ByteArray} (h : ∀ j, j < l.length → (l.getD j kd0).nm ≠ nm) : kdX l nm = kd0 ∧ kdE l nm = 110 := by
  have h' : ∀ x ∈ l, x.nm ≠ nm := fun x hx => by
    obtain ⟨j, hj, rfl⟩ := List.getElem_of_mem hx
    have := h j hj
    rwa [show l.getD j kd0 = l[j] by simp [List.getD, List.getElem?_eq_getElem hj]] at this
  unfold kdX kdE
  constructor
  · rw [List.find?_eq_none.2 (fun x hx => by simpa using h' x hx)]; rfl
  · rw [if_neg]
    rw [List.any_eq_true]
    rintro ⟨x, hx, e⟩
    exact h' x hx (by simpa using e)
theorem str_neqk {a b : ByteArray} (h : a ≠ b) : (a.toList == b.toList) = false := by
  rw [beq_eq_false_iff_ne]
  intro e
  rw [ByteArray.toList_eq, ByteArray.toList_eq] at e
  apply h
  cases a; cases b
  simp at e
  rw [e]
theorem Blk.a4f {w : World} {g : Nat} {t : TypeId} {a b c d : Value} (h : Blk w g t #[a, b, c, d]) : (w.cell? ⟨g, 0, none⟩ = some a ∧ w.cell? ⟨g, 1, none⟩ = some b ∧ w.cell? ⟨g, 2, none⟩ = some c ∧ w.cell? ⟨g, 3, none⟩ = some d) ∧
    w.frozen? ⟨g, 0, none⟩ = false ∧ w.frozen? ⟨g, 1, none⟩ = false ∧ w.frozen? ⟨g, 2, none⟩ = false ∧ w.frozen? ⟨g, 3, none⟩ = false :=
  ⟨⟨h.cell 0, h.cell 1, h.cell 2, h.cell 3⟩, h.free 0, h.free 1, h.free 2, h.free 3⟩
--%%
end Go.Proofs.YtcngmajkkhipoaaGreatDoor
