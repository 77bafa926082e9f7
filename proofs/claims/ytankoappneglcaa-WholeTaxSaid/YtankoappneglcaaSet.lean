/-
  Cells of the call's own, written. No program, no conditions beyond those named.
-/
import Derived.Test.YtankoappneglcaaVoc3
namespace Go.Proofs.Ytankoappneglcaa
set_option linter.unusedVariables false
open Go.RowKit
theorem grown_setJ (W : World) (b j : Nat) (v : Value) : W.grownBy (W.setCell ⟨b, j, none⟩ v) (some b) :=
  ⟨rfl, rfl, rfl, by simp [World.setCell], fun k _ hne => heap_setCell_other W ⟨b, j, none⟩ k v (fun h => hne (by rw [h]))⟩
theorem Blk.setJ {w : World} {g : Nat} {t : TypeId} {cs : Array Value} (hb : Blk w g t cs) (i : Nat) (v : Value) : Blk (w.setCell ⟨g, i, none⟩ v) g t (cs.setIfInBounds i v) := heap_setCell_same w g i cs t v hb
theorem Blk.setO {w : World} {g g0 : Nat} {t : TypeId} {cs : Array Value} (h : Blk w g t cs) (hne : g ≠ g0) (j : Nat) (u : Value) : Blk (w.setCell ⟨g0, j, none⟩ u) g t cs := h.grown (grown_setJ w g0 j u) (by simpa using hne)
theorem own_setO {w : World} {base size n : Nat} {e : TypeId} {v : Value} {xs : List Value} (h : w.ownsRow base e size v n xs) {g : Nat} {t : TypeId} {cs : Array Value} (hk : Blk w g t cs) (hne : e ≠ t) (j : Nat) (u : Value) : (w.setCell ⟨g, j, none⟩ u).ownsRow base e size v n xs :=
  h.kept (grown_setJ w g j u) (Or.inr fun he => own_blk h hk hne he.symm)
theorem own_set2 {w : World} {base size n : Nat} {e : TypeId} {v : Value} {xs : List Value} (h : w.ownsRow base e size v n xs) {g : Nat} {t : TypeId} {cs : Array Value} (hk : Blk w g t cs) (hne : e ≠ t) (i j : Nat) (x y : Value) : ((w.setCell ⟨g, i, none⟩ x).setCell ⟨g, j, none⟩ y).ownsRow base e size v n xs :=
  own_setO (own_setO h hk hne i x) (hk.setJ i x) hne j y
theorem Blk.set2O {w : World} {g g0 : Nat} {t : TypeId} {cs : Array Value} (h : Blk w g t cs) (hne : g ≠ g0) (i j : Nat) (x y : Value) : Blk ((w.setCell ⟨g0, i, none⟩ x).setCell ⟨g0, j, none⟩ y) g t cs := (h.setO hne i x).setO hne j y
theorem Blk.set01 {w : World} {g : Nat} {t : TypeId} {a b : Value} (h : Blk w g t #[a, b]) (x y : Value) : Blk ((w.setCell ⟨g, 0, none⟩ x).setCell ⟨g, 1, none⟩ y) g t #[x, y] := (h.setJ 0 x).setJ 1 y
theorem bS2 {w0 W : World} (h : Below w0.heap.size w0 W) {b : Nat} (hb : w0.heap.size ≤ b) (i j : Nat) (x y : Value) : Below w0.heap.size w0 ((W.setCell ⟨b, i, none⟩ x).setCell ⟨b, j, none⟩ y) := bS (bS h hb _) hb _
end Go.Proofs.Ytankoappneglcaa
