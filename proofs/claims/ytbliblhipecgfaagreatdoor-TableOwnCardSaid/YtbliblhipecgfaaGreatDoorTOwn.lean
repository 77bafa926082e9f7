/-
  Rows of a table's copy, written: what is beside them stays. Conditions as named.
-/
import Derived.Test.YtbliblhipecgfaaGreatDoorTStep
namespace Go.Proofs.YtbliblhipecgfaaGreatDoor
set_option linter.unusedVariables false
open Go.RowKit
/-- a row, whatever is written into whatever cell -/
theorem own_setAny {w : World} {base size n : Nat} {e : TypeId} {v : Value} {xs : List Value} (h : w.ownsRow base e size v n xs) (g j : Nat) (u : Value) : ∃ xs', (w.setCell ⟨g, j, none⟩ u).ownsRow base e size v n xs' := by
  obtain ⟨h1, h2 | ⟨g', cap', cur, hv, hb, hg, hle, hm, hs, ht⟩⟩ := h
  · exact ⟨xs, h1, Or.inl h2⟩
  · by_cases hgg : g' = g
    · subst hgg
      refine ⟨(cur.setIfInBounds j u).toList.take (n * size), ?_, Or.inr ⟨g', cap', cur.setIfInBounds j u, hv, hb, heap_setCell_same w g' j cur e u hg, hle, hm, by simpa using hs, rfl⟩⟩
      rw [List.length_take, Array.length_toList, Array.size_setIfInBounds, hs]
      have : n * size ≤ cap' * size := Nat.mul_le_mul_right _ hle
      omega
    · exact ⟨xs, h1, Or.inr ⟨g', cap', cur, hv, hb, (heap_setCell_other w ⟨g, j, none⟩ g' u hgg).trans hg, hle, hm, hs, ht⟩⟩
/-- a row beyond a bound, where what is written lies ahead of it -/
theorem own_setFar {w : World} {base size n : Nat} {e : TypeId} {v : Value} {xs : List Value} (h : w.ownsRow base e size v n xs) {g : Nat} (hg : g < base) (j : Nat) (u : Value) : (w.setCell ⟨g, j, none⟩ u).ownsRow base e size v n xs := by
  obtain ⟨h1, h2 | ⟨g', cap', cur, hv, hb, hh, rest⟩⟩ := h
  · exact ⟨h1, Or.inl h2⟩
  · exact ⟨h1, Or.inr ⟨g', cap', cur, hv, hb, (heap_setCell_other w ⟨g, j, none⟩ g' u (by dsimp only; omega)).trans hh, rest⟩⟩
theorem OwnT.far {w : World} {base : Nat} {sch : List (List Bd)} {cts : List Ct} {kds : List Kd} {As Ac Ak : Option Addr} {ns cs nc cc nk ck : Nat} (h : OwnT w base sch cts kds As Ac Ak ns cs nc cc nk ck) {g : Nat} (hg : g < base) (j : Nat) (u : Value) : OwnT (w.setCell ⟨g, j, none⟩ u) base sch cts kds As Ac Ak ns cs nc cc nk ck := by
  obtain ⟨⟨ls, e1, o1, b1⟩, ⟨lc, e2, o2, b2⟩, o3, b3⟩ := h
  exact ⟨⟨ls, e1, own_setFar o1 hg j u, fun p hp => ⟨(b1 p hp).1, own_setFar (b1 p hp).2 hg j u⟩⟩, ⟨lc, e2, own_setFar o2 hg j u, fun p hp => ⟨⟨(b2 p hp).1.1, own_setFar (b2 p hp).1.2 hg j u⟩, (b2 p hp).2⟩⟩, own_setFar o3 hg j u, b3⟩
/-- a row of the copy: it lies between two bounds; what it holds is nobody's matter -/
def RowA (w : World) (lo hi : Nat) (e : TypeId) (size : Nat) (v : Value) (n : Nat) : Prop := (∃ xs, w.ownsRow lo e size v n xs) ∧ ∀ g, v.ownBlock = some g → g < hi
theorem RowA.set {w : World} {lo hi : Nat} {e : TypeId} {size : Nat} {v : Value} {n : Nat} (h : RowA w lo hi e size v n) (g j : Nat) (u : Value) : RowA (w.setCell ⟨g, j, none⟩ u) lo hi e size v n := by
  obtain ⟨⟨xs, h1⟩, h2⟩ := h
  exact ⟨own_setAny h1 g j u, h2⟩
theorem RowA.below {w w' : World} {lo hi : Nat} {e : TypeId} {size : Nat} {v : Value} {n : Nat} (h : RowA w lo hi e size v n) (hb : Below w.heap.size w w') : RowA w' lo hi e size v n := by
  obtain ⟨⟨xs, h1⟩, h2⟩ := h
  exact ⟨⟨xs, own_below h1 hb⟩, h2⟩
theorem RowA.of {w : World} {lo : Nat} {e : TypeId} {size : Nat} {v : Value} {n : Nat} {xs : List Value} (h : w.ownsRow lo e size v n xs) : RowA w lo w.heap.size e size v n := ⟨⟨xs, h⟩, fun g hg => (h.lt g hg).2⟩
/-- where a cell of such a row may be written -/
theorem RowA.at {w : World} {lo hi : Nat} {e : TypeId} {size : Nat} {v : Value} {n : Nat} (h : RowA w lo hi e size v n) (hn : 0 < n) (hsz : 0 < size) : ∃ g c cur, v = .slice (some ⟨g, 0, none⟩) n c ∧ lo ≤ g ∧ g < hi ∧ g < w.heap.size ∧ Blk w g e cur ∧ (∀ j, j < n * size → ∃ u, w.cell? ⟨g, j, none⟩ = some u) ∧ ∀ j, w.frozen? ⟨g, j, none⟩ = false := by
  obtain ⟨⟨xs, h1, h2 | ⟨g, cap, cur, rfl, hb, hg, hle, hm, hs, ht⟩⟩, h3⟩ := h
  · exact absurd h2.2 (by omega)
  · refine ⟨g, cap, cur, rfl, hb, h3 g rfl, (Array.getElem?_eq_some_iff.1 hg).1, hg, fun j hj => ?_, fun j => frozen_of_row w g j cur e hg⟩
    have hj2 : j < cur.size := by
      rw [hs]
      exact Nat.lt_of_lt_of_le hj (Nat.mul_le_mul_right _ hle)
    exact ⟨cur[j], by rw [cell_of_row w g j cur e (0, 0) hg]; simp [hj2]⟩
/-- the copy, which may be written -/
structure OwnA (w : World) (lo hi : Nat) (As Ac Ak : Option Addr) (ns cs nc cc nk ck : Nat) : Prop where
  s : ∃ ls : List ScP, ls.length = ns ∧ w.ownsRow lo 35 1 (.slice As ns cs) ns (ls.flatMap scPC) ∧ (∀ g, (Value.slice As ns cs).ownBlock = some g → g < hi) ∧ ∀ p ∈ ls, RowA w lo hi 63 3 (.slice p.A p.m p.c) p.m
  c : ∃ lc : List CtP, lc.length = nc ∧ w.ownsRow lo 37 6 (.slice Ac nc cc) nc (lc.flatMap ctPC) ∧ (∀ g, (Value.slice Ac nc cc).ownBlock = some g → g < hi) ∧ ∀ p ∈ lc, RowA w lo hi 63 3 (.slice p.A p.m p.c) p.m
  k : RowA w lo hi 60 4 (.slice Ak nk ck) nk
theorem OwnT.a {w : World} {base : Nat} {sch : List (List Bd)} {cts : List Ct} {kds : List Kd} {As Ac Ak : Option Addr} {ns cs nc cc nk ck : Nat} (h : OwnT w base sch cts kds As Ac Ak ns cs nc cc nk ck) : OwnA w base w.heap.size As Ac Ak ns cs nc cc nk ck := by
  have hl := h.len
  obtain ⟨⟨ls, e1, o1, b1⟩, ⟨lc, e2, o2, b2⟩, o3, b3⟩ := h
  exact ⟨⟨ls, by rw [hl.1, ← e1, List.length_map], o1, fun g hg => (o1.lt g hg).2, fun p hp => RowA.of (b1 p hp).2⟩, ⟨lc, by rw [hl.2.1, ← e2, List.length_map], o2, fun g hg => (o2.lt g hg).2, fun p hp => RowA.of (b2 p hp).1.2⟩, RowA.of o3⟩
theorem OwnA.below {w w' : World} {lo hi : Nat} {As Ac Ak : Option Addr} {ns cs nc cc nk ck : Nat} (h : OwnA w lo hi As Ac Ak ns cs nc cc nk ck) (hb : Below w.heap.size w w') : OwnA w' lo hi As Ac Ak ns cs nc cc nk ck := by
  obtain ⟨⟨ls, l1, o1, g1, b1⟩, ⟨lc, l2, o2, g2, b2⟩, o3⟩ := h
  exact ⟨⟨ls, l1, own_below o1 hb, g1, fun p hp => (b1 p hp).below hb⟩, ⟨lc, l2, own_below o2 hb, g2, fun p hp => (b2 p hp).below hb⟩, o3.below hb⟩
/-- a cell of a block of bands, or of kinds, written -/
theorem OwnA.set {w : World} {lo hi : Nat} {As Ac Ak : Option Addr} {ns cs nc cc nk ck : Nat} (h : OwnA w lo hi As Ac Ak ns cs nc cc nk ck) {g : Nat} {e : TypeId} {cur : Array Value} (hk : Blk w g e cur) (h1 : 35 ≠ e) (h2 : 37 ≠ e) (j : Nat) (u : Value) : OwnA (w.setCell ⟨g, j, none⟩ u) lo hi As Ac Ak ns cs nc cc nk ck := by
  obtain ⟨⟨ls, l1, o1, g1, b1⟩, ⟨lc, l2, o2, g2, b2⟩, o3⟩ := h
  exact ⟨⟨ls, l1, own_setO o1 hk h1 j u, g1, fun p hp => (b1 p hp).set g j u⟩, ⟨lc, l2, own_setO o2 hk h2 j u, g2, fun p hp => (b2 p hp).set g j u⟩, o3.set g j u⟩
/-- a contribution's name, written -/
theorem OwnA.name {w : World} {lo hi : Nat} {As Ak : Option Addr} {g ns cs nc cc nk ck : Nat} (h : OwnA w lo hi As (some ⟨g, 0, none⟩) Ak ns cs nc cc nk ck) {cur : Array Value} (hk : Blk w g 37 cur) (k : Nat) (hkn : k < nc) (s : ByteArray) : OwnA (w.setCell ⟨g, k * 6, none⟩ (.string s)) lo hi As (some ⟨g, 0, none⟩) Ak ns cs nc cc nk ck := by
  obtain ⟨⟨ls, l1, o1, g1, b1⟩, ⟨lc, l2, o2, g2, b2⟩, o3⟩ := h
  have hkl : k < lc.length := by omega
  refine ⟨⟨ls, l1, own_setO o1 hk (by decide) _ _, g1, fun p hp => (b1 p hp).set g _ _⟩, ⟨lc.set k ⟨{ (lc.getD k ctp0).x with nm := s }, (lc.getD k ctp0).A, (lc.getD k ctp0).m, (lc.getD k ctp0).c⟩, by rw [List.length_set]; exact l2, ?_, g2, fun p hp => ?_⟩, o3.set g _ _⟩
  · have := own_setR o2 (k * 6) (by omega) (.string s)
    rw [show k * 6 = k * 6 + 0 by omega, flat_set ctPC 6 ctPC_len 0 (.string s) (by decide) lc k ⟨{ (lc.getD k ctp0).x with nm := s }, (lc.getD k ctp0).A, (lc.getD k ctp0).m, (lc.getD k ctp0).c⟩ ctp0 hkl rfl] at this
    simpa using this
  · rcases List.mem_or_eq_of_mem_set hp with hp | rfl
    · exact (b2 p hp).set g _ _
    · exact (b2 _ (getD_mem hkl)).set g _ _
end Go.Proofs.YtbliblhipecgfaaGreatDoor
