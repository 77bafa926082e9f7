/-
  Slices opened to their cells, with what each element weighs. No program, no conditions beyond those named.
-/
import Derived.Test.YtohdmfedappenaaDoorOpen2
namespace Go.Proofs.YtohdmfedappenaaDoor
set_option linter.unusedVariables false
open Go.ChangeShapes Go.WideShapes Go.Deep Go.RowKit
section
variable {H : Type} {enc : TypeId × Value → H} {P : Program} {w : World}
theorem mem_weightsAll {e : TypeId} {n : Nat} : ∀ {l : List (DataW H)} {d : DataW H}, d ∈ l → n ∈ d.weights P e → n ∈ DataW.weightsAll P e l
  | d0 :: l, d, hd, hn => by
    simp only [DataW.weightsAll, List.mem_append]
    rcases List.mem_cons.1 hd with rfl | hd
    · exact Or.inl hn
    · exact Or.inr (mem_weightsAll hd hn)
/-- a slice's cell, opened: its elements' cells, each read by its own type, none heavier than R -/
theorem open_rows_z {t e : TypeId} {m : Nat} {u : Value} {x : DataW H × List MemPlace} (K R : Nat) (hK : 0 < K) (ht : P.underlying t = some (.slice e)) (hC : P.cellsOf e = K)
    (hf : DataW.trod enc P w 0 (fun _ => true) true m t [u] = some x) (hz : ∀ n ∈ x.1.weights P t, n ≤ R) :
    ∃ A n c, u = .slice A n c ∧ n ≤ c ∧ c ≤ 9223372036854775807 ∧ c * P.bytesOf e ≤ R ∧ ∃ (b off : Nat) (cs : Nat → List Value), (0 < n → A = some ⟨b, off, none⟩ ∧ b < w.heap.size) ∧
      ∀ i, i < n → (cs i).length = K ∧ (∀ j u, (cs i)[j]? = some u → w.cell? ⟨b, off + i * K + j, none⟩ = some u) ∧ ∃ m x, DataW.trod enc P w 0 (fun _ => true) true m e (cs i) = some x ∧ ∀ n ∈ x.1.weights P e, n ≤ R := by
  rcases open_slice ht hf with ⟨hcs, _⟩ | ⟨a, n, c, m, m', D, Pl, hcs, _, hl, hm, hmm, hx, hi⟩
  · injection hcs with hcs _
    exact ⟨none, 0, 0, hcs, by decide, by decide, by simp, 0, 0, fun _ => [], fun h => absurd h (by decide), fun i h => absurd h (by omega)⟩
  · injection hcs with hcs _
    subst hcs
    have hmc : m = c := by rw [hmm, if_pos rfl]
    unfold maxLen at hm
    subst hx
    have hzD : ∀ i, i < n → ∀ q ∈ (D i).weights P e, q ≤ R := fun i hin q hq => hz q (by
      simp only [DataW.weights, ht, List.mem_cons, List.mem_append]
      exact Or.inr (Or.inl (mem_weightsAll (List.mem_map.2 ⟨i, List.mem_range.2 hin, rfl⟩) hq)))
    have hzc : c * P.bytesOf e ≤ R := by
      have := hz ((((List.range n).map D).length + ((List.range (m - n)).map fun j => D (n + j)).length) * P.bytesOf e) (by
        simp [DataW.weights, ht])
      simp at this
      rwa [show n + (m - n) = c by omega] at this
    obtain ⟨cs, hcs⟩ := choose_lt (α := List Value) (p := fun i l => w.cells? 0 (a.add (i * K)) K = some l ∧ DataW.trod enc P w 0 (fun _ => true) true m' e l = some (D i, Pl i)) (n := n) (fun i h => by
      have := hi i (by omega)
      rw [hC] at this
      exact this)
    have key : 0 < n → a = ⟨a.block, a.off, none⟩ ∧ a.block < w.heap.size := fun hn => by
      obtain ⟨h1, _⟩ := hcs 0 hn
      obtain ⟨_, hlen, hat⟩ := World.cells?_some h1
      have h0 : (cs 0)[0]? = some ((cs 0)[0]'(by omega)) := List.getElem?_eq_getElem (by omega)
      have hc0 := (hat 0 (by omega)).trans h0
      rw [Go.Deep.add_add, show 0 * K + 0 = 0 by simp, show a.add 0 = a from by unfold Addr.add; rw [if_pos rfl]] at hc0
      exact ⟨addr_plain hc0, World.block_lt_of_cell? w _ hc0⟩
    refine ⟨some a, n, c, rfl, hl, by omega, hzc, a.block, a.off, cs, fun hn => ⟨congrArg some (key hn).1, (key hn).2⟩, fun i hin => ?_⟩
    obtain ⟨h1, h2⟩ := hcs i hin
    obtain ⟨_, hlen, hat⟩ := World.cells?_some h1
    refine ⟨hlen, fun j u hu => ?_, m', _, h2, hzD i hin⟩
    have hj : j < K := by rw [← hlen]; exact (List.getElem?_eq_some_iff.1 hu).1
    have hc0 := (hat j hj).trans hu
    rw [Go.Deep.add_add, (key (by omega)).1, add_plain, ← Nat.add_assoc] at hc0
    exact hc0
/-- a slice's cell, opened to a list, by what a row's cells tell, none heavier than R -/
theorem open_sl_z {α : Type} (At : World → Nat → Nat → α → Prop) (K R : Nat) (d : α) {t e : TypeId} {m : Nat} {u : Value} {x : DataW H × List MemPlace} (hK : 0 < K) (ht : P.underlying t = some (.slice e)) (hC : P.cellsOf e = K)
    (hrow : ∀ (b off : Nat) (cs : List Value) (m : Nat) (x : DataW H × List MemPlace), b < w.heap.size → cs.length = K → CellsAt w b off cs → DataW.trod enc P w 0 (fun _ => true) true m e cs = some x → (∀ n ∈ x.1.weights P e, n ≤ R) → ∃ a : α, At w b off a)
    (hf : DataW.trod enc P w 0 (fun _ => true) true m t [u] = some x) (hz : ∀ n ∈ x.1.weights P t, n ≤ R) :
    ∃ A n c l, u = .slice A n c ∧ n ≤ c ∧ c ≤ 9223372036854775807 ∧ c * P.bytesOf e ≤ R ∧ SlOf At K d w A n l := by
  obtain ⟨A, n, c, rfl, h1, h2, h3, b, off, cs, hA, hcs⟩ := open_rows_z K R hK ht hC hf hz
  have : Inhabited α := ⟨d⟩
  obtain ⟨g, hg⟩ := choose_lt (α := α) (p := fun i a => At w b (off + i * K) a) (n := n) (fun i hi => by
    obtain ⟨hl, hc, m, x, hx, hzx⟩ := hcs i hi
    exact hrow b _ (cs i) m x (hA (by omega)).2 hl hc hx hzx)
  refine ⟨A, n, c, (List.range n).map g, rfl, h1, h2, h3, by simp, by omega, fun h0 => ⟨b, off, (hA h0).1, (hA h0).2, fun k hk => ?_⟩⟩
  rw [show ((List.range n).map g).getD k d = g k by simp [List.getD, hk]]
  exact hg k hk
theorem cell_string_z {t : TypeId} {m R : Nat} {u : Value} {x : DataW H × List MemPlace} (ht : P.underlying t = some .string) (h : DataW.trod enc P w 0 (fun _ => true) true m t [u] = some x) (hz : ∀ n ∈ x.1.weights P t, n ≤ R) : ∃ s : ByteArray, u = .string s ∧ s.size ≤ 9223372036854775807 ∧ s.size ≤ R := by
  obtain ⟨s, hq, hx, hw⟩ := DataW.trod_string ht h
  injection hq with hq _
  subst hx
  have := hz s.data.toList.length (by simp [DataW.weights])
  exact ⟨s, hq, hw, by simpa using this⟩
end
end Go.Proofs.YtohdmfedappenaaDoor
