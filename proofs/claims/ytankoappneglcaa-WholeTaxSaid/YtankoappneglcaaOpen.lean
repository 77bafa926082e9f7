/-
  Arguments that are slices of structs of whole numbers, opened to their cells. No program, no conditions beyond those named.
-/
import Derived.Test.YtankoappneglcaaVoc2
import Derived.Deep.Slices
import Derived.OpenShut
import Derived.ProofKit
namespace Go.Proofs.Ytankoappneglcaa
set_option linter.unusedVariables false
open Go.ChangeShapes Go.WideShapes Go.Deep Go.RowKit

section
variable {H : Type} {enc : TypeId × Value → H} {P : Program} {w : World}
theorem addr_plain {a : Addr} {v : Value} (h : w.cell? a = some v) : a = ⟨a.block, a.off, none⟩ := by
  have hs := World.cell?_spot h
  obtain ⟨b, o, s⟩ := a
  simp only at hs
  rw [hs]
theorem add_plain (b o k : Nat) : (⟨b, o, none⟩ : Addr).add k = ⟨b, o + k, none⟩ := by
  unfold Addr.add
  split
  · rename_i h; simp
  · rfl
/-- a slice of whatever: its elements' cells, each read by its own type -/
theorem open_rows {t e : TypeId} {r : Reach} {b0 : Nat} {v : Value} {d : DataW H} {p : List MemPlace} (K : Nat) (hK : 0 < K) (ht : P.underlying t = some (.slice e)) (hC : P.cellsOf e = K)
    (hv : Value.okWide P w r b0 t v) (h : DataW.Trod enc P w 0 (fun _ => true) true t v d p) :
    ∃ A n c, v = .slice A n c ∧ n ≤ 9223372036854775807 ∧ ∃ (b off : Nat) (cs : Nat → List Value), (0 < n → A = some ⟨b, off, none⟩ ∧ b < w.heap.size) ∧
      ∀ i, i < n → (cs i).length = K ∧ (∀ j u, (cs i)[j]? = some u → w.cell? ⟨b, off + i * K + j, none⟩ = some u) ∧ ∃ m x, DataW.trod enc P w 0 (fun _ => true) true m e (cs i) = some x := by
  obtain ⟨A, n, c, rfl⟩ := okWide_slice ht hv
  obtain ⟨fuel, hf⟩ := h
  rcases open_slice ht hf with ⟨hcs, _⟩ | ⟨a, len, cap, m, m', D, Pl, hcs, _, hl, hm, hmm, _, hi⟩
  · simp [Value.cells] at hcs
    obtain ⟨rfl, rfl, rfl⟩ := hcs
    exact ⟨none, 0, 0, rfl, by decide, 0, 0, fun _ => [], fun h => absurd h (by decide), fun i h => absurd h (by omega)⟩
  · simp [Value.cells] at hcs
    obtain ⟨rfl, rfl, rfl⟩ := hcs
    have hmc : m = c := by rw [hmm, if_pos rfl]
    unfold maxLen at hm
    obtain ⟨cs, hcs⟩ := choose_lt (α := List Value) (p := fun i l => w.cells? 0 (a.add (i * K)) K = some l ∧ DataW.trod enc P w 0 (fun _ => true) true m' e l = some (D i, Pl i)) (n := n) (fun i h => by
      have := hi i (by omega)
      rw [hC] at this
      exact this)
    have key : 0 < n → a = ⟨a.block, a.off, none⟩ ∧ a.block < w.heap.size := fun hn => by
      obtain ⟨h1, _⟩ := hcs 0 hn
      obtain ⟨_, hlen, hat⟩ := World.cells?_some h1
      have h0 : (cs 0)[0]? = some ((cs 0)[0]'(by omega)) := List.getElem?_eq_getElem (by omega)
      have hc0 := (hat 0 (by omega)).trans h0
      rw [Go.Deep.add_add, show 0 * K + 0 = 0 by simp, show a.add 0 = a from by unfold Addr.add; rw [if_pos rfl]] at hc0
      exact ⟨addr_plain hc0, World.block_lt_of_cell? w _ hc0⟩
    refine ⟨some a, n, c, rfl, by omega, a.block, a.off, cs, fun hn => ⟨congrArg some (key hn).1, (key hn).2⟩, fun i hin => ?_⟩
    obtain ⟨h1, h2⟩ := hcs i hin
    obtain ⟨_, hlen, hat⟩ := World.cells?_some h1
    refine ⟨hlen, fun j u hu => ?_, m', _, h2⟩
    have hj : j < K := by rw [← hlen]; exact (List.getElem?_eq_some_iff.1 hu).1
    have hc0 := (hat j hj).trans hu
    rw [Go.Deep.add_add, (key (by omega)).1, add_plain, ← Nat.add_assoc] at hc0
    exact hc0
/-- a struct of whole numbers, one cell each -/
def IntFields (P : Program) (fs : Array Field) : Prop := ∀ j, j < fs.size → ∃ f, fs[j]? = some f ∧ f.offset = j ∧ P.cellsOf f.type = 1 ∧ P.underlying f.type = some (.int .i64)
theorem struct_ints {e : TypeId} {fs : Array Field} {m : Nat} {cs : List Value} {x : DataW H × List MemPlace} (he : P.underlying e = some (.struct fs)) (hI : IntFields P fs) (hl : cs.length = fs.size)
    (h : DataW.trod enc P w 0 (fun _ => true) true m e cs = some x) : ∃ g : Nat → Int, ∀ j, j < fs.size → cs[j]? = some (.int .i64 (g j)) ∧ (Lit.int .i64 (g j)).wf = true := by
  obtain ⟨xs, n, _, _, _, hxs, hf⟩ := DataW.trod_struct he h
  refine choose_lt (α := Int) (p := fun j q => cs[j]? = some (.int .i64 q) ∧ (Lit.int .i64 q).wf = true) (fun j hj => ?_)
  obtain ⟨f, hfj, ho, hc, hu⟩ := hI j hj
  have h1 := hf j f hfj
  rw [ho, hc, List.getElem?_eq_getElem (by omega)] at h1
  obtain ⟨q, hq, _, hw⟩ := DataW.trod_int hu h1
  refine ⟨q, ?_, hw⟩
  have : (cs.drop j).take 1 = [cs[j]'(by omega)] := by
    rw [List.drop_eq_getElem_cons (by omega)]
    rfl
  rw [this] at hq
  injection hq with hq _
  rw [List.getElem?_eq_getElem (by omega), hq]
/-- a slice of structs of whole numbers -/
theorem open_int_rows' {t e : TypeId} {fs : Array Field} {r : Reach} {b0 : Nat} {v : Value} {d : DataW H} {p : List MemPlace} (hK : 0 < fs.size) (ht : P.underlying t = some (.slice e)) (he : P.underlying e = some (.struct fs)) (hI : IntFields P fs) (hC : P.cellsOf e = fs.size)
    (hv : Value.okWide P w r b0 t v) (h : DataW.Trod enc P w 0 (fun _ => true) true t v d p) :
    ∃ A n c, v = .slice A n c ∧ n ≤ 9223372036854775807 ∧ ∃ (b off : Nat) (g : Nat → Nat → Int), (0 < n → A = some ⟨b, off, none⟩ ∧ b < w.heap.size) ∧
      ∀ i j, i < n → j < fs.size → w.cell? ⟨b, off + i * fs.size + j, none⟩ = some (.int .i64 (g i j)) ∧ (Lit.int .i64 (g i j)).wf = true := by
  obtain ⟨A, n, c, rfl, hn, b, off, cs, hA, hcs⟩ := open_rows fs.size hK ht hC hv h
  obtain ⟨g, hg⟩ := choose_lt (α := Nat → Int) (p := fun i q => ∀ j, j < fs.size → (cs i)[j]? = some (.int .i64 (q j)) ∧ (Lit.int .i64 (q j)).wf = true) (n := n) (fun i hi => by
    obtain ⟨hl, _, m, x, hx⟩ := hcs i hi
    exact struct_ints he hI hl hx)
  exact ⟨A, n, c, rfl, hn, b, off, g, hA, fun i j hi hj => ⟨(hcs i hi).2.1 j _ (hg i hi j hj).1, (hg i hi j hj).2⟩⟩
end
theorem wf_i64_bd {x : Int} (h : (Lit.int .i64 x).wf = true) : -9223372036854775808 ≤ x ∧ x ≤ 9223372036854775807 := by
  simp [Lit.wf] at h
  exact h
end Go.Proofs.Ytankoappneglcaa
