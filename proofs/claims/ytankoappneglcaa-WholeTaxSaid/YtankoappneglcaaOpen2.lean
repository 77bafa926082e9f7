/-
  Arguments opened to their cells, further: slices of structs whose fields are of several types, slices of slices. No program, no conditions beyond those named.
-/
import Derived.Test.YtankoappneglcaaOpen
import Derived.Deep.Fields
namespace Go.Proofs.Ytankoappneglcaa
set_option linter.unusedVariables false
open Go.ChangeShapes Go.WideShapes Go.Deep Go.RowKit

/-- a slice whose elements take K cells each, and read as those of a list -/
def SlOf {α : Type} (At : World → Nat → Nat → α → Prop) (K : Nat) (d : α) (w : World) (A : Option Addr) (n : Nat) (l : List α) : Prop :=
  n = l.length ∧ n ≤ 9223372036854775807 ∧ (0 < n → ∃ b off, A = some ⟨b, off, none⟩ ∧ b < w.heap.size ∧ ∀ k, k < n → At w b (off + k * K) (l.getD k d))
theorem SlOf.below {α : Type} {At : World → Nat → Nat → α → Prop} {K : Nat} {d : α} {w w' : World} {A : Option Addr} {n : Nat} {l : List α} (h : SlOf At K d w A n l)
    (hAt : ∀ b off x, At w b off x → b < w.heap.size → At w' b off x) (hb : Below w.heap.size w w') : SlOf At K d w' A n l := by
  obtain ⟨h1, h2, h3⟩ := h
  refine ⟨h1, h2, fun hn => ?_⟩
  obtain ⟨b, off, hA, hlt, hc⟩ := h3 hn
  exact ⟨b, off, hA, Nat.lt_of_lt_of_le hlt hb.size, fun k hk => hAt _ _ _ (hc k hk) hlt⟩
/-- the cells from a place on are these -/
def CellsAt (w : World) (b off : Nat) (xs : List Value) : Prop := ∀ j u, xs[j]? = some u → w.cell? ⟨b, off + j, none⟩ = some u
theorem CellsAt.below {w w' : World} {b off : Nat} {xs : List Value} (h : CellsAt w b off xs) (hlt : b < w.heap.size) (hb : Below w.heap.size w w') : CellsAt w' b off xs :=
  fun j u hu => (hb.cell (p := ⟨b, _, none⟩) hlt).trans (h j u hu)
/-- the elements' cells are told by a function -/
def RowAt {α : Type} (f : α → List Value) (w : World) (b off : Nat) (x : α) : Prop := CellsAt w b off (f x)
/-- a slice of structs whose cells a function tells -/
def RowSl {α : Type} (f : α → List Value) (K : Nat) (d : α) := SlOf (RowAt f) K d
theorem RowSl.below {α : Type} {f : α → List Value} {K : Nat} {d : α} {w w' : World} {A : Option Addr} {n : Nat} {l : List α} (h : RowSl f K d w A n l) (hb : Below w.heap.size w w') : RowSl f K d w' A n l :=
  SlOf.below h (fun b off x hx hlt => CellsAt.below hx hlt hb) hb
/-- a slice that the call itself made, as one that is read -/
theorem own_sl {α : Type} (f : α → List Value) (K : Nat) (d : α) (hf : ∀ x, (f x).length = K) {w : World} {base : Nat} {e : TypeId} {v : Value} {n : Nat} {l : List α} (h : w.ownsRow base e K v n (l.flatMap f)) (hn : n = l.length) (hK : 0 < K) :
    ∃ A c, v = .slice A n c ∧ n ≤ c ∧ RowSl f K d w A n l := by
  have key : ∀ (l : List α) (k j : Nat) (u : Value), k < l.length → j < K → (f (l.getD k d))[j]? = some u → (l.flatMap f)[k * K + j]? = some u := by
    intro l
    induction l with
    | nil => intro k j u hk; exact absurd hk (by simp)
    | cons x l ih =>
      intro k j u hk hj hu
      rw [List.flatMap_cons]
      cases k with
      | zero =>
        simp at hu
        rw [List.getElem?_append_left (by rw [hf]; omega)]
        simpa using hu
      | succ k =>
        rw [List.getElem?_append_right (by rw [hf, Nat.succ_mul]; omega), hf, show (k + 1) * K + j - K = k * K + j by rw [Nat.succ_mul]; omega]
        exact ih k j u (by simpa using hk) hj (by simpa using hu)
  rcases h.2 with ⟨rfl, h0⟩ | ⟨g, cap, cur, rfl, _, hg, hle, hm, _, htake⟩
  · exact ⟨none, 0, by rw [h0], by omega, hn, by omega, fun h => absurd h (by omega)⟩
  · unfold maxLen at hm
    refine ⟨_, _, rfl, hle, hn, by omega, fun h0 => ⟨g, 0, rfl, (Array.getElem?_eq_some_iff.1 hg).1, fun k hk j u hu => ?_⟩⟩
    have hj : j < K := by
      have := (List.getElem?_eq_some_iff.1 hu).1
      rwa [hf] at this
    have h1 := key l k j u (by omega) hj hu
    have h2 := h.cells (g := g) rfl _ _ h1
    rw [add_plain] at h2
    rw [show 0 + k * K + j = 0 + (k * K + j) by omega]
    exact h2
section
variable {H : Type} {enc : TypeId × Value → H} {P : Program} {w : World}
/-- a slice's cell, opened: its elements' cells, each read by its own type -/
theorem open_rows_t {t e : TypeId} {m : Nat} {u : Value} {x : DataW H × List MemPlace} (K : Nat) (hK : 0 < K) (ht : P.underlying t = some (.slice e)) (hC : P.cellsOf e = K)
    (hf : DataW.trod enc P w 0 (fun _ => true) true m t [u] = some x) :
    ∃ A n c, u = .slice A n c ∧ n ≤ c ∧ c ≤ 9223372036854775807 ∧ ∃ (b off : Nat) (cs : Nat → List Value), (0 < n → A = some ⟨b, off, none⟩ ∧ b < w.heap.size) ∧
      ∀ i, i < n → (cs i).length = K ∧ (∀ j u, (cs i)[j]? = some u → w.cell? ⟨b, off + i * K + j, none⟩ = some u) ∧ ∃ m x, DataW.trod enc P w 0 (fun _ => true) true m e (cs i) = some x := by
  rcases open_slice ht hf with ⟨hcs, _⟩ | ⟨a, n, c, m, m', D, Pl, hcs, _, hl, hm, hmm, _, hi⟩
  · injection hcs with hcs _
    exact ⟨none, 0, 0, hcs, by decide, by decide, 0, 0, fun _ => [], fun h => absurd h (by decide), fun i h => absurd h (by omega)⟩
  · injection hcs with hcs _
    subst hcs
    have hmc : m = c := by rw [hmm, if_pos rfl]
    unfold maxLen at hm
    obtain ⟨cs, hcs⟩ := choose_lt (α := List Value) (p := fun i l => w.cells? 0 (a.add (i * K)) K = some l ∧ DataW.trod enc P w 0 (fun _ => true) true m' e l = some (D i, Pl i)) (n := n) (fun i h => by
      have := hi i (by omega)
      rw [hC] at this
      exact this)
    have key : 0 < n → a = ⟨a.block, a.off, none⟩ ∧ a.block < w.heap.size := fun hn => by
      obtain ⟨h1, _⟩ := hcs 0 hn
      obtain ⟨_, hlen, hat⟩ := World.cells?_some h1
      have h0 : (cs 0)[0]? = some ((cs 0)[0]'(by omega)) := List.getElem?_eq_getElem (by omega)
      have hc0 := (hat 0 (by omega)).trans h0
      rw [Go.Deep.add_add, show 0 * K + 0 = 0 by simp, show a.add 0 = a from by unfold Addr.add; rw [if_pos rfl]] at hc0
      exact ⟨addr_plain hc0, World.block_lt_of_cell? w _ hc0⟩
    refine ⟨some a, n, c, rfl, hl, by omega, a.block, a.off, cs, fun hn => ⟨congrArg some (key hn).1, (key hn).2⟩, fun i hin => ?_⟩
    obtain ⟨h1, h2⟩ := hcs i hin
    obtain ⟨_, hlen, hat⟩ := World.cells?_some h1
    refine ⟨hlen, fun j u hu => ?_, m', _, h2⟩
    have hj : j < K := by rw [← hlen]; exact (List.getElem?_eq_some_iff.1 hu).1
    have hc0 := (hat j hj).trans hu
    rw [Go.Deep.add_add, (key (by omega)).1, add_plain, ← Nat.add_assoc] at hc0
    exact hc0
/-- a slice's cell, opened to a list, by what a row's cells tell -/
theorem open_sl {α : Type} (At : World → Nat → Nat → α → Prop) (K : Nat) (d : α) {t e : TypeId} {m : Nat} {u : Value} {x : DataW H × List MemPlace} (hK : 0 < K) (ht : P.underlying t = some (.slice e)) (hC : P.cellsOf e = K)
    (hrow : ∀ (b off : Nat) (cs : List Value) (m : Nat) (x : DataW H × List MemPlace), b < w.heap.size → cs.length = K → CellsAt w b off cs → DataW.trod enc P w 0 (fun _ => true) true m e cs = some x → ∃ a : α, At w b off a)
    (hf : DataW.trod enc P w 0 (fun _ => true) true m t [u] = some x) :
    ∃ A n c l, u = .slice A n c ∧ n ≤ c ∧ c ≤ 9223372036854775807 ∧ SlOf At K d w A n l := by
  obtain ⟨A, n, c, rfl, h1, h2, b, off, cs, hA, hcs⟩ := open_rows_t K hK ht hC hf
  have : Inhabited α := ⟨d⟩
  obtain ⟨g, hg⟩ := choose_lt (α := α) (p := fun i a => At w b (off + i * K) a) (n := n) (fun i hi => by
    obtain ⟨hl, hc, m, x, hx⟩ := hcs i hi
    exact hrow b _ (cs i) m x (hA (by omega)).2 hl hc hx)
  refine ⟨A, n, c, (List.range n).map g, rfl, h1, h2, by simp, by omega, fun h0 => ⟨b, off, (hA h0).1, (hA h0).2, fun k hk => ?_⟩⟩
  rw [show ((List.range n).map g).getD k d = g k by simp [List.getD, hk]]
  exact hg k hk
/-- a struct of one-cell fields, opened -/
theorem struct_cells {e : TypeId} {fs : Array Field} {m : Nat} {cs : List Value} {x : DataW H × List MemPlace} (he : P.underlying e = some (.struct fs)) (hone : oneCellFields P fs = true) (hl : cs.length = fs.size)
    (h : DataW.trod enc P w 0 (fun _ => true) true m e cs = some x) : ∀ (j : Nat) (f : Field), fs[j]? = some f → ∃ u n y, cs[j]? = some u ∧ DataW.trod enc P w 0 (fun _ => true) true n f.type [u] = some y := by
  obtain ⟨xs, n, _, _, _, hxs, hf⟩ := DataW.trod_struct he h
  intro j f hfj
  have hj : j < fs.size := (Array.getElem?_eq_some_iff.1 hfj).1
  obtain ⟨ho, hc⟩ := hone_of hone j f hfj
  have h1 := hf j f hfj
  have hone' : (cs.drop j).take 1 = [cs[j]'(by omega)] := by
    rw [List.drop_eq_getElem_cons (by omega)]
    rfl
  rw [ho, hc, List.getElem?_eq_getElem (by omega), hone'] at h1
  exact ⟨_, n, _, List.getElem?_eq_getElem (by omega), h1⟩
theorem cell_int {t : TypeId} {m : Nat} {u : Value} {x : DataW H × List MemPlace} (ht : P.underlying t = some (.int .i64)) (h : DataW.trod enc P w 0 (fun _ => true) true m t [u] = some x) : ∃ q : Int, u = .int .i64 q ∧ -9223372036854775808 ≤ q ∧ q ≤ 9223372036854775807 := by
  obtain ⟨q, hq, _, hw⟩ := DataW.trod_int ht h
  injection hq with hq _
  exact ⟨q, hq, wf_i64_bd hw⟩
theorem cell_string {t : TypeId} {m : Nat} {u : Value} {x : DataW H × List MemPlace} (ht : P.underlying t = some .string) (h : DataW.trod enc P w 0 (fun _ => true) true m t [u] = some x) : ∃ s : ByteArray, u = .string s ∧ s.size ≤ 9223372036854775807 := by
  obtain ⟨s, hq, _, hw⟩ := DataW.trod_string ht h
  injection hq with hq _
  exact ⟨s, hq, hw⟩
theorem cell_bool {t : TypeId} {m : Nat} {u : Value} {x : DataW H × List MemPlace} (ht : P.underlying t = some .bool) (h : DataW.trod enc P w 0 (fun _ => true) true m t [u] = some x) : ∃ s : Bool, u = .bool s := by
  obtain ⟨s, hq, _⟩ := DataW.trod_bool ht h
  injection hq with hq _
  exact ⟨s, hq⟩
/-- an argument that takes one cell, as that cell -/
theorem trod_slice_arg {t e : TypeId} {r : Reach} {b0 : Nat} {v : Value} {d : DataW H} {p : List MemPlace} (ht : P.underlying t = some (.slice e)) (hv : Value.okWide P w r b0 t v) (h : DataW.Trod enc P w 0 (fun _ => true) true t v d p) :
    ∃ m, DataW.trod enc P w 0 (fun _ => true) true m t [v] = some (d, p) := by
  obtain ⟨A, n, c, rfl⟩ := okWide_slice ht hv
  obtain ⟨m, hm⟩ := h
  exact ⟨m, hm⟩
/-- an argument that is a struct, as its cells -/
theorem trod_struct_arg {t : TypeId} {fs : Array Field} {r : Reach} {b0 : Nat} {v : Value} {d : DataW H} {p : List MemPlace} (ht : P.underlying t = some (.struct fs)) (hv : Value.okWide P w r b0 t v) (h : DataW.Trod enc P w 0 (fun _ => true) true t v d p) :
    ∃ (cs : List Value) (m : Nat), v = .agg cs.toArray ∧ cs.length = P.cellsOf t ∧ DataW.trod enc P w 0 (fun _ => true) true m t cs = some (d, p) := by
  obtain ⟨cs, rfl, hs⟩ := okWide_struct ht hv
  obtain ⟨m, hm⟩ := h
  exact ⟨cs.toList, m, by simp, by simpa using hs, hm⟩
end
end Go.Proofs.Ytankoappneglcaa
