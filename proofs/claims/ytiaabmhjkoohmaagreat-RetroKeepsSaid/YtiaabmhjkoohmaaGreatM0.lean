/-
  Contracts of functions that the claim reaches, and the plain laws behind them. Conditions as named in each.
-/
import Derived.WalkKit
import Derived.ProofKit
import Derived.Below
import Derived.Lib.Hide
import Derived.ScopeJumps
import Derived.Deep.Draws
import Derived.WalkSmall
import Derived.Deep.Slices
import Derived.OpenShut
import Derived.Deep.Fields
import Derived.Test.YtiaabmhjkoohmaaGreatChecked
import Derived.Outline
import Derived.Deep.QuietTactic
import Derived.BigQuiet
import Derived.Laws.ComplexArith
import Derived.Lib.SlBytesConst
import Derived.OwnWalk
import Derived.Maps.AppendAt
import Derived.Laws.MakeOwn
import Derived.Deep.OwnRows
import Derived.Deep.RegionLaw
import Derived.Lib.SliceRun
import Derived.Lib.MinMax
import Derived.Laws.CopyOwn
import Derived.Lib.AppendZerosOnto
import Derived.Shelf.Small.Wraps
import Derived.Shelf.Slices.Equal
import Derived.Ground.Names2Prog
import Derived.Shelf.Slices.SearchI
import Derived.Shelf.Slices.Empties2
import Derived.Ground.SlgnProg
import Derived.Shelf.SlicesE.Clone
import Derived.Test.YtiaabmhjkoohmaaGreatProg
import Derived.OrdersHeld
import Derived.Deep.RegionHeld3
import Derived.Laws.StructEq
namespace Go.Proofs.YtiaabmhjkoohmaaGreat
set_option linter.unusedVariables false
set_option linter.unusedSimpArgs false
open Go.RowKit

theorem bcell {W w1 : World} (hb : Below W.heap.size W w1) : (∀ b o, b < W.heap.size → w1.cell? ⟨b, o, none⟩ = W.cell? ⟨b, o, none⟩) ∧ (∀ b o, b < W.heap.size → w1.frozen? ⟨b, o, none⟩ = W.frozen? ⟨b, o, none⟩) :=
 ⟨fun b o h => hb.cell (p := ⟨b, o, none⟩) h, fun b o h => hb.frozen (p := ⟨b, o, none⟩) h⟩

theorem bz1 (w : World) (o : Obj) : Below w.heap.size w (w.alloc o) := (Below.refl _ _).alloc (Nat.le_refl _) o

theorem allTake {α : Type} (p : α → Bool) (l : List α) (k : Nat) (hk : k < l.length) (d : α) : (l.take (k + 1)).all p = ((l.take k).all p && p (l.getD k d)) := by
 rw [List.take_add_one, List.all_append]
 simp [List.getD, List.getElem?_eq_getElem hk]
theorem all_no {α : Type} (p : α → Bool) (l : List α) (k : Nat) (hk : k < l.length) (d : α) (h : p (l.getD k d) = false) : l.all p = false := by
 rw [List.all_eq_false]
 refine ⟨l[k], List.getElem_mem hk, ?_⟩
 rw [show l.getD k d = l[k] from by simp [List.getD, List.getElem?_eq_getElem hk]] at h
 simp [h]
theorem rb9 {a b : Bool} (h : a = b) : Ending.returned (.bool a) = .returned (.bool b) := by rw [h]
theorem ret_int {k : IntKind} {a b : Int} (h : a = b) : Ending.returned (.int k a) = .returned (.int k b) := by rw [h]

theorem wp_scope_goto {P : Program} {a : Act} {w : World} {Q : Exit → Act → World → Prop} {c rest : Code} (l : Nat) (J : Act → World → Prop) (μ : Act → World → Nat) (hf : findLabel c l = some (.seq .skip rest))
  (pass : ∀ a w, J a w → rest.wp P (Exit.jump l (fun a' w' => J a' w' ∧ μ a' w' < μ a w) Q) a w)
  (first : (∀ a w, J a w → rest.wp P (Exit.jump l J Q) a w) → c.wp P (Exit.jump l J Q) a w) : (Code.scope c).wp P Q a w := by
 have sk : ∀ {Q : Exit → Act → World → Prop} {a : Act} {w : World}, rest.wp P Q a w → (Code.seq .skip rest).wp P Q a w := fun h => wp_seq (wp_skip h)
 refine wp_scope_jumps l J μ hf (first fun a w hJ => ?_) fun a w hJ => sk (pass a w hJ)
 refine Code.wp_mono ?_ (pass a w hJ)
 intro e a' w' h
 cases e with
 | goto l' => exact ⟨h.1, h.2.1⟩
 | normal => exact h
 | exit id => exact h
 | ret => exact h
 | panic ch => exact h
 | outgrown => exact h

/-! ### a block that is known whole -/
def Blk (w : World) (g : Nat) (t : TypeId) (cs : Array Value) : Prop := w.heap[g]? = some (.cells cs t (0, 0))
section
variable {w w' : World} {g : Nat} {t : TypeId} {cs : Array Value}
theorem Blk.cell (h : Blk w g t cs) (i : Nat) : w.cell? ⟨g, i, none⟩ = cs[i]? := cell_of_row w g i cs t (0, 0) h
theorem Blk.free (h : Blk w g t cs) (i : Nat) : w.frozen? ⟨g, i, none⟩ = false := frozen_of_row w g i cs t h
theorem Blk.lt (h : Blk w g t cs) : g < w.heap.size := (Array.getElem?_eq_some_iff.1 (show w.heap[g]? = _ from h)).1
theorem Blk.mk (w : World) (t : TypeId) (cs : Array Value) : Blk (w.alloc (.cells cs t)) w.heap.size t cs := heap_alloc_new w _
theorem Blk.alloc (h : Blk w g t cs) (o : Obj) : Blk (w.alloc o) g t cs := (heap_alloc_old w o (Blk.lt h)).trans h
theorem Blk.drewN (h : Blk w g t cs) (n : Nat) : Blk (w.drewN n) g t cs := h
theorem Blk.below {B : Nat} (h : Blk w g t cs) (hb : Below B w w') (hg : g < B) : Blk w' g t cs := (hb.block g hg).trans h
theorem Blk.far (h : Blk w g t cs) {a : Addr} (hg : g ≠ a.block) (v : Value) : Blk (w.setCell a v) g t cs := (heap_setCell_other w a g v hg).trans h
theorem Blk.all2 {x y : Value} (h : Blk w g t #[x, y]) : w.cell? ⟨g, 0, none⟩ = some x ∧ w.cell? ⟨g, 1, none⟩ = some y ∧ w.frozen? ⟨g, 0, none⟩ = false ∧ w.frozen? ⟨g, 1, none⟩ = false := ⟨h.cell 0, h.cell 1, h.free 0, h.free 1⟩
theorem Blk.two {x y : Value} (h : Blk w g t #[x, y]) (u v : Value) : Blk ((w.setCell ⟨g, 0, none⟩ u).setCell ⟨g, 1, none⟩ v) g t #[u, v] := by
 have h1 := heap_setCell_same w g 0 #[x, y] t u h
 have h2 := heap_setCell_same (w.setCell ⟨g, 0, none⟩ u) g 1 _ t v h1
 exact h2
end
end Go.Proofs.YtiaabmhjkoohmaaGreat
namespace Go.Proofs.YtiaabmhjkoohmaaGreat
set_option linter.unusedVariables false
set_option linter.unusedSimpArgs false
open Go.ChangeShapes Go.WideShapes Go.Deep Go.RowKit

section
variable {H : Type} {enc : TypeId × Value → H} {P : Program} {w : World}
theorem addr_plain {a : Addr} {v : Value} (h : w.cell? a = some v) : a = ⟨a.block, a.off, none⟩ := by
 have hs := World.cell?_spot h
 obtain ⟨b, o, s⟩ := a
 simp only at hs
 rw [hs]
theorem add_plain (b o k : Nat) : (⟨b, o, none⟩ : Addr).add k = ⟨b, o + k, none⟩ := by
 unfold Addr.add
 split
 ·
  rename_i h; simp
 ·
  rfl
end
theorem wf_i64_bd {x : Int} (h : (Lit.int .i64 x).wf = true) : -9223372036854775808 ≤ x ∧ x ≤ 9223372036854775807 := by
 simp [Lit.wf] at h
 exact h

def SlOf {α : Type} (At : World → Nat → Nat → α → Prop) (K : Nat) (d : α) (w : World) (A : Option Addr) (n : Nat) (l : List α) : Prop :=
 n = l.length ∧ n ≤ 9223372036854775807 ∧ (0 < n → ∃ b off, A = some ⟨b, off, none⟩ ∧ b < w.heap.size ∧ ∀ k, k < n → At w b (off + k * K) (l.getD k d))
theorem SlOf.below {α : Type} {At : World → Nat → Nat → α → Prop} {K : Nat} {d : α} {w w' : World} {A : Option Addr} {n : Nat} {l : List α} (h : SlOf At K d w A n l)
  (hAt : ∀ b off x, At w b off x → b < w.heap.size → At w' b off x) (hb : Below w.heap.size w w') : SlOf At K d w' A n l := by
 obtain ⟨h1, h2, h3⟩ := h
 refine ⟨h1, h2, fun hn => ?_⟩
 obtain ⟨b, off, hA, hlt, hc⟩ := h3 hn
 exact ⟨b, off, hA, Nat.lt_of_lt_of_le hlt hb.size, fun k hk => hAt _ _ _ (hc k hk) hlt⟩
def CellsAt (w : World) (b off : Nat) (xs : List Value) : Prop := ∀ j u, xs[j]? = some u → w.cell? ⟨b, off + j, none⟩ = some u
theorem CellsAt.below {w w' : World} {b off : Nat} {xs : List Value} (h : CellsAt w b off xs) (hlt : b < w.heap.size) (hb : Below w.heap.size w w') : CellsAt w' b off xs :=
 fun j u hu => (hb.cell (p := ⟨b, _, none⟩) hlt).trans (h j u hu)
def RowAt {α : Type} (f : α → List Value) (w : World) (b off : Nat) (x : α) : Prop := CellsAt w b off (f x)
def Rlz {α : Type} (f : α → List Value) (K : Nat) (d : α) := SlOf (RowAt f) K d
theorem Rlz.below {α : Type} {f : α → List Value} {K : Nat} {d : α} {w w' : World} {A : Option Addr} {n : Nat} {l : List α} (h : Rlz f K d w A n l) (hb : Below w.heap.size w w') : Rlz f K d w' A n l :=
 SlOf.below h (fun b off x hx hlt => CellsAt.below hx hlt hb) hb
theorem own_sl {α : Type} (f : α → List Value) (K : Nat) (d : α) (hf : ∀ x, (f x).length = K) {w : World} {base : Nat} {e : TypeId} {v : Value} {n : Nat} {l : List α} (h : w.ownsRow base e K v n (l.flatMap f)) (hn : n = l.length) (hK : 0 < K) :
  ∃ A c, v = .slice A n c ∧ n ≤ c ∧ Rlz f K d w A n l := by
 have key : ∀ (l : List α) (k j : Nat) (u : Value), k < l.length → j < K → (f (l.getD k d))[j]? = some u → (l.flatMap f)[k * K + j]? = some u := by
  intro l
  induction l with
  | nil => intro k j u hk; exact absurd hk (by simp)
  | cons x l ih =>
   intro k j u hk hj hu
   rw [List.flatMap_cons]
   cases k with
   | zero =>
    simp at hu
    rw [List.getElem?_append_left (by rw [hf]; omega)]
    simpa using hu
   | succ k =>
    rw [List.getElem?_append_right (by rw [hf, Nat.succ_mul]; omega), hf, show (k + 1) * K + j - K = k * K + j by rw [Nat.succ_mul]; omega]
    exact ih k j u (by simpa using hk) hj (by simpa using hu)
 rcases h.2 with ⟨rfl, h0⟩ | ⟨g, cap, cur, rfl, _, hg, hle, hm, _, htake⟩
 ·
  exact ⟨none, 0, by rw [h0], by omega, hn, by omega, fun h => absurd h (by omega)⟩
 ·
  unfold maxLen at hm
  refine ⟨_, _, rfl, hle, hn, by omega, fun h0 => ⟨g, 0, rfl, (Array.getElem?_eq_some_iff.1 hg).1, fun k hk j u hu => ?_⟩⟩
  have hj : j < K := by
   have := (List.getElem?_eq_some_iff.1 hu).1
   rwa [hf] at this
  have h1 := key l k j u (by omega) hj hu
  have h2 := h.cells (g := g) rfl _ _ h1
  rw [add_plain] at h2
  rw [show 0 + k * K + j = 0 + (k * K + j) by omega]
  exact h2
section
variable {H : Type} {enc : TypeId × Value → H} {P : Program} {w : World}
theorem open_rows_t {t e : TypeId} {m : Nat} {u : Value} {x : DataW H × List MemPlace} (K : Nat) (hK : 0 < K) (ht : P.underlying t = some (.slice e)) (hC : P.cellsOf e = K)
  (hf : DataW.trod enc P w 0 (fun _ => true) true m t [u] = some x) :
  ∃ A n c, u = .slice A n c ∧ n ≤ c ∧ c ≤ 9223372036854775807 ∧ ∃ (b off : Nat) (cs : Nat → List Value), (0 < n → A = some ⟨b, off, none⟩ ∧ b < w.heap.size) ∧
   ∀ i, i < n → (cs i).length = K ∧ (∀ j u, (cs i)[j]? = some u → w.cell? ⟨b, off + i * K + j, none⟩ = some u) ∧ ∃ m x, DataW.trod enc P w 0 (fun _ => true) true m e (cs i) = some x := by
 rcases open_slice ht hf with ⟨hcs, _⟩ | ⟨a, n, c, m, m', D, Pl, hcs, _, hl, hm, hmm, _, hi⟩
 ·
  injection hcs with hcs _
  exact ⟨none, 0, 0, hcs, by decide, by decide, 0, 0, fun _ => [], fun h => absurd h (by decide), fun i h => absurd h (by omega)⟩
 ·
  injection hcs with hcs _
  subst hcs
  have hmc : m = c := by rw [hmm, if_pos rfl]
  unfold maxLen at hm
  obtain ⟨cs, hcs⟩ := choose_lt (α := List Value) (p := fun i l => w.cells? 0 (a.add (i * K)) K = some l ∧ DataW.trod enc P w 0 (fun _ => true) true m' e l = some (D i, Pl i)) (n := n) (fun i h => by
   have := hi i (by omega)
   rw [hC] at this
   exact this)
  have key : 0 < n → a = ⟨a.block, a.off, none⟩ ∧ a.block < w.heap.size := fun hn => by
   obtain ⟨h1, _⟩ := hcs 0 hn
   obtain ⟨_, hlen, hat⟩ := World.cells?_some h1
   have h0 : (cs 0)[0]? = some ((cs 0)[0]'(by omega)) := List.getElem?_eq_getElem (by omega)
   have hc0 := (hat 0 (by omega)).trans h0
   rw [Go.Deep.add_add, show 0 * K + 0 = 0 by simp, show a.add 0 = a from by unfold Addr.add; rw [if_pos rfl]] at hc0
   exact ⟨addr_plain hc0, World.block_lt_of_cell? w _ hc0⟩
  refine ⟨some a, n, c, rfl, hl, by omega, a.block, a.off, cs, fun hn => ⟨congrArg some (key hn).1, (key hn).2⟩, fun i hin => ?_⟩
  obtain ⟨h1, h2⟩ := hcs i hin
  obtain ⟨_, hlen, hat⟩ := World.cells?_some h1
  refine ⟨hlen, fun j u hu => ?_, m', _, h2⟩
  have hj : j < K := by rw [← hlen]; exact (List.getElem?_eq_some_iff.1 hu).1
  have hc0 := (hat j hj).trans hu
  rw [Go.Deep.add_add, (key (by omega)).1, add_plain, ← Nat.add_assoc] at hc0
  exact hc0
theorem open_sl {α : Type} (At : World → Nat → Nat → α → Prop) (K : Nat) (d : α) {t e : TypeId} {m : Nat} {u : Value} {x : DataW H × List MemPlace} (hK : 0 < K) (ht : P.underlying t = some (.slice e)) (hC : P.cellsOf e = K)
  (hrow : ∀ (b off : Nat) (cs : List Value) (m : Nat) (x : DataW H × List MemPlace), b < w.heap.size → cs.length = K → CellsAt w b off cs → DataW.trod enc P w 0 (fun _ => true) true m e cs = some x → ∃ a : α, At w b off a)
  (hf : DataW.trod enc P w 0 (fun _ => true) true m t [u] = some x) :
  ∃ A n c l, u = .slice A n c ∧ n ≤ c ∧ c ≤ 9223372036854775807 ∧ SlOf At K d w A n l := by
 obtain ⟨A, n, c, rfl, h1, h2, b, off, cs, hA, hcs⟩ := open_rows_t K hK ht hC hf
 have : Inhabited α := ⟨d⟩
 obtain ⟨g, hg⟩ := choose_lt (α := α) (p := fun i a => At w b (off + i * K) a) (n := n) (fun i hi => by
  obtain ⟨hl, hc, m, x, hx⟩ := hcs i hi
  exact hrow b _ (cs i) m x (hA (by omega)).2 hl hc hx)
 refine ⟨A, n, c, (List.range n).map g, rfl, h1, h2, by simp, by omega, fun h0 => ⟨b, off, (hA h0).1, (hA h0).2, fun k hk => ?_⟩⟩
 rw [show ((List.range n).map g).getD k d = g k by simp [List.getD, hk]]
 exact hg k hk
theorem scz {e : TypeId} {fs : Array Field} {m : Nat} {cs : List Value} {x : DataW H × List MemPlace} (he : P.underlying e = some (.struct fs)) (hone : oneCellFields P fs = true) (hl : cs.length = fs.size)
  (h : DataW.trod enc P w 0 (fun _ => true) true m e cs = some x) : ∀ (j : Nat) (f : Field), fs[j]? = some f → ∃ u n y, cs[j]? = some u ∧ DataW.trod enc P w 0 (fun _ => true) true n f.type [u] = some y := by
 obtain ⟨xs, n, _, _, _, hxs, hf⟩ := DataW.trod_struct he h
 intro j f hfj
 have hj : j < fs.size := (Array.getElem?_eq_some_iff.1 hfj).1
 obtain ⟨ho, hc⟩ := hone_of hone j f hfj
 have h1 := hf j f hfj
 have hone' : (cs.drop j).take 1 = [cs[j]'(by omega)] := by
  rw [List.drop_eq_getElem_cons (by omega)]
  rfl
 rw [ho, hc, List.getElem?_eq_getElem (by omega), hone'] at h1
 exact ⟨_, n, _, List.getElem?_eq_getElem (by omega), h1⟩
theorem ciz {t : TypeId} {m : Nat} {u : Value} {x : DataW H × List MemPlace} (ht : P.underlying t = some (.int .i64)) (h : DataW.trod enc P w 0 (fun _ => true) true m t [u] = some x) : ∃ q : Int, u = .int .i64 q ∧ -9223372036854775808 ≤ q ∧ q ≤ 9223372036854775807 := by
 obtain ⟨q, hq, _, hw⟩ := DataW.trod_int ht h
 injection hq with hq _
 exact ⟨q, hq, wf_i64_bd hw⟩
theorem cell_string {t : TypeId} {m : Nat} {u : Value} {x : DataW H × List MemPlace} (ht : P.underlying t = some .string) (h : DataW.trod enc P w 0 (fun _ => true) true m t [u] = some x) : ∃ s : ByteArray, u = .string s ∧ s.size ≤ 9223372036854775807 := by
 obtain ⟨s, hq, _, hw⟩ := DataW.trod_string ht h
 injection hq with hq _
 exact ⟨s, hq, hw⟩
theorem cell_bool {t : TypeId} {m : Nat} {u : Value} {x : DataW H × List MemPlace} (ht : P.underlying t = some .bool) (h : DataW.trod enc P w 0 (fun _ => true) true m t [u] = some x) : ∃ s : Bool, u = .bool s := by
 obtain ⟨s, hq, _⟩ := DataW.trod_bool ht h
 injection hq with hq _
 exact ⟨s, hq⟩
theorem trod_slice_arg {t e : TypeId} {r : Reach} {b0 : Nat} {v : Value} {d : DataW H} {p : List MemPlace} (ht : P.underlying t = some (.slice e)) (hv : Value.okWide P w r b0 t v) (h : DataW.Trod enc P w 0 (fun _ => true) true t v d p) :
  ∃ m, DataW.trod enc P w 0 (fun _ => true) true m t [v] = some (d, p) := by
 obtain ⟨A, n, c, rfl⟩ := okWide_slice ht hv
 obtain ⟨m, hm⟩ := h
 exact ⟨m, hm⟩
theorem trod_struct_arg {t : TypeId} {fs : Array Field} {r : Reach} {b0 : Nat} {v : Value} {d : DataW H} {p : List MemPlace} (ht : P.underlying t = some (.struct fs)) (hv : Value.okWide P w r b0 t v) (h : DataW.Trod enc P w 0 (fun _ => true) true t v d p) :
  ∃ (cs : List Value) (m : Nat), v = .agg cs.toArray ∧ cs.length = P.cellsOf t ∧ DataW.trod enc P w 0 (fun _ => true) true m t cs = some (d, p) := by
 obtain ⟨cs, rfl, hs⟩ := okWide_struct ht hv
 obtain ⟨m, hm⟩ := h
 exact ⟨cs.toList, m, by simp, by simpa using hs, hm⟩
end
end Go.Proofs.YtiaabmhjkoohmaaGreat
namespace Go.Proofs.YtiaabmhjkoohmaaGreat
set_option maxRecDepth 100000
set_option maxHeartbeats 25600000
set_option linter.unusedVariables false
set_option linter.unusedSimpArgs false
open Go.RowKit Tryz
open Lib (hid)

def mrB (x : Int) : Bool := decide (-100000000000 ≤ x ∧ x ≤ 100000000000)
theorem mr_t {x : Int} (h : -100000000000 ≤ x ∧ x ≤ 100000000000) : mrB x = true := by simp [mrB]; omega
theorem mr_f {x : Int} (h : ¬ (-100000000000 ≤ x ∧ x ≤ 100000000000)) : mrB x = false := by simp [mrB]; omega
theorem miz {x : Int} : mrB x = true ↔ (-100000000000 ≤ x ∧ x ≤ 100000000000) := by simp [mrB]
theorem right_any (b off c n : Nat) (l : List Int) (w : World) (hn : n = l.length) (hl : n ≤ 9223372036854775807) (hc : ∀ k, k < n → w.cell? ⟨b, off + k, none⟩ = some (.int .i64 (l.getD k 0))) :
  Calls prog 76 #[.slice (some ⟨b, off, none⟩) n c] w fun e w' => e = .returned (.bool (l.all mrB)) ∧ w = w' := by
 have Hn := hid hn; clear hn
 go_enter func76, ntmps76
 go_wp2
 go_loop [7] (fun i => ∃ k : Nat, k ≤ n ∧ i = .int .i64 k ∧ Hid ((l.take k).all mrB = true)) (fun i => n - (intOf i).toNat)
 case atStart => exact ⟨0, Nat.zero_le _, rfl, rfl⟩
 case round =>
  obtain ⟨k, hk, rfl, HA⟩ := hrel
  by_cases hlt : k < n
  ·
   have hcell := hc k hlt
   generalize hx : l.getD k 0 = x at hcell
   have HX := hid hx; clear hx hc
   by_cases h1 : 100000000000 < x
   ·
    go_wp2
    go_ret
    exact ⟨rb9 (by rw [all_no mrB l k (by rw [← Hn.out]; exact hlt) 0 (by rw [HX.out]; exact mr_f (by omega))]), rfl⟩
   ·
    by_cases h2 : x < -100000000000
    ·
     go_wp2
     go_ret
     exact ⟨rb9 (by rw [all_no mrB l k (by rw [← Hn.out]; exact hlt) 0 (by rw [HX.out]; exact mr_f (by omega))]), rfl⟩
    ·
     go_wp2
     go_round
     case rel => exact ⟨k + 1, by omega, by go_num, by unfold Hid; rw [allTake mrB l k (by rw [← Hn.out]; exact hlt) 0, HA.out, HX.out, mr_t (by omega)]; rfl⟩
     case measure => simp [intOf]; omega
  ·
   go_wp2
   go_ret
   have hkn : k = l.length := by rw [← Hn.out]; omega
   refine ⟨rb9 ?_, rfl⟩
   have := HA.out
   rw [hkn, List.take_length] at this
   rw [this]

theorem r1z (b off c : Nat) (x : Int) (w : World) (h0 : w.cell? ⟨b, off, none⟩ = some (.int .i64 x)) :
  Calls prog 76 #[.slice (some ⟨b, off, none⟩) 1 c] w fun e w' => e = .returned (.bool (mrB x)) ∧ w = w' := by
 refine (right_any b off c 1 [x] w rfl (by decide) (fun k hk => ?_)).mono fun e w' ⟨he, hw⟩ => ⟨he.trans (by simp), hw⟩
 obtain rfl : k = 0 := by omega
 exact h0
theorem right2 (b off c : Nat) (x y : Int) (w : World) (h0 : w.cell? ⟨b, off, none⟩ = some (.int .i64 x)) (h1 : w.cell? ⟨b, off + 1, none⟩ = some (.int .i64 y)) :
  Calls prog 76 #[.slice (some ⟨b, off, none⟩) 2 c] w fun e w' => e = .returned (.bool (mrB x && mrB y)) ∧ w = w' := by
 refine (right_any b off c 2 [x, y] w rfl (by decide) (fun k hk => ?_)).mono fun e w' ⟨he, hw⟩ => ⟨he.trans (by simp), hw⟩
 rcases (by omega : k = 0 ∨ k = 1) with rfl | rfl
 ·
  exact h0
 ·
  exact h1
theorem right3 (b off c : Nat) (x y z : Int) (w : World) (h0 : w.cell? ⟨b, off, none⟩ = some (.int .i64 x)) (h1 : w.cell? ⟨b, off + 1, none⟩ = some (.int .i64 y)) (h2 : w.cell? ⟨b, off + 2, none⟩ = some (.int .i64 z)) :
  Calls prog 76 #[.slice (some ⟨b, off, none⟩) 3 c] w fun e w' => e = .returned (.bool (mrB x && (mrB y && mrB z))) ∧ w = w' := by
 refine (right_any b off c 3 [x, y, z] w rfl (by decide) (fun k hk => ?_)).mono fun e w' ⟨he, hw⟩ => ⟨he.trans (by simp), hw⟩
 rcases (by omega : k = 0 ∨ k = 1 ∨ k = 2) with rfl | rfl | rfl
 ·
  exact h0
 ·
  exact h1
 ·
  exact h2
theorem check_t (x : Int) (w : World) (h : mrB x = true) :
  Calls prog 137 #[.int .i64 x] w fun e w' => e = .returned (.tuple #[.int .i64 x, .int .i64 0]) ∧ Below w.heap.size w w' := by
 go_enter func137, ntmps137
 go_wp2_with (go_at_call 76; refine (r1z _ _ _ x _ (by simp)).mono ?_; rintro e w' ⟨rfl, rfl⟩)
 go_ret2
 exact ⟨rfl, bz1 _ _⟩
theorem check_f (x : Int) (w : World) (h : mrB x = false) :
  Calls prog 137 #[.int .i64 x] w fun e w' => e = .returned (.tuple #[.int .i64 0, .int .i64 10]) ∧ Below w.heap.size w w' := by
 go_enter func137, ntmps137
 go_wp2_with (go_at_call 76; refine (r1z _ _ _ x _ (by simp)).mono ?_; rintro e w' ⟨rfl, rfl⟩)
 go_ret2
 exact ⟨rfl, bz1 _ _⟩
theorem add_t (x y : Int) (w : World) (hx : mrB x = true) (hy : mrB y = true) (hs : mrB (x + y) = true) :
  Calls prog 124 #[.int .i64 x, .int .i64 y] w fun e w' => e = .returned (.tuple #[.int .i64 (x + y), .int .i64 0]) ∧ Below w.heap.size w w' := by
 have hx' := miz.1 hx
 have hy' := miz.1 hy
 go_enter func124, ntmps124
 go_wp2_with (first | (go_at_call 76; refine (right2 _ _ _ x y _ (by simp) (by simp)).mono ?_; rintro e w' ⟨rfl, rfl⟩) | (go_at_call 137; refine (check_t (x + y) _ hs).mono ?_; rintro e w1 ⟨rfl, hb⟩))
 go_ret2
 exact ⟨rfl, (bz1 _ _).trans (hb.mono (by simp))⟩
theorem add_f (x y : Int) (w : World) (h : ¬ (mrB x = true ∧ mrB y = true ∧ mrB (x + y) = true)) :
  Calls prog 124 #[.int .i64 x, .int .i64 y] w fun e w' => e = .returned (.tuple #[.int .i64 0, .int .i64 10]) ∧ Below w.heap.size w w' := by
 by_cases hx : (mrB x && mrB y) = true
 ·
  have hx1 : mrB x = true := by simp at hx; exact hx.1
  have hy1 : mrB y = true := by simp at hx; exact hx.2
  have hs : mrB (x + y) = false := by
   cases hh : mrB (x + y) with
   | false => rfl
   | true => exact absurd ⟨hx1, hy1, hh⟩ h
  have hx' := miz.1 hx1
  have hy' := miz.1 hy1
  clear h
  go_enter func124, ntmps124
  go_wp2_with (first | (go_at_call 76; refine (right2 _ _ _ x y _ (by simp) (by simp)).mono ?_; rintro e w' ⟨rfl, rfl⟩) | (go_at_call 137; refine (check_f (x + y) _ hs).mono ?_; rintro e w1 ⟨rfl, hb⟩))
  go_ret2
  exact ⟨rfl, (bz1 _ _).trans (hb.mono (by simp))⟩
 ·
  have hx1 : (mrB x && mrB y) = false := by simpa using hx
  clear h hx
  go_enter func124, ntmps124
  go_wp2_with (go_at_call 76; refine (right2 _ _ _ x y _ (by simp) (by simp)).mono ?_; rintro e w' ⟨rfl, rfl⟩)
  go_ret2
  exact ⟨rfl, bz1 _ _⟩

def modeB (m : Int) : Bool := decide (1 ≤ m ∧ m ≤ 6)
def rateB (r : Int) : Bool := decide (0 ≤ r ∧ r ≤ 10000)
theorem modeB_iff {m : Int} : modeB m = true ↔ (1 ≤ m ∧ m ≤ 6) := by simp [modeB]
theorem riz {m : Int} : rateB m = true ↔ (0 ≤ m ∧ m ≤ 10000) := by simp [rateB]
theorem modeB_not {m : Int} : modeB m = false ↔ ¬ (1 ≤ m ∧ m ≤ 6) := by simp [modeB]
theorem rateB_not {m : Int} : rateB m = false ↔ ¬ (0 ≤ m ∧ m ≤ 10000) := by simp [rateB]
theorem mode_t (m : Int) (h : modeB m = true) (w : World) : Calls prog 166 #[.int .i64 m] w fun e w' => e = .returned (.bool true) ∧ w = w' := by
 have h' := modeB_iff.1 h
 go_enter func166, ntmps166
 go_wp2
 go_ret
 exact ⟨rfl, rfl⟩
theorem mode_f (m : Int) (h : modeB m = false) (w : World) : Calls prog 166 #[.int .i64 m] w fun e w' => e = .returned (.bool false) ∧ w = w' := by
 have h' := modeB_not.1 h
 by_cases h1 : m < 1
 ·
  go_enter func166, ntmps166
  go_wp2
  go_ret
  exact ⟨rfl, rfl⟩
 ·
  have h2 : 6 < m := by omega
  clear h'
  go_enter func166, ntmps166
  go_wp2
  go_ret
  exact ⟨rb9 (by simp; omega), rfl⟩
theorem rate_t (m : Int) (h : rateB m = true) (w : World) : Calls prog 151 #[.int .i64 m] w fun e w' => e = .returned (.bool true) ∧ w = w' := by
 have h' := riz.1 h
 go_enter func151, ntmps151
 go_wp2
 go_ret
 exact ⟨rfl, rfl⟩
theorem rate_f (m : Int) (h : rateB m = false) (w : World) : Calls prog 151 #[.int .i64 m] w fun e w' => e = .returned (.bool false) ∧ w = w' := by
 have h' := rateB_not.1 h
 by_cases h1 : m < 0
 ·
  go_enter func151, ntmps151
  go_wp2
  go_ret
  exact ⟨rfl, rfl⟩
 ·
  have h2 : 10000 < m := by omega
  clear h'
  go_enter func151, ntmps151
  go_wp2
  go_ret
  exact ⟨rb9 (by simp; omega), rfl⟩
theorem rate_c (m : Int) (w : World) : Calls prog 151 #[.int .i64 m] w fun e w' => e = .returned (.bool (rateB m)) ∧ w = w' := by
 cases h : rateB m
 ·
  exact rate_f m h w
 ·
  exact rate_t m h w
theorem ediv_uniq (n d q r : Int) (hd : 0 < d) (e : n = r + d * q) (h0 : 0 ≤ r) (h1 : r < d) : q = n / d ∧ r = n % d := by
 subst e
 rw [Int.add_mul_ediv_left _ _ (by omega), Int.ediv_eq_zero_of_lt h0 h1, Int.add_mul_emod_self_left, Int.emod_eq_of_lt h0 h1]
 omega
theorem tmod_low (n d : Int) (hd : 0 < d) : -d < n.tmod d := by
 have h4 : (-n).tmod d < d := Int.tmod_lt_of_pos (-n) hd
 rw [Int.neg_tmod] at h4
 omega
theorem tdiv_floor (n d : Int) (hd : 0 < d) : (n.tmod d < 0 → n.tdiv d - 1 = n / d ∧ n.tmod d + d = n % d) ∧ (¬ n.tmod d < 0 → n.tdiv d = n / d ∧ n.tmod d = n % d) := by
 have h1 := Int.tmod_add_mul_tdiv n d
 have h2 := Int.tmod_lt_of_pos n hd
 have h3 := tmod_low n d hd
 refine ⟨fun h => ediv_uniq n d _ _ hd ?_ (by omega) (by omega), fun h => ediv_uniq n d _ _ hd h1.symm (by omega) h2⟩
 rw [Int.mul_sub, Int.mul_one]; omega
theorem ret2_int {k j : IntKind} {a b c d : Int} (h1 : a = b) (h2 : c = d) : Ending.returned (.tuple #[.int k a, .int j c]) = .returned (.tuple #[.int k b, .int j d]) := by rw [h1, h2]
theorem floor_c (n d : Int) (w : World) (h1 : -4611686018427387904 ≤ n) (h2 : n ≤ 4611686018427387904) (h3 : 0 < d) (h4 : d ≤ 4611686018427387904) :
  Calls prog 174 #[.int .i64 n, .int .i64 d] w fun e w' => e = .returned (.tuple #[.int .i64 (n / d), .int .i64 (n % d)]) ∧ Below w.heap.size w w' := by
 have F := hid (tdiv_floor n d h3)
 have b1 : n.tmod d < d := Int.tmod_lt_of_pos n h3
 have b2 := tmod_low n d h3
 have b3 : -4611686018427387904 ≤ n.tdiv d ∧ n.tdiv d ≤ 4611686018427387904 := by
  have := Int.natAbs_tdiv_le_natAbs n d
  omega
 obtain ⟨b3, b4⟩ := b3
 by_cases hneg : n.tmod d < 0
 ·
  go_enter func174, ntmps174
  go_wp2
  go_quiet (fail)
  go_wp2
  go_ret2
  exact ⟨ret2_int (F.out.1 (by omega)).1 (F.out.1 (by omega)).2, below_drewN (Below.refl _ _) _⟩
 ·
  go_enter func174, ntmps174
  go_wp2
  go_quiet (fail)
  go_wp2
  go_ret2
  exact ⟨ret2_int (F.out.2 (by omega)).1 (F.out.2 (by omega)).2, below_drewN (Below.refl _ _) _⟩
def nearB (low left d mode : Int) : Bool :=
 if mode = 2 then decide (0 < left)
 else if mode = 3 then decide (0 < left) && decide (low < 0)
 else if mode = 1 then false
 else if left ≠ d - left then decide (d - left < left)
 else if mode = 4 then decide (0 ≤ low)
 else if mode = 6 then decide (low < 0)
 else decide (low % 2 ≠ 0)
theorem tmod2 (n : Int) : (n.tmod 2 != 0) = decide (n % 2 ≠ 0) := by
 have h1 := Int.tmod_add_mul_tdiv n 2
 have h2 := Int.tmod_lt_of_pos n (show (0 : Int) < 2 by decide)
 have h3 := tmod_low n 2 (by decide)
 rw [Bool.eq_iff_iff]
 simp
 omega
theorem nearer_c (low left d mode : Int) (w : World) (h1 : 0 ≤ left) (h2 : left < d) (h3 : d ≤ 4611686018427387904) (hm : modeB mode = true) (hl : -9223372036854775808 ≤ low) (hl2 : low ≤ 9223372036854775807) :
  Calls prog 175 #[.int .i64 low, .int .i64 left, .int .i64 d, .int .i64 mode] w fun e w' => e = .returned (.bool (nearB low left d mode)) ∧ w = w' := by
 have hm' := modeB_iff.1 hm
 rcases (by omega : mode = 1 ∨ mode = 2 ∨ mode = 3 ∨ mode = 4 ∨ mode = 5 ∨ mode = 6) with rfl | rfl | rfl | rfl | rfl | rfl
 all_goals clear hm hm'
 ·
  go_enter func175, ntmps175
  go_wp2
  go_ret
  exact ⟨rfl, rfl⟩
 ·
  go_enter func175, ntmps175
  go_wp2
  go_ret
  exact ⟨rb9 (by simp [nearB]), rfl⟩
 ·
  by_cases hh : 0 < left <;> by_cases hg : low < 0
  all_goals
   go_enter func175, ntmps175
   go_wp2
   go_ret
   exact ⟨rb9 (by simp [nearB] <;> omega), rfl⟩
 all_goals
  by_cases hh : left = d - left
  ·
   have HH := hid hh
   have t1 : (left != d - left) = false := by simpa using hh
   clear hh
   go_enter func175, ntmps175
   go_wp2
   go_ret
   have hh := HH.out
   exact ⟨rb9 (by unfold nearB; simp only [← hh]; first | (simp; done) | (rw [tmod2]; simp)), rfl⟩
  ·
   have HH := hid hh
   have t1 : (left != d - left) = true := by simpa using hh
   clear hh
   go_enter func175, ntmps175
   go_wp2
   go_ret
   have hh := HH.out
   exact ⟨rb9 (by unfold nearB; simp [hh]), rfl⟩
def ro9 (n d mode : Int) : Int := if decide (0 < n % d) && nearB (n / d) (n % d) d mode then n / d + 1 else n / d
theorem round_bd (n d mode : Int) (h3 : 0 < d) (M : Int) (hM : 0 ≤ M) (h1 : -M ≤ n) (h2 : n ≤ M) : -M ≤ ro9 n d mode ∧ ro9 n d mode ≤ M + 1 := by
 have a1 : n / d ≤ M := by
  have : n / d ≤ M / d := Int.ediv_le_ediv h3 h2
  have : M / d ≤ M := Int.ediv_le_self d hM
  omega
 have a2 : -M ≤ n / d := by
  rw [Int.le_ediv_iff_mul_le h3]
  have : M * 1 ≤ M * d := Int.mul_le_mul_of_nonneg_left (by omega) hM
  rw [Int.neg_mul]
  omega
 unfold ro9
 split <;> omega
theorem round_core (n d mode lo le rr : Int) (hrr : Hid (rr = if decide (0 < le) && nearB lo le d mode then lo + 1 else lo)) (w : World) (hf : ∀ w : World, Calls prog 174 #[.int .i64 n, .int .i64 d] w fun e w' => e = .returned (.tuple #[.int .i64 lo, .int .i64 le]) ∧ Below w.heap.size w w') (h3 : 0 < d) (h4 : d ≤ 4611686018427387904) (hm : modeB mode = true)
  (hq1 : -4611686018427387904 ≤ lo) (hq2 : lo ≤ 4611686018427387904) (hr1 : 0 ≤ le) (hr2 : le < d) :
  Calls prog 157 #[.int .i64 n, .int .i64 d, .int .i64 mode] w fun e w' => e = .returned (.tuple #[.int .i64 rr, .int .i64 0]) ∧ Below w.heap.size w w' := by
 have HF := hid hf; clear hf
 by_cases hl : 0 < le
 ·
  cases hb : nearB lo le d mode
  all_goals
   go_enter func157, ntmps157
   go_wp2_with fail
   refine (mode_t mode hm _).mono ?_
   rintro e w' ⟨rfl, rfl⟩
   go_wp2_with fail
   refine (HF.out _).mono ?_
   rintro e w1 ⟨rfl, hbl⟩
   go_wp2_with fail
   refine (nearer_c lo le d mode _ hr1 hr2 h4 hm (by omega) (by omega)).mono ?_
   rintro e w' ⟨rfl, rfl⟩
   go_wp2_with fail
   go_ret2
   exact ⟨ret2_int (by rw [hrr.out]; simp [hl, hb]) rfl, hbl⟩
 ·
  go_enter func157, ntmps157
  go_wp2_with fail
  refine (mode_t mode hm _).mono ?_
  rintro e w' ⟨rfl, rfl⟩
  go_wp2_with fail
  refine (HF.out _).mono ?_
  rintro e w1 ⟨rfl, hbl⟩
  go_wp2_with fail
  go_ret2
  exact ⟨ret2_int (by rw [hrr.out]; simp [show ¬ 0 < le from by omega]) rfl, hbl⟩
theorem round_c (n d mode : Int) (w : World) (h1 : -4611686018427387904 ≤ n) (h2 : n ≤ 4611686018427387904) (h3 : 0 < d) (h4 : d ≤ 4611686018427387904) (hm : modeB mode = true) :
  Calls prog 157 #[.int .i64 n, .int .i64 d, .int .i64 mode] w fun e w' => e = .returned (.tuple #[.int .i64 (ro9 n d mode), .int .i64 0]) ∧ Below w.heap.size w w' := by
 have a1 : n / d ≤ 4611686018427387904 := by
  have e1 : n / d ≤ 4611686018427387904 / d := Int.ediv_le_ediv h3 h2
  have e2 : 4611686018427387904 / d ≤ 4611686018427387904 := Int.ediv_le_self d (by decide)
  omega
 have a2 : -4611686018427387904 ≤ n / d := by
  rw [Int.le_ediv_iff_mul_le h3]
  have : (4611686018427387904 : Int) * 1 ≤ 4611686018427387904 * d := Int.mul_le_mul_of_nonneg_left (by omega) (by decide)
  omega
 exact round_core n d mode (n / d) (n % d) (ro9 n d mode) rfl w (fun w => floor_c n d w h1 h2 h3 h4) h3 h4 hm a2 a1 (Int.emod_nonneg _ (by omega)) (Int.emod_lt_of_pos _ h3)
def exB (x : Int) : Bool := decide (-1000000000000000 ≤ x ∧ x ≤ 1000000000000000)
theorem exB_iff {x : Int} : exB x = true ↔ (-1000000000000000 ≤ x ∧ x ≤ 1000000000000000) := by simp [exB]
theorem fright_c (x : Int) (w : World) : Calls prog 198 #[.int .i64 x] w fun e w' => e = .returned (.bool (exB x)) ∧ w = w' := by
 by_cases h1 : -1000000000000000 ≤ x
 ·
  by_cases h2 : x ≤ 1000000000000000
  ·
   go_enter func198, ntmps198
   go_wp2
   go_ret
   exact ⟨rb9 (by simp [exB]; omega), rfl⟩
  ·
   go_enter func198, ntmps198
   go_wp2
   go_ret
   exact ⟨rb9 (by simp [exB]; omega), rfl⟩
 ·
  go_enter func198, ntmps198
  go_wp2
  go_ret
  exact ⟨rb9 (by simp [exB]; omega), rfl⟩
theorem fcoins_t (x mode : Int) (w : World) (hx : exB x = true) (hm : modeB mode = true) :
  Calls prog 177 #[.int .i64 x, .int .i64 mode] w fun e w' => e = .returned (.tuple #[.int .i64 (ro9 x 10000 mode), .int .i64 0]) ∧ Below w.heap.size w w' := by
 have hx' := exB_iff.1 hx
 go_enter func177, ntmps177
 go_wp2_with fail
 refine (fright_c x _).mono ?_
 rintro e w' ⟨rfl, rfl⟩
 go_wp2_with fail
 refine (round_c x 10000 mode _ (by omega) (by omega) (by decide) (by decide) hm).mono ?_
 rintro e w1 ⟨rfl, hb⟩
 go_wp2_with fail
 go_ret2
 exact ⟨rfl, hb⟩
theorem mul_bd {x r A B : Int} (h1 : -A ≤ x) (h2 : x ≤ A) (h3 : 0 ≤ r) (h4 : r ≤ B) (hA : 0 ≤ A) : -(A * B) ≤ x * r ∧ x * r ≤ A * B := by
 have a : x * r ≤ A * r := Int.mul_le_mul_of_nonneg_right h2 h3
 have b : A * r ≤ A * B := Int.mul_le_mul_of_nonneg_left h4 hA
 have c : -A * r ≤ x * r := Int.mul_le_mul_of_nonneg_right h1 h3
 rw [Int.neg_mul] at c
 omega
theorem part_t (x r : Int) (w : World) (hx : mrB x = true) (hr : rateB r = true) :
  Calls prog 182 #[.int .i64 x, .int .i64 r] w fun e w' => e = .returned (.tuple #[.int .i64 (x * r), .int .i64 0]) ∧ Below w.heap.size w w' := by
 have hx' := miz.1 hx
 have hr' := riz.1 hr
 have hm : -1000000000000000 ≤ x * r ∧ x * r ≤ 1000000000000000 := mul_bd (A := 100000000000) (B := 10000) hx'.1 hx'.2 hr'.1 hr'.2 (by decide)
 go_enter func182, ntmps182
 go_wp2_with fail
 refine (r1z _ _ _ x _ (by simp)).mono ?_
 rintro e w' ⟨rfl, rfl⟩
 go_wp2_with fail
 refine (rate_c r _).mono ?_
 rintro e w' ⟨rfl, rfl⟩
 go_wp2_with fail
 go_ret2
 exact ⟨rfl, bz1 _ _⟩

def pos (a : Int) : Int := max 0 a
def widthI (x : Int) (f : Nat → Int) (n i : Nat) : Int := pos ((if i + 1 < n then min x (f (i + 1)) else x) - f i)
def pSz (x : Int) (f r : Nat → Int) (n : Nat) : Nat → Int
 | 0 => 0
 | k + 1 => pSz x f r n k + widthI x f n k * r k
def refS (x : Int) (f r : Nat → Int) : Nat → Int
 | 0 => 0
 | k + 1 => refS x f r k + (if f k < x then (x - f k) * (r k - (if k = 0 then 0 else r (k - 1))) else 0)

theorem width_eq (x : Int) (f : Nat → Int) (n i : Nat) (h : i + 1 < n) (hm : f i < f (i + 1)) : widthI x f n i = pos (x - f i) - pos (x - f (i + 1)) := by
 unfold widthI pos
 rw [if_pos h]
 omega
theorem width_last (x : Int) (f : Nat → Int) (n i : Nat) (h : ¬ i + 1 < n) : widthI x f n i = pos (x - f i) := by
 unfold widthI
 rw [if_neg h]
theorem pos_t {a : Int} (h : 0 ≤ a) : pos a = a := by unfold pos; omega
theorem pos_f {a : Int} (h : a ≤ 0) : pos a = 0 := by unfold pos; omega
theorem abel (x : Int) (f r : Nat → Int) (n : Nat) (hm : ∀ i, i + 1 < n → f i < f (i + 1)) : ∀ k, k + 1 ≤ n → refS x f r (k + 1) = pSz x f r n k + pos (x - f k) * r k := by
 intro k
 induction k with
 | zero =>
  intro _
  simp only [refS, pSz, if_true]
  by_cases h : f 0 < x
  ·
   rw [if_pos h, pos_t (by omega)]; simp
  ·
   rw [if_neg h, pos_f (by omega)]; simp
 | succ k ih =>
  intro hk
  have h1 := ih (by omega)
  rw [refS, h1, pSz, width_eq x f n k (by omega) (hm k (by omega))]
  have e : (if f (k + 1) < x then (x - f (k + 1)) * (r (k + 1) - (if k + 1 = 0 then 0 else r (k + 1 - 1))) else 0) = pos (x - f (k + 1)) * (r (k + 1) - r k) := by
   rw [if_neg (show ¬ (k + 1 = 0) by omega), Nat.add_sub_cancel]
   by_cases h : f (k + 1) < x
   ·
    rw [if_pos h, pos_t (by omega)]
   ·
    rw [if_neg h, pos_f (by omega), Int.zero_mul]
  rw [e, Int.mul_sub, Int.sub_mul]
  omega
theorem ref_prog (x : Int) (f r : Nat → Int) (n : Nat) (hm : ∀ i, i + 1 < n → f i < f (i + 1)) : refS x f r n = pSz x f r n n := by
 cases n with
 | zero => rfl
 | succ n => rw [abel x f r (n + 1) hm n (by omega), pSz, width_last x f (n + 1) n (by omega)]
theorem width_zero (x : Int) (f : Nat → Int) (n i : Nat) (h : x ≤ f i) : widthI x f n i = 0 := by
 unfold widthI pos
 split <;> omega
theorem prog_stop (x : Int) (f r : Nat → Int) (n : Nat) (hm : ∀ i, i + 1 < n → f i < f (i + 1)) (i : Nat) (hx : x ≤ f i) : ∀ d, i + d ≤ n → pSz x f r n (i + d) = pSz x f r n i ∧ (i + d < n → x ≤ f (i + d)) := by
 intro d
 induction d with
 | zero => intro _; exact ⟨rfl, fun _ => hx⟩
 | succ d ih =>
  intro hd
  obtain ⟨h1, h2⟩ := ih (by omega)
  have h3 := h2 (by omega)
  refine ⟨?_, fun h => ?_⟩
  ·
   rw [show i + (d + 1) = (i + d) + 1 from rfl, pSz, width_zero x f n (i + d) h3, h1]; simp
  ·
   have := hm (i + d) (by omega)
   rw [show i + (d + 1) = (i + d) + 1 from rfl]
   omega
theorem width_bd (x : Int) (f : Nat → Int) (n i : Nat) (hf : 0 ≤ f i) (hx : x ≤ 100000000000) : 0 ≤ widthI x f n i ∧ widthI x f n i ≤ 100000000000 := by
 unfold widthI pos
 split <;> omega
theorem mul_bd0 {x r A B : Int} (h1 : 0 ≤ x) (h2 : x ≤ A) (h3 : 0 ≤ r) (h4 : r ≤ B) (hA : 0 ≤ A) : 0 ≤ x * r ∧ x * r ≤ A * B := by
 have a : x * r ≤ A * r := Int.mul_le_mul_of_nonneg_right h2 h3
 have b : A * r ≤ A * B := Int.mul_le_mul_of_nonneg_left h4 hA
 have c := Int.mul_nonneg h1 h3
 omega
theorem prog_bd (x : Int) (f r : Nat → Int) (n : Nat) (hf : ∀ i, i < n → 0 ≤ f i) (hr : ∀ i, i < n → 0 ≤ r i ∧ r i ≤ 10000) (hx : x ≤ 100000000000) : ∀ k, k ≤ n → 0 ≤ pSz x f r n k ∧ pSz x f r n k ≤ k * 1000000000000000 := by
 intro k
 induction k with
 | zero => intro _; simp [pSz]
 | succ k ih =>
  intro hk
  have h1 := ih (by omega)
  have h2 := width_bd x f n k (hf k (by omega)) hx
  have h3 := hr k (by omega)
  have h4 := mul_bd0 h2.1 h2.2 h3.1 h3.2 (by decide)
  rw [pSz]
  omega
end Go.Proofs.YtiaabmhjkoohmaaGreat
namespace Go.Proofs.YtiaabmhjkoohmaaGreat
set_option linter.unusedVariables false
set_option linter.unusedSimpArgs false
open Ieee

def RepD (d : Datum) (n : Int) : Prop := ∃ (s : Bool) (m : Nat) (p : Int) (K : Nat), d = .number s m p ∧ 0 ≤ p + (K : Int) ∧ signed s m (p + (K : Int)).toNat = n * 2 ^ K
def Rep (b : Nat) (n : Int) : Prop := RepD (double.read b) n

theorem sv9 (s : Bool) (m u : Nat) : signed s m u = (if s then -1 else 1) * ((m : Int) * 2 ^ u) := by
 unfold signed
 rw [Nat.shiftLeft_eq]
 cases s <;> simp

theorem signed_up (s : Bool) (m u v : Nat) : signed s m (u + v) = signed s m u * 2 ^ v := by
 rw [sv9, sv9, Int.pow_add]
 simp [Int.mul_assoc]

theorem RepD.scale {s : Bool} {m : Nat} {p n : Int} (h : RepD (.number s m p) n) (L : Nat) (hL : 0 ≤ p + (L : Int)) : signed s m (p + (L : Int)).toNat = n * 2 ^ L := by
 obtain ⟨s', m', p', K, he, hK, hv⟩ := h
 injection he with e1 e2 e3
 subst e1; subst e2; subst e3
 rcases Nat.le_total K L with hle | hle
 ·
  obtain ⟨c, rfl⟩ := Nat.exists_eq_add_of_le hle
  have e : (p + ((K + c : Nat) : Int)).toNat = (p + (K : Int)).toNat + c := by omega
  rw [e, signed_up, hv, Int.pow_add, Int.mul_assoc]
 ·
  obtain ⟨c, rfl⟩ := Nat.exists_eq_add_of_le hle
  have e : (p + ((L + c : Nat) : Int)).toNat = (p + (L : Int)).toNat + c := by omega
  rw [e, signed_up, Int.pow_add, ← Int.mul_assoc] at hv
  exact Int.eq_of_mul_eq_mul_right (by have : (0 : Int) < 2 ^ c := Int.pow_pos (by decide); omega) hv

theorem RepD.mk {s : Bool} {m : Nat} {p n : Int} (K : Nat) (hK : 0 ≤ p + (K : Int)) (h : signed s m (p + (K : Int)).toNat = n * 2 ^ K) : RepD (.number s m p) n := ⟨s, m, p, K, rfl, hK, h⟩

theorem RepD.form {d : Datum} {n : Int} (h : RepD d n) : ∃ s m p, d = .number s m p ∧ RepD (.number s m p) n := by
 obtain ⟨s, m, p, K, rfl, hK, hv⟩ := h
 exact ⟨s, m, p, rfl, s, m, p, K, rfl, hK, hv⟩

theorem cmp_scale (a b c : Int) (hc : 0 < c) : compare (a * c) (b * c) = compare a b := by
 rcases Int.lt_trichotomy a b with h | h | h
 ·
  have h1 : a * c < b * c := Int.mul_lt_mul_of_pos_right h hc
  rw [show compare a b = .lt from Int.compare_eq_lt.2 h, show compare (a * c) (b * c) = .lt from Int.compare_eq_lt.2 h1]
 ·
  subst h; simp
 ·
  have h1 : b * c < a * c := Int.mul_lt_mul_of_pos_right h hc
  rw [show compare a b = .gt from Int.compare_eq_gt.2 h, show compare (a * c) (b * c) = .gt from Int.compare_eq_gt.2 h1]

theorem order_scale (s t : Bool) (m n : Nat) (i j : Int) (L : Nat) (hi : 0 ≤ i + (L : Int)) (hj : 0 ≤ j + (L : Int)) :
  (Datum.number s m i).order (.number t n j) = some (compare (signed s m (i + (L : Int)).toNat) (signed t n (j + (L : Int)).toNat)) := by
 unfold Datum.order
 simp only [Option.some.injEq]
 obtain ⟨c, hc⟩ : ∃ c : Nat, (c : Int) = min i j + (L : Int) := ⟨(min i j + (L : Int)).toNat, by omega⟩
 have e1 : (i + (L : Int)).toNat = (i - min i j).toNat + c := by omega
 have e2 : (j + (L : Int)).toNat = (j - min i j).toNat + c := by omega
 rw [e1, e2, signed_up, signed_up, cmp_scale _ _ _ (Int.pow_pos (by decide))]

theorem order_rep {d e : Datum} {a b : Int} (ha : RepD d a) (hb : RepD e b) : d.order e = some (compare a b) := by
 obtain ⟨s, m, i, rfl, ha⟩ := ha.form
 obtain ⟨t, n, j, rfl, hb⟩ := hb.form
 obtain ⟨L, hi, hj⟩ : ∃ L : Nat, 0 ≤ i + (L : Int) ∧ 0 ≤ j + (L : Int) := ⟨(max (-i) (-j)).toNat, by omega, by omega⟩
 rw [order_scale _ _ _ _ _ _ L hi hj, ha.scale L hi, hb.scale L hj, cmp_scale _ _ _ (Int.pow_pos (by decide))]

theorem sum_rep {d e : Datum} {a b : Int} (ha : RepD d a) (hb : RepD e b) : ∃ f, d.sum e = some f ∧ RepD f (a + b) := by
 obtain ⟨s, m, i, rfl, ha⟩ := ha.form
 obtain ⟨t, n, j, rfl, hb⟩ := hb.form
 refine ⟨_, rfl, ?_⟩
 obtain ⟨L, hi, hj⟩ : ∃ L : Nat, 0 ≤ i + (L : Int) ∧ 0 ≤ j + (L : Int) := ⟨(max (-i) (-j)).toNat, by omega, by omega⟩
 have h1 := ha.scale L hi
 have h2 := hb.scale L hj
 obtain ⟨c, hc⟩ : ∃ c : Nat, (c : Int) = min i j + (L : Int) := ⟨(min i j + (L : Int)).toNat, by omega⟩
 have e1 : (i + (L : Int)).toNat = (i - min i j).toNat + c := by omega
 have e2 : (j + (L : Int)).toNat = (j - min i j).toNat + c := by omega
 rw [e1, signed_up] at h1
 rw [e2, signed_up] at h2
 refine RepD.mk L (by omega) ?_
 have e3 : (min i j + (L : Int)).toNat = c := by omega
 rw [e3, Int.add_mul, ← h1, ← h2, ← Int.add_mul]
 generalize signed s m (i - min i j).toNat + signed t n (j - min i j).toNat = T
 rw [sv9]
 by_cases h0 : T = 0
 ·
  subst h0; simp
 ·
  simp only [h0, if_false]
  by_cases hn : T < 0
  ·
   simp only [hn, decide_true, if_true]
   rw [show ((T.natAbs : Nat) : Int) = -T by omega]
   simp [Int.neg_mul]
  ·
   simp only [hn, decide_false]
   rw [show ((T.natAbs : Nat) : Int) = T by omega]
   simp

theorem opp_rep {d : Datum} {a : Int} (h : RepD d a) : RepD d.opposite (-a) := by
 obtain ⟨s, m, p, K, rfl, hK, hv⟩ := h
 refine RepD.mk K hK ?_
 rw [sv9] at hv ⊢
 rw [Int.neg_mul, ← hv]
 cases s <;> simp

theorem prod_rep {d e : Datum} {a b : Int} (ha : RepD d a) (hb : RepD e b) : ∃ f, d.product e = some f ∧ RepD f (a * b) := by
 obtain ⟨s, m, i, K, rfl, hK, ha⟩ := ha
 obtain ⟨t, n, j, L, rfl, hL, hb⟩ := hb
 refine ⟨_, rfl, ?_⟩
 refine RepD.mk (K + L) (by omega) ?_
 have e : (i + j + ((K + L : Nat) : Int)).toNat = (i + (K : Int)).toNat + (j + (L : Int)).toNat := by omega
 rw [e]
 have h' : a * b * (2 ^ (K + L)) = (a * 2 ^ K) * (b * 2 ^ L) := by
  rw [Int.pow_add]
  simp only [Int.mul_assoc, Int.mul_left_comm]
 rw [h', ← ha, ← hb, sv9, sv9, sv9, Int.pow_add]
 generalize (2 : Int) ^ (i + (K : Int)).toNat = A
 generalize (2 : Int) ^ (j + (L : Int)).toNat = B
 rw [Int.natCast_mul]
 have hAB : (m : Int) * (n : Int) * (A * B) = (m : Int) * A * ((n : Int) * B) := by simp only [Int.mul_assoc, Int.mul_left_comm]
 rw [hAB]
 cases s <;> cases t <;> simp [Int.neg_mul, Int.mul_neg]

/-! ### rounding is exact -/

theorem log2_bd (m : Nat) (h : m ≠ 0) : 2 ^ m.log2 ≤ m ∧ m < 2 ^ (m.log2 + 1) := ⟨Nat.log2_self_le h, Nat.lt_log2_self⟩

theorem cut_exact (way : Toward) (neg : Bool) (n q drop : Nat) (h : n = q * 2 ^ drop) : way.cut neg n drop = q := by
 by_cases h0 : n = 0
 ·
  have hq : q = 0 := by
   rcases Nat.eq_zero_or_pos q with hq | hq
   ·
    exact hq
   ·
    exact absurd (h0.symm.trans h) (Nat.ne_of_lt (Nat.mul_pos hq (Nat.pow_pos (by decide))))
  subst h0; subst hq
  unfold Toward.cut
  cases way <;> simp
 ·
  have hq : q ≠ 0 := fun e => h0 (by rw [h, e, Nat.zero_mul])
  have hd : drop ≤ n.log2 := by
   rcases Nat.lt_or_ge n.log2 drop with hlt | hge
   ·
    have h1 := (log2_bd n h0).2
    have h2 : 2 ^ (n.log2 + 1) ≤ 2 ^ drop := Nat.pow_le_pow_right (by decide) hlt
    have h3 : 2 ^ drop ≤ q * 2 ^ drop := Nat.le_mul_of_pos_left _ (Nat.pos_of_ne_zero hq)
    omega
   ·
    exact hge
  have hmin : min drop (n.log2 + 2) = drop := by omega
  have hr : n % 2 ^ drop = 0 := by rw [h]; exact Nat.mul_mod_left _ _
  have hdv : n / 2 ^ drop = q := by rw [h]; exact Nat.mul_div_cancel _ (Nat.pow_pos (by decide))
  have hp : 0 < 2 ^ drop := Nat.pow_pos (by decide)
  unfold Toward.cut
  simp only [hmin, Nat.one_shiftLeft, hr, hdv]
  cases way <;> simp

theorem pow53 : (2 : Nat) ^ 53 = 9007199254740992 := by decide
theorem pow52 : (2 : Nat) ^ 52 = 4503599627370496 := by decide

theorem read_word (neg : Bool) (r : Nat) (hr : r < double.signWeight) : double.read (double.word neg r) =
  if r < double.binade then .number neg r double.leastPlace
  else if r < double.infRung then .number neg (double.binade + r % double.binade) (double.leastPlace + (r / double.binade - 1 : Nat))
  else if r = double.infRung then .infinity neg
  else .nan neg (r - double.infRung) := by
 have hs : 0 < double.signWeight := by decide
 have h1 : double.word neg r / double.signWeight % 2 = if neg then 1 else 0 := by
  cases neg
  ·
   simp [Format.word, Nat.div_eq_of_lt hr]
  ·
   simp [Format.word, Nat.add_div_left _ hs, Nat.div_eq_of_lt hr]
 have h2 : double.word neg r % double.signWeight = r := by
  cases neg
  ·
   simp [Format.word, Nat.mod_eq_of_lt hr]
  ·
   simp [Format.word, Nat.add_mod_left, Nat.mod_eq_of_lt hr]
 unfold Format.read
 simp only [h1, h2]
 cases neg <;> rfl

theorem binade_eq : double.binade = 4503599627370496 := by decide
theorem infRung_eq : double.infRung = 9218868437227405312 := by decide
theorem signW_eq : double.signWeight = 9223372036854775808 := by decide
theorem least_eq : double.leastPlace = -1074 := by decide

theorem read_norm (s : Bool) (T q : Nat) (hT : T ≤ 1075) (h1 : 4503599627370496 ≤ q) (h2 : q < 9007199254740992) :
  double.read (double.word s (min (T * double.binade + q) double.infRung)) = .number s q ((T : Int) - 1074) := by
 rw [binade_eq, infRung_eq]
 obtain ⟨r, hr⟩ : ∃ r : Nat, r = T * 4503599627370496 + q := ⟨_, rfl⟩
 have hmin : min (T * 4503599627370496 + q) 9218868437227405312 = r := by omega
 rw [hmin, read_word s r (by rw [signW_eq]; omega), binade_eq, infRung_eq, least_eq, if_neg (by omega), if_pos (by omega)]
 have hmod : r % 4503599627370496 = q - 4503599627370496 := by omega
 have hdiv : r / 4503599627370496 = T + 1 := by omega
 rw [hmod, hdiv]
 have e1 : 4503599627370496 + (q - 4503599627370496) = q := by omega
 have e2 : (-1074 : Int) + ((T + 1 - 1 : Nat) : Int) = (T : Int) - 1074 := by omega
 rw [e1, e2]

theorem nearest_rep (s : Bool) (m : Nat) (p n : Int) (h : RepD (.number s m p) n) (hn : -9007199254740992 ≤ n ∧ n ≤ 9007199254740992) : Rep (double.nearest s m p) n := by
 unfold Rep Format.nearest
 by_cases hm : m = 0
 ·
  subst hm
  have hn0 : n = 0 := by
   obtain ⟨s', m', p', K, he, hK, hv⟩ := h
   injection he with e1 e2 e3
   subst e2
   rw [sv9] at hv
   have h0 : n * 2 ^ K = 0 := by rw [← hv]; simp
   rcases Int.mul_eq_zero.1 h0 with hv | hv
   ·
    exact hv
   ·
    have : (0 : Int) < 2 ^ K := Int.pow_pos (by decide)
    omega
  subst hn0
  rw [if_pos rfl, read_word s 0 (by decide), if_pos (by decide)]
  exact RepD.mk 1100 (by decide) (by rw [sv9, Int.natCast_zero, Int.zero_mul, Int.zero_mul, Int.mul_zero])
 ·
  rw [if_neg hm]
  obtain ⟨hl1, hl2⟩ := log2_bd m hm
  have hL : double.leastPlace = -1074 := by decide
  have hF : (double.fractionBits : Int) = 52 := rfl
  rw [hL, hF]
  -- the scale: 2 ^ K, K large
  obtain ⟨K, hK⟩ : ∃ K : Nat, 0 ≤ p + (K : Int) ∧ 1200 ≤ K := ⟨(-p).toNat + 1200, by omega, by omega⟩
  have hv := h.scale K hK.1
  have habs : m * 2 ^ (p + (K : Int)).toNat = n.natAbs * 2 ^ K := by
   rw [sv9] at hv
   have := congrArg Int.natAbs hv
   rw [Int.natAbs_mul, Int.natAbs_mul, Int.natAbs_mul] at this
   have e1 : (if s then (-1 : Int) else 1).natAbs = 1 := by cases s <;> rfl
   rw [e1, Int.natAbs_pow, Int.natAbs_pow] at this
   simpa using this
  have hn0 : n.natAbs ≠ 0 := by
   intro e
   rw [e, Nat.zero_mul] at habs
   exact absurd habs (Nat.ne_of_gt (Nat.mul_pos (Nat.pos_of_ne_zero hm) (Nat.pow_pos (by decide))))
  have hn53 : n.natAbs ≤ 2 ^ 53 := by rw [pow53]; omega
  -- log2 of the number
  have hlog : (n.natAbs.log2 : Int) = p + (m.log2 : Int) := by
   obtain ⟨g1, g2⟩ := log2_bd n.natAbs hn0
   have a1 : 2 ^ (m.log2 + (p + (K : Int)).toNat) ≤ n.natAbs * 2 ^ K := by rw [← habs, Nat.pow_add]; exact Nat.mul_le_mul_right _ hl1
   have a2 : n.natAbs * 2 ^ K < 2 ^ (m.log2 + 1 + (p + (K : Int)).toNat) := by rw [← habs, Nat.pow_add]; exact Nat.mul_lt_mul_of_pos_right hl2 (Nat.pow_pos (by decide))
   have b1 : 2 ^ (n.natAbs.log2 + K) ≤ n.natAbs * 2 ^ K := by rw [Nat.pow_add]; exact Nat.mul_le_mul_right _ g1
   have b2 : n.natAbs * 2 ^ K < 2 ^ (n.natAbs.log2 + 1 + K) := by rw [Nat.pow_add]; exact Nat.mul_lt_mul_of_pos_right g2 (Nat.pow_pos (by decide))
   have c1 : m.log2 + (p + (K : Int)).toNat < n.natAbs.log2 + 1 + K := (Nat.pow_lt_pow_iff_right (by decide)).1 (Nat.lt_of_le_of_lt a1 b2)
   have c2 : n.natAbs.log2 + K < m.log2 + 1 + (p + (K : Int)).toNat := (Nat.pow_lt_pow_iff_right (by decide)).1 (Nat.lt_of_le_of_lt b1 a2)
   omega
  have hlog53 : n.natAbs.log2 ≤ 53 := by
   obtain ⟨g1, _⟩ := log2_bd n.natAbs hn0
   exact (Nat.pow_le_pow_iff_right (by decide : 1 < 2)).1 (Nat.le_trans g1 hn53)
  obtain ⟨t, ht⟩ : ∃ t : Nat, t = n.natAbs.log2 := ⟨_, rfl⟩
  obtain ⟨last, hlast⟩ : ∃ last : Int, last = (t : Int) - 52 := ⟨_, rfl⟩
  have hmax : max (p + (m.log2 : Int) - 52) (-1074) = last := by omega
  simp only [hmax]
  -- what is kept
  obtain ⟨q, hq⟩ : ∃ q : Nat, q * 2 ^ (last + (K : Int)).toNat = n.natAbs * 2 ^ K := by
   rcases Int.lt_or_le 0 last with h1 | h1
   ·
    have e1 : last = 1 := by omega
    have e53 : n.natAbs = 2 ^ 53 := by
     obtain ⟨g1, _⟩ := log2_bd n.natAbs hn0
     rw [← ht, show t = 53 by omega] at g1
     omega
    refine ⟨2 ^ 52, ?_⟩
    rw [e53, e1, show ((1 : Int) + (K : Int)).toNat = 1 + K by omega, ← Nat.pow_add, ← Nat.pow_add]
    congr 1
    omega
   ·
    refine ⟨n.natAbs * 2 ^ (-last).toNat, ?_⟩
    rw [Nat.mul_assoc, ← Nat.pow_add]
    congr 2
    omega
  have hq1 : 2 ^ 52 ≤ q ∧ q < 2 ^ 53 := by
   obtain ⟨g1, g2⟩ := log2_bd n.natAbs hn0
   rw [← ht] at g1 g2
   have b1 : 2 ^ (t + K) ≤ q * 2 ^ (last + (K : Int)).toNat := by rw [hq, Nat.pow_add]; exact Nat.mul_le_mul_right _ g1
   have b2 : q * 2 ^ (last + (K : Int)).toNat < 2 ^ (t + 1 + K) := by rw [hq, Nat.pow_add]; exact Nat.mul_lt_mul_of_pos_right g2 (Nat.pow_pos (by decide))
   have e1 : t + K = 52 + (last + (K : Int)).toNat := by omega
   have e2 : t + 1 + K = 53 + (last + (K : Int)).toNat := by omega
   rw [e1, Nat.pow_add] at b1
   rw [e2, Nat.pow_add] at b2
   exact ⟨Nat.le_of_mul_le_mul_right b1 (Nat.pow_pos (by decide)), Nat.lt_of_mul_lt_mul_right b2⟩
  have hcut : Toward.even.cut s (m <<< (p - last).toNat) (last - p).toNat = q := by
   apply cut_exact
   rw [Nat.shiftLeft_eq]
   -- scale both sides
   have hpos : 0 < 2 ^ (min p last + (K : Int)).toNat := Nat.pow_pos (by decide)
   apply Nat.eq_of_mul_eq_mul_right hpos
   rw [Nat.mul_assoc, Nat.mul_assoc, ← Nat.pow_add, ← Nat.pow_add]
   rw [show (p - last).toNat + (min p last + (K : Int)).toNat = (p + (K : Int)).toNat by omega, show (last - p).toNat + (min p last + (K : Int)).toNat = (last + (K : Int)).toNat by omega, habs, hq]
  simp only [hcut]
  obtain ⟨T, hT⟩ : ∃ T : Nat, T = (last - -1074).toNat := ⟨_, rfl⟩
  rw [← hT]
  rw [pow52, pow53] at hq1
  have hTI : (T : Int) = last + 1074 := by omega
  have hTm : T ≤ 1075 := by omega
  rw [read_norm s T q hTm hq1.1 hq1.2]
  refine RepD.mk K (by omega) ?_
  rw [show ((T : Int) - 1074 + (K : Int)).toNat = (last + (K : Int)).toNat by omega]
  rw [sv9] at hv ⊢
  have c1 : ((q * 2 ^ (last + (K : Int)).toNat : Nat) : Int) = ((m * 2 ^ (p + (K : Int)).toNat : Nat) : Int) := by rw [hq, habs]
  rw [Int.natCast_mul, Int.natCast_mul, Int.natCast_pow, Int.natCast_pow] at c1
  have c2 : (q : Int) * 2 ^ (last + (K : Int)).toNat = (m : Int) * 2 ^ (p + (K : Int)).toNat := by simpa using c1
  rw [c2, hv]

theorem write_rep {d : Datum} {n : Int} (h : RepD d n) (hn : -9007199254740992 ≤ n ∧ n ≤ 9007199254740992) : Rep (double.write d) n := by
 obtain ⟨s, m, p, rfl, h⟩ := h.form
 exact nearest_rep s m p n h hn

theorem toInt_rep {d : Datum} {n : Int} (h : RepD d n) : d.toInt .zero = some n := by
 obtain ⟨s, m, p, rfl, h⟩ := h.form
 obtain ⟨K, hK⟩ : ∃ K : Nat, 0 ≤ p + (K : Int) := ⟨(-p).toNat, by omega⟩
 have hv := h.scale K hK
 have habs : m * 2 ^ (p + (K : Int)).toNat = n.natAbs * 2 ^ K := by
  rw [sv9] at hv
  have := congrArg Int.natAbs hv
  rw [Int.natAbs_mul, Int.natAbs_mul, Int.natAbs_mul] at this
  have e1 : (if s then (-1 : Int) else 1).natAbs = 1 := by cases s <;> rfl
  rw [e1, Int.natAbs_pow, Int.natAbs_pow] at this
  simpa using this
 have hcut : Toward.zero.cut s (m <<< p.toNat) (-p).toNat = n.natAbs := by
  apply cut_exact
  rw [Nat.shiftLeft_eq]
  apply Nat.eq_of_mul_eq_mul_right (show 0 < 2 ^ (min p 0 + (K : Int)).toNat from Nat.pow_pos (by decide))
  rw [Nat.mul_assoc, Nat.mul_assoc, ← Nat.pow_add, ← Nat.pow_add]
  rw [show p.toNat + (min p 0 + (K : Int)).toNat = (p + (K : Int)).toNat by omega, show (-p).toNat + (min p 0 + (K : Int)).toNat = K by omega, habs]
 unfold Datum.toInt Datum.integral
 simp only [hcut]
 rw [sv9]
 congr 1
 rw [sv9] at hv
 have hpos : (0 : Int) < 2 ^ K := Int.pow_pos (by decide)
 have hpos2 : (0 : Int) ≤ (m : Int) * 2 ^ (p + (K : Int)).toNat := Int.mul_nonneg (by omega) (Int.le_of_lt (Int.pow_pos (by decide)))
 cases s with
 | false =>
  simp only [Bool.false_eq_true, if_false, Int.one_mul] at hv ⊢
  rw [hv] at hpos2
  have : 0 ≤ n := by
   rcases Int.lt_or_le n 0 with h1 | h1
   ·
    have := Int.mul_lt_mul_of_pos_right h1 hpos; omega
   ·
    exact h1
  simp; omega
 | true =>
  simp only [if_true] at hv ⊢
  have : n ≤ 0 := by
   rcases Int.lt_or_le 0 n with h1 | h1
   ·
    have := Int.mul_lt_mul_of_pos_right h1 hpos; omega
   ·
    exact h1
  simp; omega

/-! ### what the operations give at words that are whole numbers -/

def fb (n : Int) : Nat := floatOfInt .f64 n
theorem fb_rep (n : Int) (h : -9007199254740992 ≤ n ∧ n ≤ 9007199254740992) : Rep (fb n) n := by
 unfold fb floatOfInt FloatKind.nearest FloatKind.encode FloatKind.format
 refine write_rep (RepD.mk 0 (by simp) ?_) h
 rw [sv9]
 by_cases hn : n < 0
 ·
  simp [hn]; omega
 ·
  simp [hn]; omega

section
variable {P : Program} (w : World) (t : TypeId) {x y : Nat} {a b : Int}
theorem ord_rep (ha : Rep x a) (hb : Rep y b) : FloatKind.f64.format.order x y = some (compare a b) := order_rep ha hb
theorem eq_rep (ha : Rep x a) (hb : Rep y b) : (FloatKind.f64.format.order x y == some .eq) = (a == b) := by
 rw [ord_rep ha hb]
 rcases Int.lt_trichotomy a b with h | h | h
 ·
  have : (a == b) = false := by simp; omega
  simp [Int.compare_eq_lt.2 h, this]
 ·
  subst h; simp
 ·
  have : (a == b) = false := by simp; omega
  simp [Int.compare_eq_gt.2 h, this]
theorem geq_rep (ha : Rep x a) (hb : Rep y b) : (FloatKind.f64.format.order x y == some .gt || FloatKind.f64.format.order x y == some .eq) = decide (b ≤ a) := by
 rw [ord_rep ha hb]
 rcases Int.lt_trichotomy a b with h | h | h
 ·
  simp [Int.compare_eq_lt.2 h]; omega
 ·
  subst h; simp
 ·
  simp [Int.compare_eq_gt.2 h]; omega
theorem leq_rep (ha : Rep x a) (hb : Rep y b) : (FloatKind.f64.format.order x y == some .lt || FloatKind.f64.format.order x y == some .eq) = decide (a ≤ b) := by
 rw [ord_rep ha hb]
 rcases Int.lt_trichotomy a b with h | h | h
 ·
  simp [Int.compare_eq_lt.2 h]; omega
 ·
  subst h; simp
 ·
  simp [Int.compare_eq_gt.2 h]; omega
theorem run_toInt_rep (src dst : TypeId) (hs : (P.underlying src).isSome = true) (hd : P.underlying dst = some (.int .i64)) (ha : Rep x a) (h : -9007199254740992 ≤ a ∧ a ≤ 9007199254740992) :
  (convert src dst (.float .f64 x)).run P w = .ok (.int .i64 a) w := by
 refine run_convert_float_int w src dst .f64 .i64 x a hs hd ?_
 unfold floatToIntVal
 rw [show FloatKind.f64.decode x = double.read x from rfl, toInt_rep ha]
 have h1 : IntKind.i64.min = -9223372036854775808 := rfl
 have h2 : IntKind.i64.max = 9223372036854775807 := rfl
 simp only []
 rw [if_pos]
 rw [h1, h2]
 omega

theorem add_rep (ha : Rep x a) (hb : Rep y b) (h : -9007199254740992 ≤ a + b ∧ a + b ≤ 9007199254740992) : ∃ r, floatBits .add .f64 x y = some r ∧ Rep r (a + b) := by
 obtain ⟨f, hf, hr⟩ := sum_rep ha hb
 refine ⟨double.write f, ?_, write_rep hr h⟩
 show ((double.read x).sum (double.read y)).map double.write = _
 rw [hf]; rfl
theorem sub_rep (ha : Rep x a) (hb : Rep y b) (h : -9007199254740992 ≤ a - b ∧ a - b ≤ 9007199254740992) : ∃ r, floatBits .sub .f64 x y = some r ∧ Rep r (a - b) := by
 obtain ⟨f, hf, hr⟩ := sum_rep ha (opp_rep hb)
 refine ⟨double.write f, ?_, write_rep (by rw [Int.sub_eq_add_neg]; exact hr) h⟩
 show ((double.read x).sum (double.read y).opposite).map double.write = _
 rw [hf]; rfl
theorem mul_rep (ha : Rep x a) (hb : Rep y b) (h : -9007199254740992 ≤ a * b ∧ a * b ≤ 9007199254740992) : ∃ r, floatBits .mul .f64 x y = some r ∧ Rep r (a * b) := by
 obtain ⟨f, hf, hr⟩ := prod_rep ha hb
 refine ⟨double.write f, ?_, write_rep hr h⟩
 show ((double.read x).product (double.read y)).map double.write = _
 rw [hf]; rfl
end

theorem rep_most : Rep 4845873199050653696 9007199254740992 := ⟨false, 4503599627370496, 1, 0, by decide +kernel, by decide, by decide⟩
theorem rep_least : Rep 14069245235905429504 (-9007199254740992) := ⟨true, 4503599627370496, 1, 0, by decide +kernel, by decide, by decide⟩
theorem rep_zero : Rep 0 0 := by
 unfold Rep
 rw [show double.read 0 = .number false 0 (-1074) from by decide +kernel]
 exact RepD.mk 1100 (by decide) (by rw [sv9, Int.natCast_zero, Int.zero_mul, Int.mul_zero, Int.zero_mul])

/-! ### any number, in the range of 2^53 -/
end Go.Proofs.YtiaabmhjkoohmaaGreat
namespace Go.Proofs.YtiaabmhjkoohmaaGreat
set_option linter.unusedVariables false
set_option linter.unusedSimpArgs false
open Go.RowKit
def in53 (n : Int) : Bool := decide (-9007199254740992 ≤ n ∧ n ≤ 9007199254740992)
theorem i53 {n : Int} : in53 n = true ↔ (-9007199254740992 ≤ n ∧ n ≤ 9007199254740992) := by simp [in53]
theorem whole_c (x : Nat) (n : Int) (hr : Rep x n) (hn : -9007199254740992 ≤ n ∧ n ≤ 9007199254740992) (w : World) :
  Calls Tryz.prog 201 #[.float .f64 x] w fun e w' => e = .returned (.bool true) ∧ w = w' := by
 have g1 := geq_rep hr rep_least
 have g2 := leq_rep hr rep_most
 have g3 := fun w => run_toInt_rep (P := Tryz.prog) w 293 2 (by kernel_rfl) Tryz.underlying2 hr hn
 have g4 := eq_rep hr (fb_rep n hn)
 have d1 : decide ((-9007199254740992 : Int) ≤ n) = true := by simp; omega
 have d2 : decide (n ≤ (9007199254740992 : Int)) = true := by simp; omega
 have d3 : (n == n) = true := by simp
 rw [d1] at g1
 rw [d2] at g2
 rw [d3] at g4
 unfold fb at g4
 clear d1 d2 d3
 go_enter Tryz.func201, Tryz.ntmps201
 go_wp2
 go_ret
 exact ⟨rfl, rfl⟩

theorem pright_c (x y : Nat) (a b : Int) (hx : Rep x a) (hy : Rep y b) (ha : in53 a = true) (hb : in53 b = true) (w : World) :
  Calls Tryz.prog 185 #[.complex .f64 x y] w fun e w' => e = .returned (.bool true) ∧ w = w' := by
 go_enter Tryz.func185, Tryz.ntmps185
 go_wp2_with fail
 refine (whole_c x a hx (i53.1 ha) _).mono ?_
 rintro e w' ⟨rfl, rfl⟩
 go_wp2_with fail
 refine (whole_c y b hy (i53.1 hb) _).mono ?_
 rintro e w' ⟨rfl, rfl⟩
 go_wp2_with fail
 go_ret
 exact ⟨rfl, rfl⟩
theorem of_t (a b : Int) (ha : in53 a = true) (hb : in53 b = true) (w : World) :
  Calls Tryz.prog 183 #[.int .i64 a, .int .i64 b] w fun e w' => e = .returned (.tuple #[.complex .f64 (fb a) (fb b), .int .i64 0]) ∧ w = w' := by
 have ha' := i53.1 ha
 have hb' := i53.1 hb
 unfold fb
 go_enter Tryz.func183, Tryz.ntmps183
 go_wp2
 go_ret2
 exact ⟨rfl, rfl⟩
theorem sides_c (x y : Nat) (a b : Int) (hx : Rep x a) (hy : Rep y b) (ha : in53 a = true) (hb : in53 b = true) (w : World) :
  Calls Tryz.prog 164 #[.complex .f64 x y] w fun e w' => e = .returned (.tuple #[.int .i64 a, .int .i64 b, .int .i64 0]) ∧ w = w' := by
 have g3 := fun w => run_toInt_rep (P := Tryz.prog) w 293 2 (by kernel_rfl) Tryz.underlying2 hx (i53.1 ha)
 have g4 := fun w => run_toInt_rep (P := Tryz.prog) w 293 2 (by kernel_rfl) Tryz.underlying2 hy (i53.1 hb)
 go_enter Tryz.func164, Tryz.ntmps164
 go_wp2_with (go_at_call 185; refine (pright_c x y a b hx hy ha hb _).mono ?_; rintro e w' ⟨rfl, rfl⟩)
 go_ret3
 exact ⟨rfl, rfl⟩
theorem share_t (a b : Int) (ha : in53 a = true) (hb : in53 b = true) (w : World) :
  Calls Tryz.prog 162 #[.agg #[.int .i64 a, .int .i64 b]] w fun e w' => e = .returned (.tuple #[.complex .f64 (fb a) (fb b), .int .i64 0]) ∧ Below w.heap.size w w' := by
 go_enter Tryz.func162, Tryz.ntmps162
 go_wp2_with (go_at_call 183; refine (of_t a b ha hb _).mono ?_; rintro e w' ⟨rfl, rfl⟩)
 go_ret2
 exact ⟨rfl, bz1 _ _⟩
end Go.Proofs.YtiaabmhjkoohmaaGreat
namespace Go.Proofs.YtiaabmhjkoohmaaGreat
set_option maxRecDepth 100000
set_option maxHeartbeats 25600000
set_option linter.unusedVariables false
set_option linter.unusedSimpArgs false
open Go.RowKit Tryz
open Lib (hid)
def nameC (first : Bool) (c : Nat) : Bool := decide ((97 ≤ c ∧ c ≤ 122) ∨ (first = false ∧ ((48 ≤ c ∧ c ≤ 57) ∨ c = 45)))
def nameB (s : ByteArray) : Bool := decide (s.size ≠ 0) && decide (s.size ≤ 16) && (List.range s.size).all fun i => nameC (i == 0) (s.data.toList.getD i 0).toNat
theorem byte_at (s : ByteArray) (k : Nat) (hk : k < s.size) : s.data.toList.getD k 0 = s[k] := by
 have : k < s.data.toList.length := by simpa using hk
 simp [List.getD, List.getElem?_eq_getElem this]
 rfl
theorem name_no (s : ByteArray) (k : Nat) (hk : k < s.size) (h : nameC (k == 0) s[k].toNat = false) : nameB s = false := by
 have : ((List.range s.size).all fun i => nameC (i == 0) (s.data.toList.getD i 0).toNat) = false := by
  rw [List.all_eq_false]
  exact ⟨k, List.mem_range.2 hk, by rw [byte_at s k hk, h]; decide⟩
 rw [nameB, this, Bool.and_false]
theorem name_step (s : ByteArray) (k : Nat) (hk : k < s.size) (hA : ((List.range k).all fun i => nameC (i == 0) (s.data.toList.getD i 0).toNat) = true) (h : nameC (k == 0) s[k].toNat = true) :
  ((List.range (k + 1)).all fun i => nameC (i == 0) (s.data.toList.getD i 0).toNat) = true := by
 rw [List.range_succ, List.all_append, hA]
 simp only [List.all_cons, List.all_nil, byte_at s k hk, h, Bool.and_self]
theorem name_c (s : ByteArray) (w : World) (hs : s.size ≤ 9223372036854775807) : Calls prog 187 #[.string s] w fun e w' => e = .returned (.bool (nameB s)) ∧ w = w' := by
 obtain ⟨r, hr⟩ : ∃ r, r = nameB s := ⟨_, rfl⟩
 rw [← hr]
 have HR := hid hr
 clear hr
 have hsl : s.toList = s.data.toList := ByteArray.toList_eq s
 have hsz : s.data.toList.length = s.size := by simp
 by_cases h0 : s.size = 0
 ·
  have e : r = false := by rw [HR.out]; simp [nameB, h0]
  subst e
  have e1 : s.toList = [] := by rw [hsl]; exact List.eq_nil_of_length_eq_zero (by omega)
  have e2 : s.toList.isEmpty = true := by rw [e1]; rfl
  clear HR hsl hsz
  go_enter func187, ntmps187
  go_wp2
  go_ret
  exact ⟨rfl, rfl⟩
 have e1 : ¬ s.toList = [] := by rw [hsl]; intro e; rw [e] at hsz; simp at hsz; omega
 have e2 : s.toList.isEmpty = false := by cases hh : s.toList with
  | nil => exact absurd hh e1
  | cons a l => rfl
 clear hsl hsz
 by_cases h16 : 16 < s.size
 ·
  have e : r = false := by rw [HR.out]; simp [nameB, h0]; omega
  subst e
  clear HR
  go_enter func187, ntmps187
  go_wp2
  go_ret
  exact ⟨rfl, rfl⟩
 go_enter func187, ntmps187
 go_wp2
 go_loop [15] (fun i => ∃ k : Nat, k ≤ s.size ∧ i = .int .i64 k ∧ Hid (((List.range k).all fun i => nameC (i == 0) (s.data.toList.getD i 0).toNat) = true)) (fun i => s.size - (intOf i).toNat)
 case atStart => exact ⟨0, Nat.zero_le _, rfl, rfl⟩
 case round =>
  obtain ⟨k, hk', rfl, HA⟩ := hrel
  by_cases hk : k < s.size
  case neg =>
   go_wp2
   go_ret
   refine ⟨rb9 ?_, rfl⟩
   have hA := HA.out
   rw [show k = s.size by omega] at hA
   rw [HR.out, nameB, hA]
   simp [h0]; omega
  have hb := (s[k].toNat_lt)
  by_cases a1 : 97 ≤ (s[k].toNat : Int)
  ·
   by_cases a2 : (s[k].toNat : Int) ≤ 122
   ·
    skip
    go_wp2
    go_round
    case rel => exact ⟨k + 1, by omega, by go_num, name_step s k hk HA.out (by simp [nameC]; omega)⟩
    case measure => simp [intOf]; omega
   ·
    by_cases k0 : k = 0
    ·
     have kk : ((k : Int) == 0) = true := by simp; omega
     have K0 := hid k0
     clear k0
     go_wp2
     go_ret
     exact ⟨rb9 (by rw [HR.out]; exact (name_no s k hk (by have := K0.out; subst this; simp [nameC]; omega)).symm), rfl⟩
    ·
     have kk : ((k : Int) == 0) = false := by simp; omega
     have c1 : ((s[k].toNat : Int) != 45) = true := by simp; omega
     go_wp2
     go_ret
     exact ⟨rb9 (by rw [HR.out]; exact (name_no s k hk (by simp [nameC]; omega)).symm), rfl⟩
  ·
   by_cases k0 : k = 0
   ·
    have kk : ((k : Int) == 0) = true := by simp; omega
    have K0 := hid k0
    clear k0
    go_wp2
    go_ret
    exact ⟨rb9 (by rw [HR.out]; exact (name_no s k hk (by have := K0.out; subst this; simp [nameC]; omega)).symm), rfl⟩
   ·
    have kk : ((k : Int) == 0) = false := by simp; omega
    by_cases a3 : (s[k].toNat : Int) < 48
    ·
     by_cases a4 : (s[k].toNat : Int) = 45
     ·
      have c1 : ((s[k].toNat : Int) != 45) = false := by simp; omega
      have A4 := hid a4
      clear a4
      go_wp2
      go_round
      case rel => exact ⟨k + 1, by omega, by go_num, name_step s k hk HA.out (by have := A4.out; simp [nameC]; omega)⟩
      case measure => simp [intOf]; omega
     ·
      have c1 : ((s[k].toNat : Int) != 45) = true := by simp; omega
      go_wp2
      go_ret
      exact ⟨rb9 (by rw [HR.out]; exact (name_no s k hk (by simp [nameC]; omega)).symm), rfl⟩
    ·
     by_cases a5 : 57 < (s[k].toNat : Int)
     ·
      have c1 : ((s[k].toNat : Int) != 45) = true := by simp; omega
      go_wp2
      go_ret
      exact ⟨rb9 (by rw [HR.out]; exact (name_no s k hk (by simp [nameC]; omega)).symm), rfl⟩
     ·
      skip
      go_wp2
      go_round
      case rel => exact ⟨k + 1, by omega, by go_num, name_step s k hk HA.out (by simp [nameC]; omega)⟩
      case measure => simp [intOf]; omega

section
variable {w w' : World} {g : Nat} {t : TypeId} {cs : Array Value} {base size n : Nat} {e : TypeId} {v : Value} {xs : List Value}
theorem Blk.grown {row : Option Nat} (h : Blk w g t cs) (hb : w.grownBy w' row) (hg : some g ≠ row) : Blk w' g t cs := (hb.block g h.lt hg).trans h
theorem Blk.differ {g' : Nat} {t' : TypeId} {cs' : Array Value} (h : Blk w g t cs) (h' : Blk w g' t' cs') (hne : t ≠ t') : g ≠ g' := by
 rintro rfl
 unfold Blk at h h'
 rw [h] at h'
 injection h' with h'
 injection h' with _ ht
 exact hne ht
theorem obz (h : w.ownsRow base e size v n xs) (hg : Blk w g t cs) (hne : e ≠ t) : some g ≠ v.ownBlock := by
 rcases h.2 with ⟨rfl, _⟩ | ⟨g', cap, cur, rfl, _, hh, _⟩
 ·
  simp [Value.ownBlock]
 ·
  intro he
  have : g = g' := by simpa [Value.ownBlock] using he
  subst this
  exact Blk.differ (t := e) hh hg hne rfl
theorem ooz {base' size' n' : Nat} {e' : TypeId} {v' : Value} {xs' : List Value} (h : w.ownsRow base e size v n xs) (h' : w.ownsRow base' e' size' v' n' xs') (hne : e ≠ e') : v.ownBlock = none ∨ v.ownBlock ≠ v'.ownBlock := by
 rcases h.2 with ⟨rfl, _⟩ | ⟨g, cap, cur, rfl, _, hh, _⟩
 ·
  exact Or.inl rfl
 ·
  exact Or.inr (Ne.symm (Ne.symm (obz h' hh (Ne.symm hne))))
theorem grown_of_below (hb : Below w.heap.size w w') (row : Option Nat) : w.grownBy w' row := ⟨hb.os, hb.tape, hb.output, hb.size, fun k hk _ => hb.block k hk⟩
theorem oB9 (h : w.ownsRow base e size v n xs) (hb : Below w.heap.size w w') : w'.ownsRow base e size v n xs :=
 h.kept (grown_of_below hb none) (by cases v.ownBlock <;> simp)
theorem oM9 (h : w.ownsRow base e size v n xs) {base' : Nat} (hb : base' ≤ base) : w.ownsRow base' e size v n xs := by
 refine ⟨h.1, ?_⟩
 rcases h.2 with hl | ⟨g, cap, cur, rfl, h1, hr⟩
 ·
  exact Or.inl hl
 ·
  exact Or.inr ⟨g, cap, cur, rfl, by omega, hr⟩
theorem own_form (h : w.ownsRow base e size v n xs) (hn : 0 < n) : ∃ g cap, v = .slice (some ⟨g, 0, none⟩) n cap ∧ base ≤ g ∧ g < w.heap.size ∧ n ≤ cap ∧ w.ownsRow base e size (.slice (some ⟨g, 0, none⟩) n cap) n xs := by
 have h0 := h
 rcases h.2 with ⟨_, h2⟩ | ⟨g, cap, cur, rfl, h1, hr, hc, _⟩
 ·
  omega
 ·
  exact ⟨g, cap, rfl, h1, (Array.getElem?_eq_some_iff.1 hr).1, hc, h0⟩
theorem oL9 (h : w.ownsRow base e size v n xs) : ∃ A c, v = .slice A n c := by
 rcases h.2 with ⟨rfl, rfl⟩ | ⟨g, cap, cur, rfl, _⟩
 ·
  exact ⟨none, 0, rfl⟩
 ·
  exact ⟨_, _, rfl⟩
theorem below_grown {B : Nat} {a : World} {row : Option Nat} (h : Below B a w) (hg : w.grownBy w' row) (hB : B ≤ w.heap.size) (hr : ∀ k, row = some k → B ≤ k) : Below B a w' := h.grown hg hB hr
theorem below_app {B : Nat} {a : World} (h : Below B a w) (hown : w.ownsRow base e size v n xs) (hg : w.grownBy w' v.ownBlock) (hB : B ≤ w.heap.size) (hb : B ≤ base) : Below B a w' :=
 h.grown hg hB (fun k hk => Nat.le_trans hb (hown.lt k hk).1)
end

section
variable {P : Program}
theorem run_app1 (w : World) (t ty e : TypeId) (z : Value) (size bytes : Nat) (ht : P.underlying t = some (.slice e)) (hi : (P.info? e).map (fun i => (i.zero, i.size, i.bytes)) = some (some z, size, bytes))
  (hzs : z.cells.size = size) (hsz : 0 < size) {base : Nat} {v : Value} {n : Nat} {xs : List Value} (hown : w.ownsRow base e size v n xs) (cs : Array Value) (hl : cs.size = size) (h1 : ∀ u ∈ cs.toList, u.oneCell' = true)
  (hn : (n + 1) * bytes ≤ 140737488355328) (hn2 : n + 1 ≤ 9223372036854775807) (hbase : base ≤ w.heap.size) :
  ∃ v' w', (Builtin.append_ #[t, t] ty #[v, .slice (some ⟨w.heap.size, 0, none⟩) 1 1]).run P (w.alloc (.cells cs e)) = .ok v' w' ∧ w'.ownsRow base e size v' (n + 1) (xs ++ cs.toList) ∧ w.grownBy w' v.ownBlock := by
 obtain ⟨i, hi', hz, hs, hb⟩ := info_parts hi
 obtain ⟨v', w', hr, ho, hg, _⟩ := run_append_own (P := P) (w.alloc (.cells cs e)) base t ty e i z size bytes ht hi' hz hs hb hzs hsz v n xs (hown.alloc _) ⟨w.heap.size, 0, none⟩ 1 1 cs.toList (by simpa using hl)
  (fun j u hu => by
   rw [add_plain, cell_of_row _ _ _ cs e (0, 0) (heap_alloc_new w _)]
   simpa using hu) h1 (by unfold maxLen; exact hn2) hn (by simp; omega)
 exact ⟨v', w', hr, ho, (World.grownBy_alloc w _ _).trans hg⟩
theorem wa9 {ops : Array Oper} {rest : List Oper} {o : Oper} {a : Act} {Q : Exit → Act → World → Prop} (w : World) (hgd : o.guard = none) (s x : Operand) (t : TypeId)
  (ho : o.op = .call { callee := .builtin .append, args := #[s, x], argTypes := #[t, t] })
  (e : TypeId) (z : Value) (size bytes : Nat) (ht : P.underlying t = some (.slice e)) (hi : (P.info? e).map (fun i => (i.zero, i.size, i.bytes)) = some (some z, size, bytes))
  (hzs : z.cells.size = size) (hsz : 0 < size) {base : Nat} {v : Value} {n : Nat} {xs : List Value} (hs : a.eval s = v) (hown : w.ownsRow base e size v n xs) (cs : Array Value) {nb : Nat} (hx : a.eval x = .slice (some ⟨nb, 0, none⟩) 1 1) (hnb : nb = w.heap.size)
  (hl : cs.size = size) (h1 : ∀ u ∈ cs.toList, u.oneCell' = true) (hn : (n + 1) * bytes ≤ 140737488355328) (hn2 : n + 1 ≤ 9223372036854775807) (hbase : base ≤ w.heap.size)
  (h : ∀ v' w', w'.ownsRow base e size v' (n + 1) (xs ++ cs.toList) → w.grownBy w' v.ownBlock → wpList P ops Q rest (a.put o.dst v') w') : wpList P ops Q (o :: rest) a (w.alloc (.cells cs e)) := by
 subst hnb
 refine wpList_plain hgd fun K hK => ?_
 obtain ⟨v', w', hr, h2, h3⟩ := run_app1 w t o.type e z size bytes ht hi hzs hsz hown cs hl h1 hn hn2 hbase
 unfold Oper.wp execOp
 simp only [ho, resolve, invoke, builtin, Sem.run_bind, Sem.run_pure, Result.andThen_ok, List.map_toArray, List.map_cons, List.map_nil, hs, hx, hr]
 exact hK _ _ (h v' w' h2 h3)
theorem run_make_K (t e : TypeId) (z : Value) (size bytes : Nat) (ht : P.underlying t = some (.slice e)) (hi : (P.info? e).map (fun i => (i.zero, i.size, i.bytes)) = some (some z, size, bytes))
  (n : Nat) (hn : bytes * n ≤ 281474976710656) (hn2 : n ≤ 9223372036854775807) (w : World) :
  (Instr.makeSlice t (.int .i64 (n : Int)) (.int .i64 (n : Int))).run P w = .ok (.slice (some ⟨w.heap.size, 0, none⟩) n n) (w.alloc (.cells (madeCells z.cells (n * size)) e)) := by
 obtain ⟨i, hi', hz, hs, hb⟩ := info_parts hi
 subst hs
 have hb' : (i.bytes : Int) * (n : Int) ≤ 281474976710656 := by
  have h : ((i.bytes * n : Nat) : Int) ≤ 281474976710656 := by rw [hb]; omega
  rwa [Int.natCast_mul] at h
 have hr := run_make (P := P) w t e i z ht hi' hz .i64 .i64 n n (by omega) (Int.le_refl _) hb' (by omega)
 simp only [Int.toNat_natCast] at hr
 exact hr
theorem own_made (w : World) (e : TypeId) (z : Array Value) (size n : Nat) (hn2 : n ≤ 9223372036854775807) {base : Nat} (hb : base ≤ w.heap.size) :
  (w.alloc (.cells (madeCells z (n * size)) e)).ownsRow base e size (.slice (some ⟨w.heap.size, 0, none⟩) n n) n (madeCells z (n * size)).toList :=
 World.ownsRow_lit w _ n hb (by unfold maxLen; exact hn2) (size_madeCells _ _)
end
section
variable {P : Program}
def SrcAt (w : World) (A : Option Addr) (m size : Nat) (news : List Value) : Prop :=
 news.length = m * size ∧ (0 < m → ∃ b off, A = some ⟨b, off, none⟩ ∧ b < w.heap.size ∧ ∀ j u, news[j]? = some u → w.cell? ⟨b, off + j, none⟩ = some u)
theorem SrcAt.below {w w' : World} {A : Option Addr} {m size : Nat} {news : List Value} (h : SrcAt w A m size news) (hb : Below w.heap.size w w') : SrcAt w' A m size news := by
 refine ⟨h.1, fun hm => ?_⟩
 obtain ⟨b, off, hA, hlt, hc⟩ := h.2 hm
 exact ⟨b, off, hA, Nat.lt_of_lt_of_le hlt hb.size, fun j u hu => (hb.cell (p := ⟨b, _, none⟩) hlt).trans (hc j u hu)⟩
theorem Rlz.src {α : Type} {f : α → List Value} {K : Nat} {d : α} {w : World} {A : Option Addr} {n : Nat} {l : List α} (h : Rlz f K d w A n l) (hf : ∀ x, (f x).length = K) : SrcAt w A n K (l.flatMap f) := by
 obtain ⟨h1, h2, h3⟩ := h
 have hlen : ∀ l : List α, (l.flatMap f).length = l.length * K := by
  intro l
  induction l with
  | nil => simp
  | cons x l ih => rw [List.flatMap_cons, List.length_append, ih, hf, List.length_cons, Nat.succ_mul]; omega
 refine ⟨by rw [hlen, h1], fun hn => ?_⟩
 obtain ⟨b, off, hA, hlt, hc⟩ := h3 hn
 refine ⟨b, off, hA, hlt, fun j u hu => ?_⟩
 have key : ∀ (l : List α) (j : Nat) (u : Value), (l.flatMap f)[j]? = some u → ∃ k i, k < l.length ∧ j = k * K + i ∧ (f (l.getD k d))[i]? = some u := by
  intro l
  induction l with
  | nil => intro j u hu; simp at hu
  | cons x l ih =>
   intro j u hu
   rw [List.flatMap_cons] at hu
   by_cases hj : j < K
   ·
    rw [List.getElem?_append_left (by rw [hf]; exact hj)] at hu
    exact ⟨0, j, by simp, by omega, by simpa using hu⟩
   ·
    rw [List.getElem?_append_right (by rw [hf]; omega), hf] at hu
    obtain ⟨k, i, hk, he, hv⟩ := ih _ _ hu
    exact ⟨k + 1, i, by simpa using hk, by rw [Nat.succ_mul]; omega, by simpa using hv⟩
 obtain ⟨k, i, hk, rfl, hv⟩ := key l j u hu
 have := hc k (by omega) i u hv
 rwa [Nat.add_assoc] at this
theorem own_src {w : World} {base size n c : Nat} {e : TypeId} {A : Option Addr} {xs : List Value} (h : w.ownsRow base e size (.slice A n c) n xs) : SrcAt w A n size xs := by
 refine ⟨h.1, fun hn => ?_⟩
 obtain ⟨g, cap, hv, hb, hlt, hc, ho⟩ := own_form h hn
 injection hv with hA _ _
 subst hA
 refine ⟨g, 0, rfl, hlt, fun j u hu => ?_⟩
 have hj : j < n * size := by rw [← h.1]; exact (List.getElem?_eq_some_iff.1 hu).1
 rw [Nat.zero_add, ho.cellAt j hj, hu]
theorem run_appN (w : World) (t ty e : TypeId) (z : Value) (size bytes : Nat) (ht : P.underlying t = some (.slice e)) (hi : (P.info? e).map (fun i => (i.zero, i.size, i.bytes)) = some (some z, size, bytes))
  (hzs : z.cells.size = size) (hsz : 0 < size) {base : Nat} {v : Value} {n : Nat} {xs : List Value} (hown : w.ownsRow base e size v n xs) (A : Option Addr) (m c : Nat) (news : List Value) (hsrc : SrcAt w A m size news) (h1 : ∀ u ∈ news, u.oneCell' = true)
  (hn : (n + m) * bytes ≤ 140737488355328) (hn2 : n + m ≤ 9223372036854775807) (hbase : base ≤ w.heap.size) :
  ∃ v' w', (Builtin.append_ #[t, t] ty #[v, .slice A m c]).run P w = .ok v' w' ∧ w'.ownsRow base e size v' (n + m) (xs ++ news) ∧ w.grownBy w' v.ownBlock := by
 obtain ⟨i, hi', hz, hs, hb⟩ := info_parts hi
 rcases A with _ | ad
 ·
  have hm : m = 0 := by
   rcases Nat.eq_zero_or_pos m with h0 | h0
   ·
    exact h0
   ·
    obtain ⟨b, off, h, _⟩ := hsrc.2 h0
    cases h
  subst hm
  have hnn : news = [] := List.eq_nil_of_length_eq_zero (by simpa using hsrc.1)
  subst hnn
  refine ⟨v, w, ?_, by simpa using hown, World.grownBy.refl w _⟩
  rcases hown.2 with ⟨rfl, rfl⟩ | ⟨g, cap, cur, rfl, _, _, hnc, _⟩
  ·
   simp [Builtin.append_, run_underlying ht, sizeOf, typeInfo, hi', Builtin.lenOf, Builtin.firstCells]
  ·
   simp [Builtin.append_, run_underlying ht, sizeOf, typeInfo, hi', Builtin.lenOf, Builtin.firstCells, hnc, storeCells]
 ·
  obtain ⟨v', w', hr, ho, hg, _⟩ := run_append_own (P := P) w base t ty e i z size bytes ht hi' hz hs hb hzs hsz v n xs hown ad m c news hsrc.1
   (fun j u hu => by
    have hm : 0 < m := by
     rcases Nat.eq_zero_or_pos m with h0 | h0
     ·
      subst h0
      have hnn : news = [] := List.eq_nil_of_length_eq_zero (by simpa using hsrc.1)
      subst hnn
      simp at hu
     ·
      exact h0
    obtain ⟨b, off, hA, _, hc⟩ := hsrc.2 hm
    injection hA with hA
    subst hA
    rw [add_plain]
    exact hc j u hu) h1 (by unfold maxLen; exact hn2) hn hbase
  exact ⟨v', w', hr, ho, hg⟩
theorem wn9 {ops : Array Oper} {rest : List Oper} {o : Oper} {a : Act} {Q : Exit → Act → World → Prop} (w : World) (hgd : o.guard = none) (s x : Operand) (t : TypeId)
  (ho : o.op = .call { callee := .builtin .append, args := #[s, x], argTypes := #[t, t] })
  (e : TypeId) (z : Value) (size bytes : Nat) (ht : P.underlying t = some (.slice e)) (hi : (P.info? e).map (fun i => (i.zero, i.size, i.bytes)) = some (some z, size, bytes))
  (hzs : z.cells.size = size) (hsz : 0 < size) {base : Nat} {v : Value} {n : Nat} {xs : List Value} (hs : a.eval s = v) (hown : w.ownsRow base e size v n xs) (A : Option Addr) (m c : Nat) (news : List Value) (hx : a.eval x = .slice A m c)
  (hsrc : SrcAt w A m size news) (h1 : ∀ u ∈ news, u.oneCell' = true) (hn : (n + m) * bytes ≤ 140737488355328) (hn2 : n + m ≤ 9223372036854775807) (hbase : base ≤ w.heap.size)
  (h : ∀ v' w', w'.ownsRow base e size v' (n + m) (xs ++ news) → w.grownBy w' v.ownBlock → wpList P ops Q rest (a.put o.dst v') w') : wpList P ops Q (o :: rest) a w := by
 refine wpList_plain hgd fun K hK => ?_
 obtain ⟨v', w', hr, h2, h3⟩ := run_appN w t o.type e z size bytes ht hi hzs hsz hown A m c news hsrc h1 hn hn2 hbase
 unfold Oper.wp execOp
 simp only [ho, resolve, invoke, builtin, Sem.run_bind, Sem.run_pure, Result.andThen_ok, List.map_toArray, List.map_cons, List.map_nil, hs, hx, hr]
 exact hK _ _ (h v' w' h2 h3)
end
section
variable {P : Program}
theorem step_of_run {w : World} {ops : Array Oper} {o : Oper} {a : Act} {K : Act → World → Prop} {Q : Exit → Act → World → Prop} {E : Prop} (hgd : o.guard = none) (s x : Operand) (t : TypeId)
  (ho : o.op = .call { callee := .builtin .append, args := #[s, x], argTypes := #[t, t] }) (v u : Value) (hs : a.eval s = v) (hx : a.eval x = u) (v' : Value) (w' : World)
  (hr : (Builtin.append_ #[t, t] o.type #[v, u]).run P w = .ok v' w') (h : K (a.put o.dst v') w') :
  if Region.wanted o (yielded ops a.tmps) = true then Oper.wp P o a w K Q else E := by
 have hw : Region.wanted o (yielded ops a.tmps) = true := by simp [Region.wanted, hgd]
 rw [if_pos hw]
 unfold Oper.wp execOp
 simp only [ho, resolve, invoke, builtin, Sem.run_bind, Sem.run_pure, Result.andThen_ok, List.map_toArray, List.map_cons, List.map_nil, hs, hx, hr]
 exact h
end
/-! ### steps of a call, one behind the other -/
section
variable {w W W' : World}
theorem bT (h : Below w.heap.size w W) (hb : Below W.heap.size W W') : Below w.heap.size w W' := h.trans (hb.mono h.size)
theorem bA (h : Below w.heap.size w W) (o : Obj) : Below w.heap.size w (W.alloc o) := h.alloc h.size o
theorem bD (h : Below w.heap.size w W) (n : Nat) : Below w.heap.size w (W.drewN n) := ⟨h.os, h.tape, h.output, h.size, h.block⟩
theorem bS (h : Below w.heap.size w W) {p : Addr} (hp : w.heap.size ≤ p.block) (u : Value) : Below w.heap.size w (W.setCell p u) := h.setCell hp u
theorem b0 (w : World) : Below w.heap.size w w := Below.refl _ _
theorem bP {base size n : Nat} {e : TypeId} {v : Value} {xs : List Value} (h : Below w.heap.size w W) (hown : W.ownsRow base e size v n xs) (hg : W.grownBy W' v.ownBlock) (hb : w.heap.size ≤ base) : Below w.heap.size w W' := below_app h hown hg h.size hb
theorem Blk.t {g : Nat} {t : TypeId} {cs : Array Value} (h : Blk W g t cs) (hb : Below W.heap.size W W') : Blk W' g t cs := h.below hb h.lt
theorem sK {w0 W W1 : World} {C : World → Prop} (G : ∀ W, Below w0.heap.size w0 W → Below w0.heap.size w0 W ∧ C W) (h : Below w0.heap.size w0 W ∧ C W) (hb : Below W.heap.size W W1) : Below w0.heap.size w0 W1 ∧ C W1 := G _ (h.1.trans (hb.mono h.1.size))
end
theorem ca9 (w : World) (cs : Array Value) (t : TypeId) (b i : Nat) : (w.alloc (.cells cs t)).cell? ⟨b, i, none⟩ = if b = w.heap.size then cs[i]? else w.cell? ⟨b, i, none⟩ := by
 by_cases h : b = w.heap.size
 ·
  subst h
  rw [if_pos rfl]
  exact (Blk.mk w t cs).cell i
 ·
  rw [if_neg h]
  apply World.cell?_of_block
  show (w.heap.push _)[b]? = w.heap[b]?
  rw [Array.getElem?_push, if_neg h]
theorem getElem_snoc {α : Type} (vs : List α) (x : α) (k : Nat) (h : vs.length = k) : (vs ++ [x])[k]? = some x := by subst h; simp
def I64Sl (w : World) (A : Option Addr) (n : Nat) (l : List Int) : Prop := n = l.length ∧ n ≤ 9223372036854775807 ∧ (0 < n → ∃ b off, A = some ⟨b, off, none⟩ ∧ b < w.heap.size ∧ ∀ k, k < n → w.cell? ⟨b, off + k, none⟩ = some (.int .i64 (l.getD k 0)))
theorem I64Sl.below {w w' : World} {A : Option Addr} {n : Nat} {l : List Int} (h : I64Sl w A n l) (hb : Below w.heap.size w w') : I64Sl w' A n l := by
 obtain ⟨h1, h2, h3⟩ := h
 refine ⟨h1, h2, fun hn => ?_⟩
 obtain ⟨b, off, hA, hlt, hc⟩ := h3 hn
 exact ⟨b, off, hA, Nat.lt_of_lt_of_le hlt hb.size, fun k hk => (hb.cell (p := ⟨b, _, none⟩) hlt).trans (hc k hk)⟩
def OwnI (w : World) (base : Nat) (v : Value) (n : Nat) (l : List Int) : Prop := n = l.length ∧ w.ownsRow base 2 1 v n (l.map (Value.int .i64))
theorem map_getD_int (l : List Int) (k : Nat) (h : k < l.length) : (l.map (Value.int .i64))[k]? = some (.int .i64 (l.getD k 0)) := by
 rw [List.getElem?_map, List.getElem?_eq_getElem h]
 simp [List.getD, List.getElem?_eq_getElem h]
theorem OwnI.sl {w : World} {base : Nat} {v : Value} {n : Nat} {l : List Int} (h : OwnI w base v n l) : ∃ A c, v = .slice A n c ∧ n ≤ c ∧ I64Sl w A n l := by
 obtain ⟨hn, h⟩ := h
 rcases h.2 with ⟨rfl, rfl⟩ | ⟨g, cap, cur, rfl, hb, hg, hle, hm, _, htake⟩
 ·
  exact ⟨none, 0, rfl, by omega, hn, by omega, fun h => absurd h (by omega)⟩
 ·
  unfold maxLen at hm
  refine ⟨_, _, rfl, hle, hn, by omega, fun h0 => ⟨g, 0, rfl, (Array.getElem?_eq_some_iff.1 hg).1, fun k hk => ?_⟩⟩
  rw [Nat.zero_add, World.ownsRow.cellAt h k (by omega), map_getD_int l k (by omega)]
theorem I64Sl.src {w : World} {A : Option Addr} {n : Nat} {l : List Int} (h : I64Sl w A n l) : SrcAt w A n 1 (l.map (Value.int .i64)) := by
 refine ⟨by simp [h.1], fun hn => ?_⟩
 obtain ⟨b, off, hA, hlt, hc⟩ := h.2.2 hn
 refine ⟨b, off, hA, hlt, fun j u hu => ?_⟩
 have hj : j < l.length := by simpa using (List.getElem?_eq_some_iff.1 hu).1
 rw [map_getD_int l j hj] at hu
 injection hu with hu
 rw [hc j (by rw [h.1]; exact hj), hu]
theorem info_i64 : (prog.info? 2).map (fun i => (i.zero, i.size, i.bytes)) = some (some (.int .i64 0), 1, 8) := by kernel_rfl
theorem int_one {l : List Int} : ∀ u ∈ l.map (Value.int .i64), u.oneCell' = true := ints_oneCell .i64 l
def GivesI (n : Nat) (l : List Int) (w : World) (e : Ending) (w' : World) : Prop := (∃ v, e = .returned v ∧ OwnI w' w.heap.size v n l) ∧ Below w.heap.size w w'
theorem right_sl (A : Option Addr) (n c : Nat) (l : List Int) (w : World) (h : I64Sl w A n l) :
  Calls prog 76 #[.slice A n c] w fun e w' => e = .returned (.bool (l.all mrB)) ∧ w = w' := by
 obtain ⟨h1, h2, h3⟩ := h
 by_cases h0 : n = 0
 ·
  subst h0
  have hl : l = [] := List.eq_nil_of_length_eq_zero h1.symm
  subst hl
  clear h3 h1
  go_enter func76, ntmps76
  go_wp2
  go_loop [7] (fun i => i = .int .i64 0) (fun i => 0)
  case atStart => rfl
  case round =>
   obtain rfl := hrel
   go_wp2
   go_ret
   exact ⟨rfl, rfl⟩
 ·
  obtain ⟨b, off, rfl, hlt, hc⟩ := h3 (by omega)
  exact right_any b off c n l w h1 h2 hc
theorem clone64_c (A : Option Addr) (n c : Nat) (l : List Int) (w : World) (h : I64Sl w A n l) (hn : n ≤ 1000000) :
  Calls prog 178 #[.slice A n c] w (GivesI n l w) := by
 have hq := fun W => Lib.run_eql_slice_nil (P := prog) W 165 2 A n c 0 0 underlying165
 cases hA : A with
 | none =>
  subst hA
  obtain ⟨h1, h2, h3⟩ := h
  have h0 : n = 0 := by
   rcases Nat.eq_zero_or_pos n with h0 | h0
   ·
    exact h0
   ·
    obtain ⟨b, off, h, _⟩ := h3 h0
    cases h
  subst h0
  have hl : l = [] := List.eq_nil_of_length_eq_zero h1.symm
  subst hl
  clear h3 h1
  go_enter func178, ntmps178
  go_wp2
  go_ret
  exact ⟨⟨_, rfl, rfl, World.ownsRow_nil _ _ _ _⟩, Below.refl _ _⟩
 | some ad =>
  subst hA
  have HS := hid (h.below (bz1 w (.cells #[] 2))).src
  have HN := hid h.1
  clear h
  have HO := hid (World.ownsRow_lit (e := 2) (size := 1) (base := w.heap.size) w #[] 0 (Nat.le_refl _) (by decide) rfl)
  go_enter func178, ntmps178
  go_wp2_with (at_builtin; refine wn9 _ rfl _ _ 165 rfl 2 _ 1 8 underlying165 info_i64 rfl (by decide) rfl HO.out _ _ _ _ rfl HS.out int_one (by omega) (by omega) (by simp) ?_; intro v' w1 ho hg)
  go_ret
  refine ⟨⟨_, rfl, HN.out, ?_⟩, (bz1 _ _).grown hg (by simp) (fun k hk => by injection hk with hk; exact Nat.le_of_eq hk)⟩
  simpa using ho
theorem gJ9 (W : World) (b j : Nat) (v : Value) : W.grownBy (W.setCell ⟨b, j, none⟩ v) (some b) :=
 ⟨rfl, rfl, rfl, by simp [World.setCell], fun k _ hne => heap_setCell_other W ⟨b, j, none⟩ k v (fun h => hne (by rw [h]))⟩
theorem Blk.setJ {w : World} {g : Nat} {t : TypeId} {cs : Array Value} (hb : Blk w g t cs) (i : Nat) (v : Value) : Blk (w.setCell ⟨g, i, none⟩ v) g t (cs.setIfInBounds i v) := heap_setCell_same w g i cs t v hb
theorem Blk.setO {w : World} {g g0 : Nat} {t : TypeId} {cs : Array Value} (h : Blk w g t cs) (hne : g ≠ g0) (j : Nat) (u : Value) : Blk (w.setCell ⟨g0, j, none⟩ u) g t cs := h.grown (gJ9 w g0 j u) (by simpa using hne)
theorem oS9 {w : World} {base size n : Nat} {e : TypeId} {v : Value} {xs : List Value} (h : w.ownsRow base e size v n xs) {g : Nat} {t : TypeId} {cs : Array Value} (hk : Blk w g t cs) (hne : e ≠ t) (j : Nat) (u : Value) : (w.setCell ⟨g, j, none⟩ u).ownsRow base e size v n xs :=
 h.kept (gJ9 w g j u) (Or.inr fun he => obz h hk hne he.symm)
theorem own_set2 {w : World} {base size n : Nat} {e : TypeId} {v : Value} {xs : List Value} (h : w.ownsRow base e size v n xs) {g : Nat} {t : TypeId} {cs : Array Value} (hk : Blk w g t cs) (hne : e ≠ t) (i j : Nat) (x y : Value) : ((w.setCell ⟨g, i, none⟩ x).setCell ⟨g, j, none⟩ y).ownsRow base e size v n xs :=
 oS9 (oS9 h hk hne i x) (hk.setJ i x) hne j y
theorem Blk.set2O {w : World} {g g0 : Nat} {t : TypeId} {cs : Array Value} (h : Blk w g t cs) (hne : g ≠ g0) (i j : Nat) (x y : Value) : Blk ((w.setCell ⟨g0, i, none⟩ x).setCell ⟨g0, j, none⟩ y) g t cs := (h.setO hne i x).setO hne j y
theorem bS2 {w0 W : World} (h : Below w0.heap.size w0 W) {b : Nat} (hb : w0.heap.size ≤ b) (i j : Nat) (x y : Value) : Below w0.heap.size w0 ((W.setCell ⟨b, i, none⟩ x).setCell ⟨b, j, none⟩ y) := bS (bS h hb _) hb _
theorem own_set3 {w : World} {base size n : Nat} {e : TypeId} {v : Value} {xs : List Value} (h : w.ownsRow base e size v n xs) {g : Nat} {t : TypeId} {cs : Array Value} (hk : Blk w g t cs) (hne : e ≠ t) (i j k : Nat) (x y z : Value) : (((w.setCell ⟨g, i, none⟩ x).setCell ⟨g, j, none⟩ y).setCell ⟨g, k, none⟩ z).ownsRow base e size v n xs :=
 oS9 (own_set2 h hk hne i j x y) ((hk.setJ i x).setJ j y) hne k z
theorem own_set5 {w : World} {base size n : Nat} {e : TypeId} {v : Value} {xs : List Value} (h : w.ownsRow base e size v n xs) {g : Nat} {t : TypeId} {cs : Array Value} (hk : Blk w g t cs) (hne : e ≠ t) (v0 v1 v2 v3 v4 : Value) : (((((w.setCell ⟨g, 0, none⟩ v0).setCell ⟨g, 1, none⟩ v1).setCell ⟨g, 2, none⟩ v2).setCell ⟨g, 3, none⟩ v3).setCell ⟨g, 4, none⟩ v4).ownsRow base e size v n xs :=
 h.kept (((((gJ9 w g 0 v0).trans (gJ9 _ g 1 v1)).trans (gJ9 _ g 2 v2)).trans (gJ9 _ g 3 v3)).trans (gJ9 _ g 4 v4)) (Or.inr fun he => obz h hk hne he.symm)
theorem bS5s {w0 W : World} (h : Below w0.heap.size w0 W) {b : Nat} (hb : w0.heap.size ≤ b) (v0 v1 v2 v3 v4 : Value) : Below w0.heap.size w0 (((((W.setCell ⟨b, 0, none⟩ v0).setCell ⟨b, 1, none⟩ v1).setCell ⟨b, 2, none⟩ v2).setCell ⟨b, 3, none⟩ v3).setCell ⟨b, 4, none⟩ v4) := bS (bS (bS (bS (bS h hb _) hb _) hb _) hb _) hb _
theorem Blk.set3O {w : World} {g g0 : Nat} {t : TypeId} {cs : Array Value} (h : Blk w g t cs) (hne : g ≠ g0) (i j k : Nat) (x y z : Value) : Blk (((w.setCell ⟨g0, i, none⟩ x).setCell ⟨g0, j, none⟩ y).setCell ⟨g0, k, none⟩ z) g t cs := (h.set2O hne i j x y).setO hne k z
theorem bS3 {w0 W : World} (h : Below w0.heap.size w0 W) {b : Nat} (hb : w0.heap.size ≤ b) (i j k : Nat) (x y z : Value) : Below w0.heap.size w0 (((W.setCell ⟨b, i, none⟩ x).setCell ⟨b, j, none⟩ y).setCell ⟨b, k, none⟩ z) := bS (bS2 h hb i j x y) hb _
theorem Blk.a5g {w : World} {g : Nat} {t : TypeId} {a b c d e : Value} (h : Blk w g t #[a, b, c, d, e]) : (w.cell? ⟨g, 0, none⟩ = some a ∧ w.cell? ⟨g, 1, none⟩ = some b ∧ w.cell? ⟨g, 2, none⟩ = some c ∧ w.cell? ⟨g, 3, none⟩ = some d ∧ w.cell? ⟨g, 4, none⟩ = some e) ∧ (w.frozen? ⟨g, 0, none⟩ = false ∧ w.frozen? ⟨g, 1, none⟩ = false ∧ w.frozen? ⟨g, 2, none⟩ = false ∧ w.frozen? ⟨g, 3, none⟩ = false ∧ w.frozen? ⟨g, 4, none⟩ = false) := ⟨⟨h.cell 0, h.cell 1, h.cell 2, h.cell 3, h.cell 4⟩, h.free 0, h.free 1, h.free 2, h.free 3, h.free 4⟩
theorem own_setR {w : World} {base size n cap g : Nat} {e : TypeId} {xs : List Value} (h : w.ownsRow base e size (.slice (some ⟨g, 0, none⟩) n cap) n xs) (j : Nat) (hj : j < n * size) (u : Value) :
  (w.setCell ⟨g, j, none⟩ u).ownsRow base e size (.slice (some ⟨g, 0, none⟩) n cap) n (xs.set j u) := by
 obtain ⟨h1, h2 | ⟨g', cap', cur, hv, hb, hg, hle, hm, hs, ht⟩⟩ := h
 ·
  cases h2.1
 ·
  injection hv with hA _ hc
  injection hA with hA
  injection hA with hg' _
  subst hg'
  subst hc
  refine ⟨by rw [List.length_set]; exact h1, Or.inr ⟨g, cap, cur.setIfInBounds j u, rfl, hb, heap_setCell_same w g j cur e u hg, hle, hm, by simpa using hs, ?_⟩⟩
  rw [← ht]
  simp [List.take_set]
theorem flat_set {α : Type} (f : α → List Value) (K : Nat) (hf : ∀ x, (f x).length = K) (i : Nat) (u : Value) (hi : i < K) : ∀ (l : List α) (k : Nat) (y : α) (d : α), k < l.length → f y = (f (l.getD k d)).set i u → (l.flatMap f).set (k * K + i) u = (l.set k y).flatMap f := by
 intro l
 induction l with
 | nil => intro k y d hk; simp at hk
 | cons x l ih =>
  intro k y d hk hy
  cases k with
  | zero =>
   simp only [List.getD_cons_zero] at hy
   rw [Nat.zero_mul, Nat.zero_add, List.flatMap_cons, List.set_cons_zero, List.flatMap_cons, List.set_append_left _ _ (by rw [hf]; exact hi), hy]
  | succ k =>
   rw [List.flatMap_cons, List.set_cons_succ, List.flatMap_cons, ← ih k y d (by simpa using hk) (by simpa using hy), List.set_append_right _ _ (by rw [hf, Nat.succ_mul]; omega), hf]
   congr 2
   rw [Nat.succ_mul]; omega
structure Fr (w0 w : World) (l : List (Nat × TypeId × Array Value)) : Prop where
 bl : Below w0.heap.size w0 w
 at' : ∀ (i : Nat) (x : Nat × TypeId × Array Value), l[i]? = some x → w0.heap.size ≤ x.1 ∧ Blk w x.1 x.2.1 x.2.2
 ne : l.Pairwise (fun a b => a.1 < b.1)
theorem Fr.start (w : World) : Fr w w [] := ⟨Below.refl _ _, fun i x h => by simp at h, List.Pairwise.nil⟩
theorem Fr.b {w0 w : World} {l : List (Nat × TypeId × Array Value)} (h : Fr w0 w l) (i : Nat) {g : Nat} {T : TypeId} {cs : Array Value} (hi : l[i]? = some (g, T, cs)) : Blk w g T cs := (h.at' i _ hi).2
theorem Fr.ge {w0 w : World} {l : List (Nat × TypeId × Array Value)} (h : Fr w0 w l) (i : Nat) {g : Nat} {T : TypeId} {cs : Array Value} (hi : l[i]? = some (g, T, cs)) : w0.heap.size ≤ g := (h.at' i _ hi).1
theorem Fr.lt {w0 w : World} {l : List (Nat × TypeId × Array Value)} (h : Fr w0 w l) (i : Nat) {g : Nat} {T : TypeId} {cs : Array Value} (hi : l[i]? = some (g, T, cs)) : g < w.heap.size := (h.b i hi).lt
theorem Fr.al {w0 w : World} {l : List (Nat × TypeId × Array Value)} (h : Fr w0 w l) (T : TypeId) (cs : Array Value) : Fr w0 (w.alloc (.cells cs T)) (l ++ [(w.heap.size, T, cs)]) := by
 refine ⟨bA h.bl _, fun i x hi => ?_, ?_⟩
 ·
  by_cases hl : i < l.length
  ·
   rw [List.getElem?_append_left hl] at hi
   have := h.at' i x hi
   exact ⟨this.1, this.2.alloc _⟩
  ·
   rw [List.getElem?_append_right (by omega)] at hi
   have h0 : i - l.length = 0 := by
    rcases Nat.eq_zero_or_pos (i - l.length) with h1 | h1
    ·
     exact h1
    ·
     rw [List.getElem?_eq_none (by simp; omega)] at hi; cases hi
   rw [h0] at hi
   simp only [List.getElem?_cons_zero, Option.some.injEq] at hi
   subst hi
   exact ⟨h.bl.size, Blk.mk w T cs⟩
 ·
  refine List.pairwise_append.2 ⟨h.ne, List.pairwise_singleton _ _, fun a ha b hb => ?_⟩
  rw [List.mem_singleton] at hb
  subst hb
  obtain ⟨i, hi⟩ := List.getElem?_of_mem ha
  exact (h.at' i a hi).2.lt
theorem Fr.ca {w0 w w' : World} {l : List (Nat × TypeId × Array Value)} (h : Fr w0 w l) (hb : Below w.heap.size w w') : Fr w0 w' l :=
 ⟨bT h.bl hb, fun i x hi => ⟨(h.at' i x hi).1, (h.at' i x hi).2.t hb⟩, h.ne⟩
theorem Fr.dr {w0 w : World} {l : List (Nat × TypeId × Array Value)} (h : Fr w0 w l) : Fr w0 w.drew l :=
 ⟨bD h.bl 1, fun i x hi => ⟨(h.at' i x hi).1, (h.at' i x hi).2.drewN 1⟩, h.ne⟩
theorem Fr.drN {w0 w : World} {l : List (Nat × TypeId × Array Value)} (h : Fr w0 w l) (n : Nat) : Fr w0 (w.drewN n) l :=
 ⟨bD h.bl n, fun i x hi => ⟨(h.at' i x hi).1, (h.at' i x hi).2.drewN n⟩, h.ne⟩
theorem Fr.cut {w0 w : World} {l : List (Nat × TypeId × Array Value)} (h : Fr w0 w l) (k : Nat) : Fr w0 w (l.take k) :=
 ⟨h.bl, fun i x hi => h.at' i x (by
  rw [List.getElem?_take] at hi
  split at hi
  ·
   exact hi
  ·
   cases hi), h.ne.sublist (List.take_sublist k l)⟩
theorem Fr.st {w0 w : World} {l : List (Nat × TypeId × Array Value)} (h : Fr w0 w l) (i : Nat) {g : Nat} {T : TypeId} {cs : Array Value} (hi : l[i]? = some (g, T, cs)) (j : Nat) (v : Value) : Fr w0 (w.setCell ⟨g, j, none⟩ v) (l.set i (g, T, cs.setIfInBounds j v)) := by
 have hil : i < l.length := by
  rcases Nat.lt_or_ge i l.length with h1 | h1
  ·
   exact h1
  ·
   rw [List.getElem?_eq_none h1] at hi; cases hi
 have hgi : l[i] = (g, T, cs) := by rw [List.getElem?_eq_getElem hil] at hi; exact Option.some.inj hi
 refine ⟨bS h.bl (p := ⟨g, j, none⟩) (h.ge i hi) v, fun k x hk => ?_, ?_⟩
 ·
  rw [List.getElem?_set] at hk
  by_cases hik : i = k
  ·
   subst hik
   rw [if_pos rfl, if_pos hil] at hk
   injection hk with hk
   subst hk
   exact ⟨h.ge i hi, (h.b i hi).setJ j v⟩
  ·
   rw [if_neg hik] at hk
   have hx := h.at' k x hk
   refine ⟨hx.1, hx.2.setO ?_ j v⟩
   have hkl : k < l.length := by
    rcases Nat.lt_or_ge k l.length with h1 | h1
    ·
     exact h1
    ·
     rw [List.getElem?_eq_none h1] at hk; cases hk
   have hgk : l[k] = x := by rw [List.getElem?_eq_getElem hkl] at hk; exact Option.some.inj hk
   have hp := List.pairwise_iff_getElem.1 h.ne
   rcases Nat.lt_or_gt_of_ne hik with h1 | h1
   ·
    have := hp i k hil hkl h1
    rw [hgi, hgk] at this
    dsimp only at this
    omega
   ·
    have := hp k i hkl hil h1
    rw [hgi, hgk] at this
    dsimp only at this
    omega
 ·
  have e : (l.set i (g, T, cs.setIfInBounds j v)).map (·.1) = l.map (·.1) := by
   rw [List.map_set]
   apply List.ext_getElem
   ·
    simp
   ·
    intro n h1 h2
    rw [List.getElem_set]
    by_cases hn : i = n
    ·
     subst hn; rw [if_pos rfl, List.getElem_map, hgi]
    ·
     rw [if_neg hn]
  have hp : (l.map (·.1)).Pairwise (· < ·) := List.pairwise_map.2 h.ne
  rw [← e] at hp
  exact List.pairwise_map.1 hp
theorem Fr.upd {w0 w w' : World} {l : List (Nat × TypeId × Array Value)} (h : Fr w0 w l) (i : Nat) {g : Nat} {T : TypeId} {cs cs' : Array Value} (hi : l[i]? = some (g, T, cs)) (hg : w.grownBy w' (some g)) (hbl : Below w0.heap.size w0 w') (hk : Blk w' g T cs') : Fr w0 w' (l.set i (g, T, cs')) := by
 have hil : i < l.length := by
  rcases Nat.lt_or_ge i l.length with h1 | h1
  ·
   exact h1
  ·
   rw [List.getElem?_eq_none h1] at hi; cases hi
 have hgi : l[i] = (g, T, cs) := by rw [List.getElem?_eq_getElem hil] at hi; exact Option.some.inj hi
 refine ⟨hbl, fun k x hk' => ?_, ?_⟩
 ·
  rw [List.getElem?_set] at hk'
  by_cases hik : i = k
  ·
   subst hik
   rw [if_pos rfl, if_pos hil] at hk'
   injection hk' with hk'
   subst hk'
   exact ⟨h.ge i hi, hk⟩
  ·
   rw [if_neg hik] at hk'
   have hx := h.at' k x hk'
   have hkl : k < l.length := by
    rcases Nat.lt_or_ge k l.length with h1 | h1
    ·
     exact h1
    ·
     rw [List.getElem?_eq_none h1] at hk'; cases hk'
   have hgk : l[k] = x := by rw [List.getElem?_eq_getElem hkl] at hk'; exact Option.some.inj hk'
   have hp := List.pairwise_iff_getElem.1 h.ne
   refine ⟨hx.1, hx.2.grown hg ?_⟩
   intro he
   injection he with he
   rcases Nat.lt_or_gt_of_ne hik with h1 | h1
   ·
    have := hp i k hil hkl h1
    rw [hgi, hgk] at this
    dsimp only at this
    omega
   ·
    have := hp k i hkl hil h1
    rw [hgi, hgk] at this
    dsimp only at this
    omega
 ·
  have e : (l.set i (g, T, cs')).map (·.1) = l.map (·.1) := by
   rw [List.map_set]
   apply List.ext_getElem
   ·
    simp
   ·
    intro n h1 h2
    rw [List.getElem_set]
    by_cases hn : i = n
    ·
     subst hn; rw [if_pos rfl, List.getElem_map, hgi]
    ·
     rw [if_neg hn]
  have hp : (l.map (·.1)).Pairwise (· < ·) := List.pairwise_map.2 h.ne
  rw [← e] at hp
  exact List.pairwise_map.1 hp
theorem Blk.cv {w : World} {g : Nat} {T : TypeId} {cs : Array Value} (h : Blk w g T cs) (j : Nat) (v : Value) (hv : cs[j]? = some v) : w.cell? ⟨g, j, none⟩ = some v := (h.cell j).trans hv
theorem Blk.q5 {w : World} {g : Nat} {t : TypeId} {a0 a1 a2 a3 a4 : Value} (x : Blk w g t #[a0, a1, a2, a3, a4]) : w.cell? ⟨g, 0, none⟩ = some a0 ∧ w.cell? ⟨g, 1, none⟩ = some a1 ∧ w.cell? ⟨g, 2, none⟩ = some a2 ∧ w.cell? ⟨g, 3, none⟩ = some a3 ∧ w.cell? ⟨g, 4, none⟩ = some a4 :=
 ⟨x.cv 0 _ rfl, x.cv 1 _ rfl, x.cv 2 _ rfl, x.cv 3 _ rfl, x.cv 4 _ rfl⟩
theorem Blk.r5 {w : World} {g : Nat} {t : TypeId} {cs : Array Value} (x : Blk w g t cs) : w.frozen? ⟨g, 0, none⟩ = false ∧ w.frozen? ⟨g, 1, none⟩ = false ∧ w.frozen? ⟨g, 2, none⟩ = false ∧ w.frozen? ⟨g, 3, none⟩ = false ∧ w.frozen? ⟨g, 4, none⟩ = false :=
 ⟨x.free 0, x.free 1, x.free 2, x.free 3, x.free 4⟩
theorem Blk.q6 {w : World} {g : Nat} {t : TypeId} {a0 a1 a2 a3 a4 a5 : Value} (x : Blk w g t #[a0, a1, a2, a3, a4, a5]) : w.cell? ⟨g, 0, none⟩ = some a0 ∧ w.cell? ⟨g, 1, none⟩ = some a1 ∧ w.cell? ⟨g, 2, none⟩ = some a2 ∧ w.cell? ⟨g, 3, none⟩ = some a3 ∧ w.cell? ⟨g, 4, none⟩ = some a4 ∧ w.cell? ⟨g, 5, none⟩ = some a5 :=
 ⟨x.cv 0 _ rfl, x.cv 1 _ rfl, x.cv 2 _ rfl, x.cv 3 _ rfl, x.cv 4 _ rfl, x.cv 5 _ rfl⟩
theorem Blk.r6 {w : World} {g : Nat} {t : TypeId} {cs : Array Value} (x : Blk w g t cs) : w.frozen? ⟨g, 0, none⟩ = false ∧ w.frozen? ⟨g, 1, none⟩ = false ∧ w.frozen? ⟨g, 2, none⟩ = false ∧ w.frozen? ⟨g, 3, none⟩ = false ∧ w.frozen? ⟨g, 4, none⟩ = false ∧ w.frozen? ⟨g, 5, none⟩ = false :=
 ⟨x.free 0, x.free 1, x.free 2, x.free 3, x.free 4, x.free 5⟩
theorem Blk.q7 {w : World} {g : Nat} {t : TypeId} {a0 a1 a2 a3 a4 a5 a6 : Value} (x : Blk w g t #[a0, a1, a2, a3, a4, a5, a6]) : w.cell? ⟨g, 0, none⟩ = some a0 ∧ w.cell? ⟨g, 1, none⟩ = some a1 ∧ w.cell? ⟨g, 2, none⟩ = some a2 ∧ w.cell? ⟨g, 3, none⟩ = some a3 ∧ w.cell? ⟨g, 4, none⟩ = some a4 ∧ w.cell? ⟨g, 5, none⟩ = some a5 ∧ w.cell? ⟨g, 6, none⟩ = some a6 :=
 ⟨x.cv 0 _ rfl, x.cv 1 _ rfl, x.cv 2 _ rfl, x.cv 3 _ rfl, x.cv 4 _ rfl, x.cv 5 _ rfl, x.cv 6 _ rfl⟩
theorem Blk.r7 {w : World} {g : Nat} {t : TypeId} {cs : Array Value} (x : Blk w g t cs) : w.frozen? ⟨g, 0, none⟩ = false ∧ w.frozen? ⟨g, 1, none⟩ = false ∧ w.frozen? ⟨g, 2, none⟩ = false ∧ w.frozen? ⟨g, 3, none⟩ = false ∧ w.frozen? ⟨g, 4, none⟩ = false ∧ w.frozen? ⟨g, 5, none⟩ = false ∧ w.frozen? ⟨g, 6, none⟩ = false :=
 ⟨x.free 0, x.free 1, x.free 2, x.free 3, x.free 4, x.free 5, x.free 6⟩
theorem Blk.q9 {w : World} {g : Nat} {t : TypeId} {a0 a1 a2 a3 a4 a5 a6 a7 a8 : Value} (x : Blk w g t #[a0, a1, a2, a3, a4, a5, a6, a7, a8]) : w.cell? ⟨g, 0, none⟩ = some a0 ∧ w.cell? ⟨g, 1, none⟩ = some a1 ∧ w.cell? ⟨g, 2, none⟩ = some a2 ∧ w.cell? ⟨g, 3, none⟩ = some a3 ∧ w.cell? ⟨g, 4, none⟩ = some a4 ∧ w.cell? ⟨g, 5, none⟩ = some a5 ∧ w.cell? ⟨g, 6, none⟩ = some a6 ∧ w.cell? ⟨g, 7, none⟩ = some a7 ∧ w.cell? ⟨g, 8, none⟩ = some a8 :=
 ⟨x.cv 0 _ rfl, x.cv 1 _ rfl, x.cv 2 _ rfl, x.cv 3 _ rfl, x.cv 4 _ rfl, x.cv 5 _ rfl, x.cv 6 _ rfl, x.cv 7 _ rfl, x.cv 8 _ rfl⟩
theorem Blk.r9 {w : World} {g : Nat} {t : TypeId} {cs : Array Value} (x : Blk w g t cs) : w.frozen? ⟨g, 0, none⟩ = false ∧ w.frozen? ⟨g, 1, none⟩ = false ∧ w.frozen? ⟨g, 2, none⟩ = false ∧ w.frozen? ⟨g, 3, none⟩ = false ∧ w.frozen? ⟨g, 4, none⟩ = false ∧ w.frozen? ⟨g, 5, none⟩ = false ∧ w.frozen? ⟨g, 6, none⟩ = false ∧ w.frozen? ⟨g, 7, none⟩ = false ∧ w.frozen? ⟨g, 8, none⟩ = false :=
 ⟨x.free 0, x.free 1, x.free 2, x.free 3, x.free 4, x.free 5, x.free 6, x.free 7, x.free 8⟩
theorem Blk.q10 {w : World} {g : Nat} {t : TypeId} {a0 a1 a2 a3 a4 a5 a6 a7 a8 a9 : Value} (x : Blk w g t #[a0, a1, a2, a3, a4, a5, a6, a7, a8, a9]) : w.cell? ⟨g, 0, none⟩ = some a0 ∧ w.cell? ⟨g, 1, none⟩ = some a1 ∧ w.cell? ⟨g, 2, none⟩ = some a2 ∧ w.cell? ⟨g, 3, none⟩ = some a3 ∧ w.cell? ⟨g, 4, none⟩ = some a4 ∧ w.cell? ⟨g, 5, none⟩ = some a5 ∧ w.cell? ⟨g, 6, none⟩ = some a6 ∧ w.cell? ⟨g, 7, none⟩ = some a7 ∧ w.cell? ⟨g, 8, none⟩ = some a8 ∧ w.cell? ⟨g, 9, none⟩ = some a9 :=
 ⟨x.cv 0 _ rfl, x.cv 1 _ rfl, x.cv 2 _ rfl, x.cv 3 _ rfl, x.cv 4 _ rfl, x.cv 5 _ rfl, x.cv 6 _ rfl, x.cv 7 _ rfl, x.cv 8 _ rfl, x.cv 9 _ rfl⟩
theorem Blk.r10 {w : World} {g : Nat} {t : TypeId} {cs : Array Value} (x : Blk w g t cs) : w.frozen? ⟨g, 0, none⟩ = false ∧ w.frozen? ⟨g, 1, none⟩ = false ∧ w.frozen? ⟨g, 2, none⟩ = false ∧ w.frozen? ⟨g, 3, none⟩ = false ∧ w.frozen? ⟨g, 4, none⟩ = false ∧ w.frozen? ⟨g, 5, none⟩ = false ∧ w.frozen? ⟨g, 6, none⟩ = false ∧ w.frozen? ⟨g, 7, none⟩ = false ∧ w.frozen? ⟨g, 8, none⟩ = false ∧ w.frozen? ⟨g, 9, none⟩ = false :=
 ⟨x.free 0, x.free 1, x.free 2, x.free 3, x.free 4, x.free 5, x.free 6, x.free 7, x.free 8, x.free 9⟩
theorem bSg {w0 W : World} {g : Nat} (h : Below w0.heap.size w0 W) (hg : w0.heap.size ≤ g) (j : Nat) (v : Value) : Below w0.heap.size w0 (W.setCell ⟨g, j, none⟩ v) := bS h (p := ⟨g, j, none⟩) hg v
def sqz (a b : Int) : Int := if a = 0 then b else a
theorem sE9 {a b : Int} (h : a = 0) : sqz a b = b := if_pos h
theorem sN9 {a b : Int} (h : a ≠ 0) : sqz a b = a := if_neg h
theorem sZ9 {a b : Int} (h : sqz a b = 0) : a = 0 ∧ b = 0 := by
 unfold sqz at h
 by_cases h0 : a = 0
 ·
  rw [if_pos h0] at h; exact ⟨h0, h⟩
 ·
  rw [if_neg h0] at h; exact absurd h h0
def okE (b : Bool) (e : Int) : Int := if b = true then 0 else e
theorem al9 {w0 w w' : World} {l l' : List (Nat × TypeId × Array Value)} (h : Fr w0 w l) (hw : w = w' := by ((try simp only [World.size_alloc, World.size_setCell]); exact rfl)) (hl : l = l' := by ((try simp only [World.size_alloc, World.size_setCell]); exact rfl)) : Hid (Fr w0 w' l') := by
 subst hw
 subst hl
 exact h
theorem round_down (n d : Int) : ro9 n d 1 = n / d := by
 unfold ro9 nearB
 simp
theorem take_t (x r m : Int) (w : World) (hx : mrB x = true) (hr : rateB r = true) (hm : modeB m = true) :
  Calls prog 161 #[.int .i64 x, .int .i64 r, .int .i64 m] w fun e w' => e = .returned (.tuple #[.int .i64 (ro9 (x * r) 10000 m), .int .i64 0]) ∧ Below w.heap.size w w' := by
 have hx' := miz.1 hx
 have hr' := riz.1 hr
 have hb := mul_bd (A := 100000000000) (B := 10000) hx'.1 hx'.2 hr'.1 hr'.2 (by decide)
 have K1 := hid (part_t x r · hx hr)
 have K2 := hid (fcoins_t (x * r) m · (exB_iff.2 (by omega)) hm)
 generalize ro9 (x * r) 10000 m = rv at *
 generalize x * r = xr at *
 clear hx hr hx' hr' hb hm
 go_enter func161, ntmps161
 go_wp2_with fail
 refine (K1.out _).mono ?_
 rintro e w1 ⟨rfl, hb1⟩
 go_wp2_with fail
 refine (K2.out _).mono ?_
 rintro e w2 ⟨rfl, hb2⟩
 go_wp2_with fail
 go_ret2
 exact ⟨rfl, bT hb1 hb2⟩
def limI (lim cash : Int) : Int := max 0 cash * lim / 10000
def partI (need limit : Int) (back : Bool) : Int := if back = true then min need limit else max 0 (min need limit)
structure Od where
 id : Int
 pr : Int
 am : Int
 ra : Int
 to : Int
 tk : Int
 ar : Int
def od0 : Od := ⟨0, 0, 0, 0, 0, 0, 0⟩
def odC (z : Od) : List Value := [.int .i64 z.id, .int .i64 z.pr, .int .i64 z.am, .int .i64 z.ra, .int .i64 z.to, .int .i64 z.tk, .int .i64 z.ar]
theorem odC_len (z : Od) : (odC z).length = 7 := rfl
abbrev OdSl := Rlz odC 7 od0
structure OrOK (id pr am ra to : Int) : Prop where
 hid : 1 ≤ id ∧ id ≤ 999999
 hpr : 0 ≤ pr ∧ pr ≤ 999
 ham : 0 ≤ am ∧ am ≤ 100000000000
 hto : 0 ≤ to ∧ to ≤ 100000000000
 hra : 0 ≤ ra ∧ ra ≤ 10000
 hnz : ¬ (am = 0 ∧ ra = 0)
structure OdOK (z : Od) : Prop where
 o : OrOK z.id z.pr z.am z.ra z.to
 tk : 0 ≤ z.tk ∧ z.tk ≤ 100000000000
 ar : 0 ≤ z.ar ∧ z.ar ≤ 100000000000
def leftI (z : Od) : Int := if z.to = 0 then 100000000000 else max 0 (z.to - z.tk - z.ar)
def ordP (z : Od) (net : Int) : Int := max 0 net * z.ra / 10000
def ordE (z : Od) (net : Int) : Int := if z.am + ordP z net ≤ 100000000000 then 0 else 10
def ordV (z : Od) (net : Int) : Int := min (z.am + ordP z net) (leftI z)
theorem left_bd {z : Od} (h : OdOK z) : 0 ≤ leftI z ∧ leftI z ≤ 100000000000 := by
 have h1 := h.o.hto
 have h2 := h.tk
 have h3 := h.ar
 unfold leftI
 split <;> omega
theorem ordP_bd {z : Od} (h : OdOK z) {net : Int} (hn : -100000000000 ≤ net ∧ net ≤ 100000000000) : 0 ≤ max 0 net * z.ra ∧ max 0 net * z.ra ≤ 1000000000000000 ∧ 0 ≤ ordP z net ∧ ordP z net ≤ 100000000000 := by
 have h1 := h.o.hra
 have a1 : 0 ≤ max 0 net * z.ra := Int.mul_nonneg (by omega) h1.1
 have a2 : max 0 net * z.ra ≤ max 0 net * 10000 := Int.mul_le_mul_of_nonneg_left h1.2 (by omega)
 unfold ordP
 omega
theorem ordV_bd {z : Od} (h : OdOK z) {net : Int} (hn : -100000000000 ≤ net ∧ net ≤ 100000000000) (he : ordE z net = 0) : 0 ≤ ordV z net ∧ ordV z net ≤ 100000000000 := by
 have h1 := left_bd h
 have h2 := ordP_bd h hn
 have h3 := h.o.ham
 unfold ordV
 omega
theorem left_c (id pr am ra to tk ar : Int) (w : World) (h : OdOK ⟨id, pr, am, ra, to, tk, ar⟩) :
  Calls prog 204 #[.agg #[.int .i64 id, .int .i64 pr, .int .i64 am, .int .i64 ra, .int .i64 to, .int .i64 tk, .int .i64 ar]] w fun e w' => e = .returned (.int .i64 (leftI ⟨id, pr, am, ra, to, tk, ar⟩)) ∧ Below w.heap.size w w' := by
 have h1 := h.o.hto
 have h2 := h.tk
 have h3 := h.ar
 dsimp only at h1 h2 h3
 obtain ⟨r, hr⟩ : ∃ r, r = leftI ⟨id, pr, am, ra, to, tk, ar⟩ := ⟨_, rfl⟩
 rw [← hr]
 unfold leftI at hr
 dsimp only at hr
 obtain ⟨a1, a2⟩ := h1
 obtain ⟨b1, b2⟩ := h2
 obtain ⟨c1, c2⟩ := h3
 clear h
 by_cases h0 : to = 0
 ·
  subst h0
  rw [if_pos rfl] at hr
  subst hr
  go_enter func204, ntmps204
  go_wp2_with fail
  go_ret
  exact ⟨rfl, bz1 _ _⟩
 ·
  rw [if_neg h0] at hr
  have v0 : (to == 0) = false := by simpa using h0
  have HR := hid hr
  clear h0 hr
  go_enter func204, ntmps204
  go_wp2_with fail
  go_ret
  exact ⟨ret_int HR.out.symm, bz1 _ _⟩
theorem ordered_t (id pr am ra to tk ar net : Int) (w : World) (h : OdOK ⟨id, pr, am, ra, to, tk, ar⟩) (hn : mrB net = true) (he : ordE ⟨id, pr, am, ra, to, tk, ar⟩ net = 0) :
  Calls prog 193 #[.agg #[.int .i64 id, .int .i64 pr, .int .i64 am, .int .i64 ra, .int .i64 to, .int .i64 tk, .int .i64 ar], .int .i64 net] w fun e w' => e = .returned (.tuple #[.int .i64 (ordV ⟨id, pr, am, ra, to, tk, ar⟩ net), .int .i64 0]) ∧ Below w.heap.size w w' := by
 have hn' := miz.1 hn
 have hp := ordP_bd h hn'
 have hb0 := bz1 w (.cells #[.int .i64 id, .int .i64 pr, .int .i64 am, .int .i64 ra, .int .i64 to, .int .i64 tk, .int .i64 ar] 213)
 have z := Blk.mk w 213 #[.int .i64 id, .int .i64 pr, .int .i64 am, .int .i64 ra, .int .i64 to, .int .i64 tk, .int .i64 ar]
 have ham := h.o.ham
 have hra := h.o.hra
 dsimp only at ham hra
 have hle : am + ordP ⟨id, pr, am, ra, to, tk, ar⟩ net ≤ 100000000000 := by
  unfold ordE at he
  dsimp only at he
  split at he
  ·
   assumption
  ·
   cases he
 have K1 := hid (take_t (max 0 net) ra 1 · (mr_t (by omega)) (riz.2 hra) (by decide))
 rw [round_down, show max 0 net * ra / 10000 = ordP ⟨id, pr, am, ra, to, tk, ar⟩ net from rfl] at K1
 have K3 := hid (left_c id pr am ra to tk ar · h)
 have HV : Hid (ordV ⟨id, pr, am, ra, to, tk, ar⟩ net = min (am + ordP ⟨id, pr, am, ra, to, tk, ar⟩ net) (leftI ⟨id, pr, am, ra, to, tk, ar⟩)) := rfl
 generalize ordV ⟨id, pr, am, ra, to, tk, ar⟩ net = ov at *
 generalize ordP ⟨id, pr, am, ra, to, tk, ar⟩ net = pv at *
 generalize leftI ⟨id, pr, am, ra, to, tk, ar⟩ = lv at *
 obtain ⟨_, _, p0, p1⟩ := hp
 have K2 := hid (add_t am pv · (mr_t (by omega)) (mr_t (by omega)) (mr_t (by omega)))
 obtain ⟨n0, n1⟩ := hn'
 clear h he hn ham hra
 go_enter func193, ntmps193
 go_wp2_with fail
 refine (K1.out _).mono ?_
 rintro e w1 ⟨rfl, hb1⟩
 have z1 := z.t hb1
 have q2 := z1.cell 2
 go_wp2_with fail
 refine (K2.out _).mono ?_
 rintro e w2 ⟨rfl, hb2⟩
 have z2 := z1.t hb2
 obtain ⟨q0, q1, q2', q3, q4, q5, q6⟩ := (⟨z2.cell 0, z2.cell 1, z2.cell 2, z2.cell 3, z2.cell 4, z2.cell 5, z2.cell 6⟩ : _ ∧ _ ∧ _ ∧ _ ∧ _ ∧ _ ∧ _)
 clear q2
 go_wp2_with fail
 refine (K3.out _).mono ?_
 rintro e w3 ⟨rfl, hb3⟩
 go_wp2_with fail
 go_ret2
 exact ⟨ret2_int HV.out.symm rfl, bT (bT (bT hb0 hb1) hb2) hb3⟩
theorem ordered_e (id pr am ra to tk ar net : Int) (w : World) (h : OdOK ⟨id, pr, am, ra, to, tk, ar⟩) (hn : mrB net = true) (he : ordE ⟨id, pr, am, ra, to, tk, ar⟩ net ≠ 0) :
  Calls prog 193 #[.agg #[.int .i64 id, .int .i64 pr, .int .i64 am, .int .i64 ra, .int .i64 to, .int .i64 tk, .int .i64 ar], .int .i64 net] w fun e w' => e = .returned (.tuple #[.int .i64 0, .int .i64 10]) ∧ Below w.heap.size w w' := by
 have hn' := miz.1 hn
 have hp := ordP_bd h hn'
 have hb0 := bz1 w (.cells #[.int .i64 id, .int .i64 pr, .int .i64 am, .int .i64 ra, .int .i64 to, .int .i64 tk, .int .i64 ar] 213)
 have z := Blk.mk w 213 #[.int .i64 id, .int .i64 pr, .int .i64 am, .int .i64 ra, .int .i64 to, .int .i64 tk, .int .i64 ar]
 have ham := h.o.ham
 have hra := h.o.hra
 dsimp only at ham hra
 have hle : ¬ am + ordP ⟨id, pr, am, ra, to, tk, ar⟩ net ≤ 100000000000 := by
  intro hc
  exact he (if_pos hc)
 have K1 := hid (take_t (max 0 net) ra 1 · (mr_t (by omega)) (riz.2 hra) (by decide))
 rw [round_down, show max 0 net * ra / 10000 = ordP ⟨id, pr, am, ra, to, tk, ar⟩ net from rfl] at K1
 generalize ordP ⟨id, pr, am, ra, to, tk, ar⟩ net = pv at *
 obtain ⟨_, _, p0, p1⟩ := hp
 have K2 := hid (add_f am pv · (fun hc => by have := miz.1 hc.2.2; omega))
 obtain ⟨n0, n1⟩ := hn'
 clear h he hn ham hra hle
 go_enter func193, ntmps193
 go_wp2_with fail
 refine (K1.out _).mono ?_
 rintro e w1 ⟨rfl, hb1⟩
 have z1 := z.t hb1
 have q2 := z1.cell 2
 go_wp2_with fail
 refine (K2.out _).mono ?_
 rintro e w2 ⟨rfl, hb2⟩
 go_wp2_with fail
 go_ret2
 exact ⟨rfl, bT (bT hb0 hb1) hb2⟩
structure Tk where
 o : Int
 br : Int
 or : Int
 du : Int
 ta : Int
 ca : Int
def tk0 : Tk := ⟨0, 0, 0, 0, 0, 0⟩
def tkC (z : Tk) : List Value := [.int .i64 z.o, .int .i64 z.br, .int .i64 z.or, .int .i64 z.du, .int .i64 z.ta, .int .i64 z.ca]
theorem tkC_len (z : Tk) : (tkC z).length = 6 := rfl
abbrev TkSl := Rlz tkC 6 tk0
def oneD (z : Od) (net : Int) : Int := ordV z net + z.ar
def oneE (z : Od) (net : Int) : Int := if ordE z net ≠ 0 then 10 else if oneD z net ≤ 100000000000 then 0 else 10
def oneT (z : Od) (net free : Int) : Int := max 0 (min (oneD z net) free)
def oneV (z : Od) (net free : Int) : Tk := ⟨z.id, z.ar, ordV z net, oneD z net, oneT z net free, oneD z net - oneT z net free⟩
def leftA (l : List Od) (net prot : Int) : Nat → Int
 | 0 => net
 | k + 1 => leftA l net prot k - oneT (l.getD k od0) net (max 0 (leftA l net prot k - prot))
def tkA (l : List Od) (net prot : Int) (k : Nat) : Tk := oneV (l.getD k od0) net (max 0 (leftA l net prot k - prot))
def tkL (l : List Od) (net prot : Int) (n : Nat) : List Tk := (List.range n).map (tkA l net prot)
theorem tkL_len (l : List Od) (net prot : Int) (n : Nat) : (tkL l net prot n).length = n := by simp [tkL]
theorem tkL_get (l : List Od) (net prot : Int) (n k : Nat) (h : k < n) : (tkL l net prot n).getD k tk0 = tkA l net prot k := by simp [tkL, List.getD, h]
theorem tkL_snoc (l : List Od) (net prot : Int) (k : Nat) : tkL l net prot (k + 1) = tkL l net prot k ++ [tkA l net prot k] := by simp [tkL, List.range_succ]
theorem oneE_zero {z : Od} {net : Int} (h : oneE z net = 0) : ordE z net = 0 ∧ oneD z net ≤ 100000000000 := by
 unfold oneE at h
 by_cases h1 : ordE z net = 0
 ·
  rw [if_neg (by simpa using h1)] at h
  by_cases h2 : oneD z net ≤ 100000000000
  ·
   exact ⟨h1, h2⟩
  ·
   rw [if_neg h2] at h; cases h
 ·
  rw [if_pos h1] at h; cases h
theorem oneD_bd {z : Od} (h : OdOK z) {net : Int} (hn : -100000000000 ≤ net ∧ net ≤ 100000000000) (he : oneE z net = 0) : 0 ≤ oneD z net ∧ oneD z net ≤ 100000000000 := by
 obtain ⟨h1, h2⟩ := oneE_zero he
 have h3 := ordV_bd h hn h1
 have h4 := h.ar
 refine ⟨?_, h2⟩
 unfold oneD
 omega
theorem left_step (a prot du : Int) (h0 : 0 ≤ prot) : (min a prot ≤ a - max 0 (min du (max 0 (a - prot)))) ∧ a - max 0 (min du (max 0 (a - prot))) ≤ a := by omega
theorem leftA_bd (l : List Od) (net prot : Int) (h0 : 0 ≤ prot) : ∀ k, min net prot ≤ leftA l net prot k ∧ leftA l net prot k ≤ net := by
 intro k
 induction k with
 | zero => rw [leftA]; omega
 | succ k ih =>
  have h := left_step (leftA l net prot k) prot (oneD (l.getD k od0) net) h0
  rw [leftA]
  unfold oneT
  omega
def sumT (L : List Tk) : Nat → Int
 | 0 => 0
 | k + 1 => sumT L k + (L.getD k tk0).ta
section
variable {w : World} {g : Nat} {t : TypeId} {a b c d e f x : Value}
theorem Blk.a6f (h : Blk w g t #[a, b, c, d, e, f]) : (w.cell? ⟨g, 0, none⟩ = some a ∧ w.cell? ⟨g, 1, none⟩ = some b ∧ w.cell? ⟨g, 2, none⟩ = some c ∧ w.cell? ⟨g, 3, none⟩ = some d ∧ w.cell? ⟨g, 4, none⟩ = some e ∧ w.cell? ⟨g, 5, none⟩ = some f) ∧
  w.frozen? ⟨g, 0, none⟩ = false ∧ w.frozen? ⟨g, 1, none⟩ = false ∧ w.frozen? ⟨g, 2, none⟩ = false ∧ w.frozen? ⟨g, 3, none⟩ = false ∧ w.frozen? ⟨g, 4, none⟩ = false ∧ w.frozen? ⟨g, 5, none⟩ = false :=
 ⟨⟨h.cell 0, h.cell 1, h.cell 2, h.cell 3, h.cell 4, h.cell 5⟩, h.free 0, h.free 1, h.free 2, h.free 3, h.free 4, h.free 5⟩
theorem Blk.a7 (h : Blk w g t #[a, b, c, d, e, f, x]) : w.cell? ⟨g, 0, none⟩ = some a ∧ w.cell? ⟨g, 1, none⟩ = some b ∧ w.cell? ⟨g, 2, none⟩ = some c ∧ w.cell? ⟨g, 3, none⟩ = some d ∧ w.cell? ⟨g, 4, none⟩ = some e ∧ w.cell? ⟨g, 5, none⟩ = some f ∧ w.cell? ⟨g, 6, none⟩ = some x :=
 ⟨h.cell 0, h.cell 1, h.cell 2, h.cell 3, h.cell 4, h.cell 5, h.cell 6⟩
end
theorem one_e (id pr am ra to tk ar net free : Int) (w : World) (h : OdOK ⟨id, pr, am, ra, to, tk, ar⟩) (hn : mrB net = true) (he : oneE ⟨id, pr, am, ra, to, tk, ar⟩ net ≠ 0) :
  Calls prog 170 #[.int .i64 net, .int .i64 free, .agg #[.int .i64 id, .int .i64 pr, .int .i64 am, .int .i64 ra, .int .i64 to, .int .i64 tk, .int .i64 ar]] w fun e w' => e = .returned (.tuple #[.agg #[.int .i64 0, .int .i64 0, .int .i64 0, .int .i64 0, .int .i64 0, .int .i64 0], .int .i64 10]) ∧ Below w.heap.size w w' := by
 have har := h.ar
 have hn' := miz.1 hn
 dsimp only at har
 have z := (Blk.mk w 213 #[.int .i64 id, .int .i64 pr, .int .i64 am, .int .i64 ra, .int .i64 to, .int .i64 tk, .int .i64 ar]).alloc (.cells #[.int .i64 0, .int .i64 0, .int .i64 0, .int .i64 0, .int .i64 0, .int .i64 0] 116)
 have y := Blk.mk (w.alloc (.cells #[.int .i64 id, .int .i64 pr, .int .i64 am, .int .i64 ra, .int .i64 to, .int .i64 tk, .int .i64 ar] 213)) 116 #[.int .i64 0, .int .i64 0, .int .i64 0, .int .i64 0, .int .i64 0, .int .i64 0]
 rw [World.size_alloc] at y
 have hb0 := bA (bz1 w (.cells #[.int .i64 id, .int .i64 pr, .int .i64 am, .int .i64 ra, .int .i64 to, .int .i64 tk, .int .i64 ar] 213)) (.cells #[.int .i64 0, .int .i64 0, .int .i64 0, .int .i64 0, .int .i64 0, .int .i64 0] 116)
 have hb1 := bA hb0 (.cells #[.int .i64 ar] 2)
 have z1 := z.alloc (.cells #[.int .i64 ar] 2)
 have y1 := y.alloc (.cells #[.int .i64 ar] 2)
 have hma : mrB ar = true := mr_t (by omega)
 by_cases h1 : ordE ⟨id, pr, am, ra, to, tk, ar⟩ net = 0
 case neg =>
  have K := hid (ordered_e id pr am ra to tk ar net · h hn h1)
  obtain ⟨p0, p1, p2, p3, p4, p5, p6⟩ := z1.a7
  clear h he hn h1 har hn'
  go_enter func170, ntmps170
  go_wp2_with fail
  refine (r1z _ _ _ ar _ (by simp [ca9])).mono ?_
  rintro e w1 ⟨rfl, rfl⟩
  go_wp2_with fail
  refine (K.out _).mono ?_
  rintro e w2 ⟨rfl, hb2⟩
  have y2 := y1.t hb2
  obtain ⟨⟨q0, q1, q2, q3, q4, q5⟩, f0, f1, f2, f3, f4, f5⟩ := y2.a6f
  go_wp2_with fail
  refine bodyPost_ret (v := .tuple #[.agg #[.int .i64 0, .int .i64 0, .int .i64 0, .int .i64 0, .int .i64 0, .int .i64 0], .int .i64 10]) (by simp [results, results170, go_sem, q0, q1, q2, q3, q4, q5]) rfl ⟨rfl, ?_⟩
  have hb3 := bT hb1 hb2
  exact bS (bS (bS (bS (bS (bS hb3 (Nat.le_succ _) _) (Nat.le_succ _) _) (Nat.le_succ _) _) (Nat.le_succ _) _) (Nat.le_succ _) _) (Nat.le_succ _) _
 have hod := ordV_bd h hn' h1
 have hd : ¬ oneD ⟨id, pr, am, ra, to, tk, ar⟩ net ≤ 100000000000 := fun hc => he (by unfold oneE; rw [if_neg (by simpa using h1), if_pos hc])
 have hd' : oneD ⟨id, pr, am, ra, to, tk, ar⟩ net = ordV ⟨id, pr, am, ra, to, tk, ar⟩ net + ar := rfl
 have K := hid (ordered_t id pr am ra to tk ar net · h hn h1)
 generalize oneD ⟨id, pr, am, ra, to, tk, ar⟩ net = od at *
 generalize ordV ⟨id, pr, am, ra, to, tk, ar⟩ net = ov at *
 have K2 := hid (add_f ov ar · (fun hc => by have := miz.1 hc.2.2; omega))
 obtain ⟨o0, o1⟩ := hod
 obtain ⟨p0, p1, p2, p3, p4, p5, p6⟩ := z1.a7
 clear h he hn h1 har hn' hd hd'
 go_enter func170, ntmps170
 go_wp2_with fail
 refine (r1z _ _ _ ar _ (by simp [ca9])).mono ?_
 rintro e w1 ⟨rfl, rfl⟩
 go_wp2_with fail
 refine (K.out _).mono ?_
 rintro e w2 ⟨rfl, hb2⟩
 have z2 := z1.t hb2
 have y2 := y1.t hb2
 have q6 := z2.cell 6
 go_wp2_with fail
 refine (K2.out _).mono ?_
 rintro e w3 ⟨rfl, hb3⟩
 have y3 := y2.t hb3
 obtain ⟨⟨q0, q1, q2, q3, q4, q5⟩, f0, f1, f2, f3, f4, f5⟩ := y3.a6f
 clear q6
 go_wp2_with fail
 refine bodyPost_ret (v := .tuple #[.agg #[.int .i64 0, .int .i64 0, .int .i64 0, .int .i64 0, .int .i64 0, .int .i64 0], .int .i64 10]) (by simp [results, results170, go_sem, q0, q1, q2, q3, q4, q5]) rfl ⟨rfl, ?_⟩
 have hb4 := bT (bT hb1 hb2) hb3
 exact bS (bS (bS (bS (bS (bS hb4 (Nat.le_succ _) _) (Nat.le_succ _) _) (Nat.le_succ _) _) (Nat.le_succ _) _) (Nat.le_succ _) _) (Nat.le_succ _) _
theorem one_t (id pr am ra to tk ar net free : Int) (w : World) (h : OdOK ⟨id, pr, am, ra, to, tk, ar⟩) (hn : mrB net = true) (hf : 0 ≤ free ∧ free ≤ 1000000000000) (he : oneE ⟨id, pr, am, ra, to, tk, ar⟩ net = 0) (z5 : Tk) (hz5 : Hid (z5 = oneV ⟨id, pr, am, ra, to, tk, ar⟩ net free)) :
  Calls prog 170 #[.int .i64 net, .int .i64 free, .agg #[.int .i64 id, .int .i64 pr, .int .i64 am, .int .i64 ra, .int .i64 to, .int .i64 tk, .int .i64 ar]] w fun e w' => e = .returned (.tuple #[.agg #[.int .i64 z5.o, .int .i64 z5.br, .int .i64 z5.or, .int .i64 z5.du, .int .i64 z5.ta, .int .i64 z5.ca], .int .i64 0]) ∧ Below w.heap.size w w' := by
 have har := h.ar
 have hn' := miz.1 hn
 dsimp only at har
 have z := (Blk.mk w 213 #[.int .i64 id, .int .i64 pr, .int .i64 am, .int .i64 ra, .int .i64 to, .int .i64 tk, .int .i64 ar]).alloc (.cells #[.int .i64 0, .int .i64 0, .int .i64 0, .int .i64 0, .int .i64 0, .int .i64 0] 116)
 have y := Blk.mk (w.alloc (.cells #[.int .i64 id, .int .i64 pr, .int .i64 am, .int .i64 ra, .int .i64 to, .int .i64 tk, .int .i64 ar] 213)) 116 #[.int .i64 0, .int .i64 0, .int .i64 0, .int .i64 0, .int .i64 0, .int .i64 0]
 rw [World.size_alloc] at y
 have hb0 := bA (bz1 w (.cells #[.int .i64 id, .int .i64 pr, .int .i64 am, .int .i64 ra, .int .i64 to, .int .i64 tk, .int .i64 ar] 213)) (.cells #[.int .i64 0, .int .i64 0, .int .i64 0, .int .i64 0, .int .i64 0, .int .i64 0] 116)
 have hb1 := bA hb0 (.cells #[.int .i64 ar] 2)
 have z1 := z.alloc (.cells #[.int .i64 ar] 2)
 have y1 := y.alloc (.cells #[.int .i64 ar] 2)
 have hma : mrB ar = true := mr_t (by omega)
 obtain ⟨h1, hd⟩ := oneE_zero he
 have hod := ordV_bd h hn' h1
 have hd' : oneD ⟨id, pr, am, ra, to, tk, ar⟩ net = ordV ⟨id, pr, am, ra, to, tk, ar⟩ net + ar := rfl
 have K := hid (ordered_t id pr am ra to tk ar net · h hn h1)
 have HZ : Hid (z5 = ⟨id, ar, ordV ⟨id, pr, am, ra, to, tk, ar⟩ net, oneD ⟨id, pr, am, ra, to, tk, ar⟩ net, max 0 (min (oneD ⟨id, pr, am, ra, to, tk, ar⟩ net) free), oneD ⟨id, pr, am, ra, to, tk, ar⟩ net - max 0 (min (oneD ⟨id, pr, am, ra, to, tk, ar⟩ net) free)⟩) := hz5.out
 generalize oneD ⟨id, pr, am, ra, to, tk, ar⟩ net = od at *
 generalize ordV ⟨id, pr, am, ra, to, tk, ar⟩ net = ov at *
 subst hd'
 have K2 := hid (add_t ov ar · (mr_t (by omega)) (mr_t (by omega)) (mr_t (by omega)))
 obtain ⟨o0, o1⟩ := hod
 obtain ⟨r0, r1⟩ := har
 obtain ⟨g0, g1⟩ := hf
 obtain ⟨tv, htv⟩ : ∃ tv, max 0 (min (ov + ar) free) = tv := ⟨_, rfl⟩
 rw [htv] at HZ
 have tv0 : 0 ≤ tv := by omega
 have tv1 : tv ≤ 1000000000000 := by omega
 obtain ⟨p0, p1, p2, p3, p4, p5, p6⟩ := z1.a7
 clear h he hn h1 hn' hd hz5
 go_enter func170, ntmps170
 go_wp2_with fail
 refine (r1z _ _ _ ar _ (by simp [ca9])).mono ?_
 rintro e w1 ⟨rfl, rfl⟩
 go_wp2_with fail
 refine (K.out _).mono ?_
 rintro e w2 ⟨rfl, hb2⟩
 have z2 := z1.t hb2
 have y2 := y1.t hb2
 have q6 := z2.cell 6
 go_wp2_with fail
 refine (K2.out _).mono ?_
 rintro e w3 ⟨rfl, hb3⟩
 have y3 := y2.t hb3
 have z3 := z2.t hb3
 clear q6 p0 p1 p2 p3 p4 p5 p6
 obtain ⟨⟨q0, q1, q2, q3, q4, q5⟩, f0, f1, f2, f3, f4, f5⟩ := y3.a6f
 have s0 := z3.cell 0
 have s6 := z3.cell 6
 go_wp2_with fail
 refine bodyPost_ret (v := .tuple #[.agg #[.int .i64 id, .int .i64 ar, .int .i64 ov, .int .i64 (ov + ar), .int .i64 tv, .int .i64 (ov + ar - tv)], .int .i64 0]) (by simp [results, results170, go_sem, q0, q1, q2, q3, q4, q5]) rfl ⟨by rw [HZ.out], ?_⟩
 have hb4 := bT (bT hb1 hb2) hb3
 exact bS (bS (bS (bS (bS (bS hb4 (Nat.le_succ _) _) (Nat.le_succ _) _) (Nat.le_succ _) _) (Nat.le_succ _) _) (Nat.le_succ _) _) (Nat.le_succ _) _
structure El where
 k : ByteArray
 a : Int
 u : Int
def el0 : El := ⟨⟨#[]⟩, 0, 0⟩
def elC (z : El) : List Value := [.string z.k, .int .i64 z.a, .int .i64 z.u]
theorem elC_len (z : El) : (elC z).length = 3 := rfl
abbrev ElSl := Rlz elC 3 el0
def elE (a u : Int) : Int :=
 if mrB a = false then 10 else if u < 0 ∨ 100000 < u then 1 else if mrB (ro9 (a * u) 100 4) = true then 0 else 10
def elV (a u : Int) : Int := if elE a u = 0 then ro9 (a * u) 100 4 else 0
theorem mul_bde {x r A B : Int} (h1 : -A ≤ x) (h2 : x ≤ A) (h3 : 0 ≤ r) (h4 : r ≤ B) (hA : 0 ≤ A) : -(A * B) ≤ x * r ∧ x * r ≤ A * B := by
 have e1 : x * r ≤ A * r := Int.mul_le_mul_of_nonneg_right h2 h3
 have e2 : A * r ≤ A * B := Int.mul_le_mul_of_nonneg_left h4 hA
 have e3 : -A * r ≤ x * r := Int.mul_le_mul_of_nonneg_right h1 h3
 rw [Int.neg_mul] at e3
 omega
theorem mulu_bd {a u : Int} (h : mrB a = true) (h0 : 0 ≤ u) (h1 : u ≤ 100000) : -10000000000000000 ≤ a * u ∧ a * u ≤ 10000000000000000 := by
 have := miz.1 h
 exact mul_bde (A := 100000000000) (B := 100000) this.1 this.2 h0 h1 (by decide)
theorem evalue_c (k : ByteArray) (a u : Int) (w : World) (ev ee : Int) (hv : Hid (ev = elV a u)) (he : Hid (ee = elE a u)) :
  Calls prog 122 #[.agg #[.string k, .int .i64 a, .int .i64 u]] w fun e w' => e = .returned (.tuple #[.int .i64 ev, .int .i64 ee]) ∧ Below w.heap.size w w' := by
 have hb0 := bz1 w (.cells #[.string k, .int .i64 a, .int .i64 u] 98)
 have z := Blk.mk w 98 #[.string k, .int .i64 a, .int .i64 u]
 have hb1 := bA hb0 (.cells #[.int .i64 a] 2)
 have z1 := z.alloc (.cells #[.int .i64 a] 2)
 by_cases h1 : mrB a = true
 case neg =>
  have h1' : mrB a = false := by simpa using h1
  have e1 : ee = 10 := by rw [he.out]; unfold elE; rw [if_pos h1']
  have e2 : ev = 0 := by rw [hv.out]; unfold elV; rw [if_neg]; unfold elE; rw [if_pos h1']; decide
  subst e1; subst e2
  clear h1 he hv
  go_enter func122, ntmps122
  go_wp2_with fail
  refine (r1z _ _ _ a _ (by simp [ca9])).mono ?_
  rintro e w1 ⟨rfl, rfl⟩
  go_wp2_with fail
  go_ret2
  exact ⟨rfl, hb1⟩
 have q1 := z1.cell 1
 have q2 := z1.cell 2
 by_cases h2 : u < 0
 ·
  have e1 : ee = 1 := by rw [he.out]; unfold elE; rw [if_neg (by simp [h1]), if_pos (Or.inl h2)]
  have e2 : ev = 0 := by rw [hv.out]; unfold elV; rw [if_neg]; unfold elE; rw [if_neg (by simp [h1]), if_pos (Or.inl h2)]; decide
  have v : decide (u < 0) = true := by simpa using h2
  subst e1; subst e2
  clear he hv h2
  go_enter func122, ntmps122
  go_wp2_with fail
  refine (r1z _ _ _ a _ (by simp [ca9])).mono ?_
  rintro e w1 ⟨rfl, rfl⟩
  go_wp2_with fail
  go_ret2
  exact ⟨rfl, hb1⟩
 have v2 : decide (u < 0) = false := by simpa using h2
 by_cases h3 : 100000 < u
 ·
  have e1 : ee = 1 := by rw [he.out]; unfold elE; rw [if_neg (by simp [h1]), if_pos (Or.inr h3)]
  have e2 : ev = 0 := by rw [hv.out]; unfold elV; rw [if_neg]; unfold elE; rw [if_neg (by simp [h1]), if_pos (Or.inr h3)]; decide
  have v : decide (100000 < u) = true := by simpa using h3
  subst e1; subst e2
  clear he hv h2 h3
  go_enter func122, ntmps122
  go_wp2_with fail
  refine (r1z _ _ _ a _ (by simp [ca9])).mono ?_
  rintro e w1 ⟨rfl, rfl⟩
  go_wp2_with fail
  go_ret2
  exact ⟨rfl, hb1⟩
 have v3 : decide (100000 < u) = false := by simpa using h3
 have hE : elE a u = if mrB (ro9 (a * u) 100 4) = true then 0 else 10 := by unfold elE; rw [if_neg (by simp [h1]), if_neg (by omega)]
 have hm := mulu_bd h1 (show 0 ≤ u by omega) (show u ≤ 100000 by omega)
 have K := hid (round_c (a * u) 100 4 · (by omega) (by omega) (by decide) (by decide) (by decide))
 have hrb := round_bd (a * u) 100 4 (by decide) 10000000000000000 (by decide) hm.1 hm.2
 have hV : elV a u = if mrB (ro9 (a * u) 100 4) = true then ro9 (a * u) 100 4 else 0 := by
  unfold elV; rw [hE]; by_cases h : mrB (ro9 (a * u) 100 4) = true
  ·
   rw [if_pos h, if_pos h, if_pos rfl]
  ·
   rw [if_neg h, if_neg h, if_neg (by decide)]
 have hw : IntKind.i64.wrap (a * u) = a * u := by rw [IntKind.wrap_i64]; omega
 generalize ro9 (a * u) 100 4 = rr at *
 by_cases h4 : mrB rr = true
 ·
  have e1 : ee = 0 := by rw [he.out, hE, if_pos h4]
  have e2 : ev = rr := by rw [hv.out, hV, if_pos h4]
  subst e1; subst e2
  clear he hv h2 h3 hE hV hm hrb
  go_enter func122, ntmps122
  go_wp2_with fail
  refine (r1z _ _ _ a _ (by simp [ca9])).mono ?_
  rintro e w1 ⟨rfl, rfl⟩
  go_wp2_with fail
  refine (K.out _).mono ?_
  rintro e w2 ⟨rfl, hb2⟩
  have hb3 := bA (bT hb1 hb2) (.cells #[.int .i64 ev] 2)
  go_wp2_with fail
  refine (r1z _ _ _ ev _ (by simp [ca9])).mono ?_
  rintro e w3 ⟨rfl, rfl⟩
  go_wp2_with fail
  go_ret2
  exact ⟨rfl, hb3⟩
 ·
  have h4' : mrB rr = false := by simpa using h4
  have e1 : ee = 10 := by rw [he.out, hE, if_neg h4]
  have e2 : ev = 0 := by rw [hv.out, hV, if_neg h4]
  subst e1; subst e2
  clear he hv h2 h3 hE hV hm hrb h4
  go_enter func122, ntmps122
  go_wp2_with fail
  refine (r1z _ _ _ a _ (by simp [ca9])).mono ?_
  rintro e w1 ⟨rfl, rfl⟩
  go_wp2_with fail
  refine (K.out _).mono ?_
  rintro e w2 ⟨rfl, hb2⟩
  have hb3 := bA (bT hb1 hb2) (.cells #[.int .i64 rr] 2)
  go_wp2_with fail
  refine (r1z _ _ _ rr _ (by simp [ca9])).mono ?_
  rintro e w3 ⟨rfl, rfl⟩
  go_wp2_with fail
  go_ret2
  exact ⟨rfl, hb3⟩
theorem eof_c (k : ByteArray) (a : Int) (w : World) :
  Calls prog 35 #[.string k, .int .i64 a] w fun e w' => e = .returned (.agg #[.string k, .int .i64 a, .int .i64 100]) ∧ Below w.heap.size w w' := by
 have hb0 := bz1 w (.cells #[.string ⟨#[]⟩, .int .i64 0, .int .i64 0] 98)
 go_enter func35, ntmps35
 go_wp2_with fail
 have q := Blk.mk w 98 #[.string k, .int .i64 a, .int .i64 100]
 have q0 := q.cell 0
 have q1 := q.cell 1
 have q2 := q.cell 2
 refine bodyPost_ret (v := .agg #[.string k, .int .i64 a, .int .i64 100]) (by simp [results, results35, go_sem, q0, q1, q2]) rfl ⟨rfl, ?_⟩
 exact bz1 w _
theorem str_neq {a b : ByteArray} (h : a ≠ b) : (a.toList == b.toList) = false := by
 rw [beq_eq_false_iff_ne]
 intro e
 rw [ByteArray.toList_eq, ByteArray.toList_eq] at e
 apply h
 cases a; cases b
 simp at e
 rw [e]
def OwnEl (w : World) (base : Nat) (v : Value) (n : Nat) (l : List El) : Prop := n = l.length ∧ w.ownsRow base 98 3 v n (l.flatMap elC)
theorem info_el : (prog.info? 98).map (fun i => (i.zero, i.size, i.bytes)) = some (some (.agg #[.string ⟨#[]⟩, .int .i64 0, .int .i64 0]), 3, 32) := by kernel_rfl
theorem OwnEl.sl {w : World} {base : Nat} {v : Value} {n : Nat} {l : List El} (h : OwnEl w base v n l) : ∃ A c, v = .slice A n c ∧ ElSl w A n l := by
 obtain ⟨A, c, rfl, _, hs⟩ := own_sl elC 3 el0 elC_len h.2 h.1 (by decide)
 exact ⟨A, c, rfl, hs⟩
theorem OwnEl.below {w w' : World} {base : Nat} {v : Value} {n : Nat} {l : List El} (h : OwnEl w base v n l) (hb : Below w.heap.size w w') : OwnEl w' base v n l := ⟨h.1, oB9 h.2 hb⟩
def chT (kd : ByteArray) (am : Int) (L : List El) : Nat → List El × Bool
 | 0 => ([], decide (am = 0))
 | k + 1 => if (L.getD k el0).k ≠ kd then ((chT kd am L k).1 ++ [L.getD k el0], (chT kd am L k).2) else if (chT kd am L k).2 = false then ((chT kd am L k).1 ++ [⟨kd, am, 100⟩], true) else chT kd am L k
def chL (kd : ByteArray) (am : Int) (L : List El) (n : Nat) : List El := if (chT kd am L n).2 = false then (chT kd am L n).1 ++ [⟨kd, am, 100⟩] else (chT kd am L n).1
theorem chT_len (kd : ByteArray) (am : Int) (L : List El) (k : Nat) : (chT kd am L k).1.length ≤ k := by
 induction k with
 | zero => simp [chT]
 | succ k ih =>
  rw [chT]
  split
  ·
   simp; omega
  ·
   split
   ·
    simp; omega
   ·
    omega
theorem echange_c (kd : ByteArray) (am : Int) (A : Option Addr) (n c : Nat) (L : List El) (w : World) (hl : ElSl w A n L) (hn8 : n ≤ 1000) :
  Calls prog 72 #[.string kd, .int .i64 am, .slice A n c] w fun e w' => (∃ v, e = .returned v ∧ OwnEl w' w.heap.size v (chL kd am L n).length (chL kd am L n)) ∧ Below w.heap.size w w' := by
 have HL := hid hl
 have H0 : Hid (chT kd am L 0 = ([], (am == 0))) := by unfold Hid; rw [chT]; rfl
 have KO := hid (fun W => eof_c kd am W)
 have HF : Hid (chL kd am L n = if (chT kd am L n).2 = false then (chT kd am L n).1 ++ [⟨kd, am, 100⟩] else (chT kd am L n).1) := rfl
 generalize hcl : chL kd am L n = R at *
 clear hcl hl
 go_enter func72, ntmps72
 go_wp2_with fail
 go_loopw [7, 8, 15] (fun v d i wr => ∃ k : Nat, k ≤ n ∧ i = .int .i64 k ∧ d = .bool (chT kd am L k).2 ∧ OwnEl wr w.heap.size v (chT kd am L k).1.length (chT kd am L k).1 ∧ Below w.heap.size w wr) (fun _ _ i _ => n - (intOf i).toNat)
 case atStart => exact ⟨0, Nat.zero_le _, rfl, by rw [H0.out], by rw [H0.out]; exact ⟨by simp, World.ownsRow_nil _ _ _ _⟩, b0 _⟩
 case round =>
  obtain ⟨k, hk', rfl, rfl, ho, hbl⟩ := hrel
  have HOL := hid (chT_len kd am L k)
  have hsz := hbl.size
  by_cases hk : k < n
  case neg =>
   obtain rfl : k = n := by omega
   have hcl := HOL.out
   generalize chT kd am L k = P at *
   obtain ⟨pl, pd⟩ := P
   dsimp only at ho HF hcl
   have HO := hid ho
   clear ho HOL
   cases pd
   ·
    go_wp2_with fail
    refine (KO.out _).mono ?_
    rintro e w2 ⟨rfl, hb2⟩
    have hb3 := bT hbl hb2
    have hsz3 := hb3.size
    have HO2 := hid (oB9 HO.out.2 hb2)
    go_wp2_with (at_builtin; refine wa9 _ rfl _ _ 35 rfl 98 _ 3 32 underlying35 info_el rfl (by decide) rfl HO2.out _ rfl (by first | rfl | simp) rfl (by simp [Value.oneCell']) (by omega) (by omega) (by first | omega | (simp; omega)) ?_; intro v' w6 ho' hg)
    go_ret
    have e : R = pl ++ [⟨kd, am, 100⟩] := HF.out.trans (if_pos (by decide))
    subst e
    exact ⟨⟨_, rfl, rfl, by simpa [elC] using ho'⟩, bP hb3 HO2.out hg (Nat.le_refl _)⟩
   ·
    go_wp2_with fail
    go_ret
    have e : R = pl := HF.out.trans (if_neg (by decide))
    subst e
    exact ⟨⟨_, rfl, HO.out⟩, hbl⟩
  obtain ⟨b, off, rfl, hlt, hat⟩ := (HL.out.below hbl).2.2 (by omega)
  have hc := hat k hk
  have HS : Hid (chT kd am L (k + 1) = if (L.getD k el0).k ≠ kd then ((chT kd am L k).1 ++ [L.getD k el0], (chT kd am L k).2) else if (chT kd am L k).2 = false then ((chT kd am L k).1 ++ [⟨kd, am, 100⟩], true) else chT kd am L k) := rfl
  have hcl := HOL.out
  generalize chT kd am L k = P at *
  obtain ⟨pl, pd⟩ := P
  dsimp only at ho HS hcl
  generalize L.getD k el0 = zz at *
  obtain ⟨zk, za, zu⟩ := zz
  dsimp only at HS
  obtain ⟨c0, c1, c2⟩ : wr.cell? ⟨b, off + k * 3, none⟩ = some (.string zk) ∧ wr.cell? ⟨b, off + k * 3 + 1, none⟩ = some (.int .i64 za) ∧ wr.cell? ⟨b, off + k * 3 + 2, none⟩ = some (.int .i64 zu) := ⟨hc 0 _ rfl, hc 1 _ rfl, hc 2 _ rfl⟩
  have HO := hid ho
  clear ho hc hat HOL
  have hsz2 : w.heap.size ≤ (wr.alloc (.cells #[.string zk, .int .i64 za, .int .i64 zu] 98)).heap.size := by simp; omega
  have hb2 := bA hbl (.cells #[.string zk, .int .i64 za, .int .i64 zu] 98)
  by_cases he : zk = kd
  case neg =>
   have v1 := str_neq he
   have HO2 := hid (HO.out.2.alloc (.cells #[.string zk, .int .i64 za, .int .i64 zu] 98))
   have HS2 : Hid (chT kd am L (k + 1) = (pl ++ [⟨zk, za, zu⟩], pd)) := HS.out.trans (if_pos he)
   clear he HS
   go_wp2_with (at_builtin; refine wa9 _ rfl _ _ 35 rfl 98 _ 3 32 underlying35 info_el rfl (by decide) rfl HO2.out _ rfl (by first | rfl | simp) rfl (by simp [Value.oneCell']) (by omega) (by omega) (by first | omega | (simp; omega)) ?_; intro v' w6 ho' hg)
   go_roundw
   case rel => exact ⟨k + 1, by omega, by go_num, by rw [HS2.out], by rw [HS2.out]; exact ⟨rfl, by simpa [elC] using ho'⟩, bP hb2 HO2.out hg (Nat.le_refl _)⟩
   case measure => simp [intOf]; omega
  subst he
  have v1 : (zk.toList == zk.toList) = true := by simp
  cases pd
  ·
   have HS2 : Hid (chT zk am L (k + 1) = (pl ++ [⟨zk, am, 100⟩], true)) := HS.out.trans ((if_neg (by simp)).trans (if_pos rfl))
   clear HS
   go_wp2_with fail
   refine (KO.out _).mono ?_
   rintro e w2 ⟨rfl, hb3⟩
   have hb4 := bT hb2 hb3
   have hsz4 := hb4.size
   have HO2 := hid (oB9 (HO.out.2.alloc (.cells #[.string zk, .int .i64 za, .int .i64 zu] 98)) hb3)
   go_wp2_with (at_builtin; refine wa9 _ rfl _ _ 35 rfl 98 _ 3 32 underlying35 info_el rfl (by decide) rfl HO2.out _ rfl (by first | rfl | simp) rfl (by simp [Value.oneCell']) (by omega) (by omega) (by first | omega | (simp; omega)) ?_; intro v' w6 ho' hg)
   go_roundw
   case rel => exact ⟨k + 1, by omega, by go_num, by rw [HS2.out], by rw [HS2.out]; exact ⟨rfl, by simpa [elC] using ho'⟩, bP hb4 HO2.out hg (Nat.le_refl _)⟩
   case measure => simp [intOf]; omega
  ·
   have HS2 : Hid (chT zk am L (k + 1) = (pl, true)) := HS.out.trans ((if_neg (by simp)).trans (if_neg (by simp)))
   clear HS
   go_wp2_with fail
   go_roundw
   case rel => exact ⟨k + 1, by omega, by go_num, by rw [HS2.out], by rw [HS2.out]; exact ⟨HO.out.1, HO.out.2.alloc _⟩, hb2⟩
   case measure => simp [intOf]; omega
section
variable {P : Program}
theorem SrcAt.load {w : World} {A : Option Addr} {m size : Nat} {news : List Value} (h : SrcAt w A m size news) (hm : 0 < m) : ∃ a, A = some a ∧ ∀ j u, news[j]? = some u → w.cell? (a.add j) = some u := by
 obtain ⟨b, off, rfl, _, hc⟩ := h.2 hm
 exact ⟨_, rfl, fun j u hu => by rw [add_plain]; exact hc j u hu⟩
theorem run_copy_ownK (w : World) (dT sT ty elem : TypeId) {K : Nat} (hu : P.underlying dT = some (.slice elem)) (hs : (P.info? elem).map (·.size) = some K) (hK : 0 < K) {base n cap g : Nat} {e : TypeId} {xs : List Value}
  (hown : w.ownsRow base e K (.slice (some ⟨g, 0, none⟩) n cap) n xs) (o dLen dCap : Nat) (A : Option Addr) (sLen sCap : Nat) (news : List Value) (hsrc : SrcAt w A sLen K news) (h1 : ∀ u ∈ news, u.oneCell' = true) (hle : sLen ≤ dLen) (hfit : o + news.length ≤ n * K) :
  ∃ w', (Builtin.copy_ #[dT, sT] ty #[.slice (some ⟨g, o, none⟩) dLen dCap, .slice A sLen sCap]).run P w = .ok (goInt sLen) w' ∧ w'.ownsRow base e K (.slice (some ⟨g, 0, none⟩) n cap) n (splice xs o news) ∧ w.grownBy w' (some g) := by
 obtain ⟨hl, h2 | ⟨g', cap', cur, hv, hb, hg, hle2, hm, hsz, ht⟩⟩ := hown
 ·
  cases h2.1
 injection hv with hA _ hc
 injection hA with hA
 injection hA with hg' _
 subst hg'
 subst hc
 have hcl : n * K ≤ cur.toList.length := by rw [Array.length_toList, hsz]; exact Nat.mul_le_mul_right _ hle2
 have hfit2 : o + news.length ≤ cur.size := by rw [Array.length_toList] at hcl; omega
 have hst := run_storeCells_at P g o e news 0 cur w hg (by simpa using hfit2) h1
 have hmin : Nat.min sLen dLen = sLen := Nat.min_eq_left hle
 have hrun : (Builtin.copy_ #[dT, sT] ty #[.slice (some ⟨g, o, none⟩) dLen dCap, .slice A sLen sCap]).run P w = .ok (goInt sLen) (w.setRow g (cur.toList.take o ++ news ++ cur.toList.drop (o + news.length)).toArray) := by
  cases hq : P.info? elem with
  | none => simp [hq] at hs
  | some i =>
   have hi : i.size = K := by simpa [hq] using hs
   have hfc : (Builtin.firstCells K sLen (.slice A sLen sCap)).run P w = .ok news.toArray w := by
    rcases A with _ | a
    ·
     have h0 : sLen = 0 := by
      rcases Nat.eq_zero_or_pos sLen with h0 | h0
      ·
       exact h0
      ·
       obtain ⟨b, off, h, _⟩ := hsrc.2 h0
       cases h
     have : news = [] := List.eq_nil_of_length_eq_zero (by rw [hsrc.1, h0, Nat.zero_mul])
     subst this
     simp [Builtin.firstCells]
    ·
     rcases Nat.eq_zero_or_pos sLen with h0 | h0
     ·
      have : news = [] := List.eq_nil_of_length_eq_zero (by rw [hsrc.1, h0, Nat.zero_mul])
      subst this
      have := run_loadCells_list (P := P) w a [] (fun j v h => by simp at h)
      simpa [Builtin.firstCells, h0] using this
     ·
      obtain ⟨a', ha, hc⟩ := hsrc.load h0
      injection ha with ha
      subst ha
      have := run_loadCells_list (P := P) w a news hc
      rw [hsrc.1] at this
      simpa [Builtin.firstCells] using this
   simp only [Nat.add_zero] at hst
   simp [Builtin.copy_, run_underlying hu, Builtin.lenOf, sizeOf, typeInfo, hq, hi, hmin, hfc, hst]
 refine ⟨_, hrun, ⟨?_, .inr ⟨g, cap, _, rfl, hb, setRow_heap w g cur _ e _ hg, hle2, hm, ?_, ?_⟩⟩, ?_⟩
 ·
  rw [length_splice _ _ _ (by rw [hl]; exact hfit), hl]
 ·
  simp; rw [hsz] at hfit2; omega
 ·
  rw [← ht]
  unfold splice
  simp only [List.append_assoc]
  rw [List.take_append, List.take_append, List.length_take, List.take_take, List.take_drop]
  have e1 : min o cur.toList.length = o := by rw [Array.length_toList]; omega
  rw [e1, List.take_of_length_le (show news.length ≤ n * K - o by omega), List.take_take, show min (n * K) o = o by omega, show o + news.length + (n * K - o - news.length) = n * K by omega, show min o (n * K) = o by omega]
 ·
  exact ⟨rfl, rfl, rfl, by simp [World.setRow], fun k hk hne => setRow_other w g k _ (fun h => hne (by rw [h]))⟩
theorem run_appZ_own (w : World) (t tn ty e : TypeId) (z : Value) (size bytes : Nat) (kq kn : IntKind) (ht : P.underlying t = some (.slice e)) (htn : P.underlying tn = some (.int kn)) (hi : (P.info? e).map (fun i => (i.zero, i.size, i.bytes)) = some (some z, size, bytes))
  (hzs : z.cells.size = size) (hsz : 0 < size) (A : Option Addr) (n cap : Nat) (olds : List Value) (hsrc : SrcAt w A n size olds) (k : Nat) (h0 : 0 < k) (hg : cap < n + k) (hn2 : n + k ≤ 9223372036854775807) (hb : (n + k) * bytes ≤ 140737488355328) :
  ∃ v' w', (Builtin.append_ #[t, tn] ty #[.slice A n cap, .int kq k]).run P w = .ok v' w' ∧ w'.ownsRow w.heap.size e size v' (n + k) (olds ++ (Builtin.zeroCells z.cells k).toList) ∧ w.grownBy w' none := by
 obtain ⟨i, hi', hz, hs, hby⟩ := info_parts hi
 subst hs
 subst hby
 have hold : (Builtin.firstCells i.size n (.slice A n cap)).run P w.drew = .ok olds.toArray w.drew := by
  rcases A with _ | a
  ·
   have h0 : n = 0 := by
    rcases Nat.eq_zero_or_pos n with h0 | h0
    ·
     exact h0
    ·
     obtain ⟨b, off, h, _⟩ := hsrc.2 h0
     cases h
   have : olds = [] := List.eq_nil_of_length_eq_zero (by rw [hsrc.1, h0, Nat.zero_mul])
   subst this
   simp [Builtin.firstCells]
  ·
   rcases Nat.eq_zero_or_pos n with h0 | h0
   ·
    have : olds = [] := List.eq_nil_of_length_eq_zero (by rw [hsrc.1, h0, Nat.zero_mul])
    subst this
    have := run_loadCells_list (P := P) w.drew a [] (fun j v h => by simp at h)
    simpa [Builtin.firstCells, h0] using this
   ·
    obtain ⟨a', ha, hc⟩ := hsrc.load h0
    injection ha with ha
    subst ha
    have := run_loadCells_list (P := P) w.drew a olds (fun j v h => by simpa using hc j v h)
    rw [hsrc.1] at this
    simpa [Builtin.firstCells] using this
 have hfit := growslice_fits hg hb
 have hkb : k * i.bytes ≤ 281474976710656 := by
  have : k * i.bytes ≤ (n + k) * i.bytes := Nat.mul_le_mul_right _ (by omega)
  omega
 have hr := Lib.run_append_grow_zeros (P := P) w t tn ty e i z kq kn ht htn hi' hz A n cap olds hold k h0 hsz hg (by omega) hkb hfit
 have hge := grownCap_ge w (n + k) cap e
 have hcm : grownCap w (n + k) cap e ≤ maxLen := grownCap_le_maxLen w (n + k) cap e (by unfold maxLen; exact hn2)
 have hzl : (Builtin.zeroCells z.cells k).size = k * i.size := by rw [size_zeroCells, hzs]
 refine ⟨_, _, hr, ⟨?_, .inr ⟨w.heap.size, _, _, rfl, Nat.le_refl _, heap_alloc_new w.drew _, hge, hcm, ?_, ?_⟩⟩, ⟨rfl, rfl, rfl, by simp, fun q hq _ => heap_alloc_old w.drew _ hq⟩⟩
 ·
  rw [List.length_append, hsrc.1, Array.length_toList, hzl, Nat.add_mul]
 ·
  simp only [Array.size_append, List.size_toArray, size_zeroCells, hzs, hsrc.1, ← Nat.add_mul]
  congr 1
  omega
 ·
  simp only [Array.toList_append]
  have : (n + k) * i.size = (olds.toArray.toList ++ (Builtin.zeroCells z.cells k).toList).length := by
   simp only [List.length_append, Array.length_toList, hzl, hsrc.1, Nat.add_mul]
  rw [this, List.take_left]
theorem wpList_copyR {ops : Array Oper} {rest : List Oper} {o : Oper} {a : Act} {Q : Exit → Act → World → Prop} (w : World) (hgd : o.guard = none) (s x : Operand) (t t' : TypeId)
  (ho : o.op = .call { callee := .builtin .copy, args := #[s, x], argTypes := #[t, t'] }) (v u : Value) (hs : a.eval s = v) (hx : a.eval x = u) (v' : Value) (w' : World)
  (hr : (Builtin.copy_ #[t, t'] o.type #[v, u]).run P w = .ok v' w') (h : wpList P ops Q rest (a.put o.dst v') w') : wpList P ops Q (o :: rest) a w := by
 refine wpList_plain hgd fun K hK => ?_
 unfold Oper.wp execOp
 simp only [ho, resolve, invoke, builtin, Sem.run_bind, Sem.run_pure, Result.andThen_ok, List.map_toArray, List.map_cons, List.map_nil, hs, hx, hr]
 exact hK _ _ h
theorem wpList_appR {ops : Array Oper} {rest : List Oper} {o : Oper} {a : Act} {Q : Exit → Act → World → Prop} (w : World) (hgd : o.guard = none) (s x : Operand) (t t' : TypeId)
  (ho : o.op = .call { callee := .builtin .append, args := #[s, x], argTypes := #[t, t'] }) (v u : Value) (hs : a.eval s = v) (hx : a.eval x = u) (v' : Value) (w' : World)
  (hr : (Builtin.append_ #[t, t'] o.type #[v, u]).run P w = .ok v' w') (h : wpList P ops Q rest (a.put o.dst v') w') : wpList P ops Q (o :: rest) a w := by
 refine wpList_plain hgd fun K hK => ?_
 unfold Oper.wp execOp
 simp only [ho, resolve, invoke, builtin, Sem.run_bind, Sem.run_pure, Result.andThen_ok, List.map_toArray, List.map_cons, List.map_nil, hs, hx, hr]
 exact hK _ _ h
theorem step_copyR {w : World} {ops : Array Oper} {o : Oper} {a : Act} {K : Act → World → Prop} {Q : Exit → Act → World → Prop} {E : Prop} (hgd : o.guard = none) (s x : Operand) (t t' : TypeId)
  (ho : o.op = .call { callee := .builtin .copy, args := #[s, x], argTypes := #[t, t'] }) (v u : Value) (hs : a.eval s = v) (hx : a.eval x = u) (v' : Value) (w' : World)
  (hr : (Builtin.copy_ #[t, t'] o.type #[v, u]).run P w = .ok v' w') (h : K (a.put o.dst v') w') :
  if Region.wanted o (yielded ops a.tmps) = true then Oper.wp P o a w K Q else E := by
 have hw : Region.wanted o (yielded ops a.tmps) = true := by simp [Region.wanted, hgd]
 rw [if_pos hw]
 unfold Oper.wp execOp
 simp only [ho, resolve, invoke, builtin, Sem.run_bind, Sem.run_pure, Result.andThen_ok, List.map_toArray, List.map_cons, List.map_nil, hs, hx, hr]
 exact h
end
end Go.Proofs.YtiaabmhjkoohmaaGreat
namespace Go.Proofs
open Go.Shelf
def Tryz.lays122_ren : Go.Shelf.Ren := ⟨fun | 122 => 153 | 215 => 172 | n => n, fun | 3 => 3 | 4 => 4 | n => n, fun | n => n⟩
theorem Tryz.lays122 : Go.Proofs.Lays.n122 Tryz.prog Tryz.lays122_ren := {
 mixed := by kernel_rfl
 f122 := Tryz.func153.trans (congrArg some (by kernel_rfl))
 f215 := Tryz.func172.trans (congrArg some (by kernel_rfl))
 t3 := Tryz.underlying3
 a3 := Tryz.isAgg3
 z3 := Tryz.sizeOf3
 v3 := Tryz.zeroValue3
 t4 := Tryz.underlying4
 a4 := Tryz.isAgg4
 z4 := Tryz.sizeOf4
 v4 := Tryz.zeroValue4 }
open Go.RowKit in
theorem Tryz.cmp_Compare_int (x y : Int) (w : World) :
 Calls Tryz.prog 153 #[.int .i64 x, .int .i64 y] w fun e w' => e = .returned (.int .i64 (Lib.compareInt x y)) ∧ w' = w := Any.cmp_Compare_int Tryz.lays122 x y w
end Go.Proofs
namespace Go.Proofs.YtiaabmhjkoohmaaGreat
set_option linter.unusedVariables false
set_option linter.unusedSimpArgs false
open Go.RowKit
section
variable {P : Program} {md : Region.Mode} {ops : Array Oper} {Q : Exit → Act → World → Prop} {S : World → Prop} {m : Nat}
def wEz (P : Program) (md : Region.Mode) (ops : Array Oper) (Q : Exit → Act → World → Prop) (S : World → Prop) (m : Nat) : Nat → Array Bool → Act → World → Prop
 | 0, listed, a, w => Region.ready md ops listed = [] ∧ Q .normal a w
 | fuel + 1, listed, a, w =>
  (Region.ready md ops listed = [] → Q .normal a w) ∧
  ∀ i ∈ Region.ready md ops listed, wpOp P ops Q i (fun a' w' => (i < m → S w') ∧ wEz P md ops Q S m fuel (listed.setIfInBounds i true) a' w') a w
theorem wpAny_of_E : ∀ (fuel : Nat) (listed : Array Bool) (a : Act) (w : World), wEz P md ops Q S m fuel listed a w → wpAny P md ops Q fuel listed a w
 | 0, _, _, _, h => h
 | fuel + 1, _, _, _, h => ⟨h.1, fun i hi => wpOp_mono (fun a' w' h' => wpAny_of_E fuel _ a' w' h'.2) (h.2 i hi)⟩
def waitsT (md : Region.Mode) (ops : Array Oper) : Nat → Nat → Nat → Bool
 | 0, _, _ => false
 | f + 1, j, i => match ops[j]? with | some o => o.after.any fun e => Region.binds md e && (e.on == i || waitsT md ops f e.on i) | none => false
def closedB (md : Region.Mode) (ops : Array Oper) (listed : Array Bool) : Bool :=
 (List.range ops.size).all fun j => !(listed.getD j false) || match ops[j]? with | some o => o.after.all fun e => !(Region.binds md e) || listed.getD e.on false | none => true
def lateB (md : Region.Mode) (ops : Array Oper) (m i : Nat) : Bool := (List.range ops.size).all fun j => decide (j < m) || waitsT md ops ops.size j i
theorem closedB_spec {listed : Array Bool} (h : closedB md ops listed = true) {j : Nat} {o : Oper} (hj : listed.getD j false = true) (ho : ops[j]? = some o) {e : _} (he : e ∈ o.after) (hb : Region.binds md e = true) : listed.getD e.on false = true := by
 unfold closedB at h
 rw [List.all_eq_true] at h
 have := h j (by rw [List.mem_range]; exact (Array.getElem?_eq_some_iff.1 ho).1)
 rw [hj, ho] at this
 simp only [Bool.not_true, Bool.false_or] at this
 rw [Array.all_eq_true_iff_forall_mem] at this
 have h2 := this e he
 rw [hb] at h2
 simpa using h2
theorem waitsT_listed {listed : Array Bool} (hc : closedB md ops listed = true) {i : Nat} : ∀ (f j : Nat), waitsT md ops f j i = true → (∀ o, ops[j]? = some o → ∀ e ∈ o.after, Region.binds md e = true → listed.getD e.on false = true) → listed.getD i false = true
 | 0, _, h, _ => by cases h
 | f + 1, j, h, hall => by
  unfold waitsT at h
  cases ho : ops[j]? with
  | none => rw [ho] at h; cases h
  | some o =>
   rw [ho] at h
   simp only [Array.any_eq_true'] at h
   obtain ⟨e, he, hb⟩ := h
   rw [Bool.and_eq_true, Bool.or_eq_true, beq_iff_eq] at hb
   have h1 := hall _ ho e he hb.1
   rcases hb.2 with h2 | h2
   ·
    rw [← h2]; exact h1
   ·
    exact waitsT_listed hc f e.on h2 (fun o ho' e' he' hb' => closedB_spec hc h1 ho' he' hb')
theorem lateB_not {i j : Nat} {listed : Array Bool} (hc : closedB md ops listed = true) (hw : lateB md ops m i = true) (hi : i ∈ Region.ready md ops listed) (hj : j ∈ Region.ready md ops listed) : j < m := by
 obtain ⟨h0, _⟩ := mem_ready.1 hi
 obtain ⟨_, o, ho, hall⟩ := mem_ready.1 hj
 unfold lateB at hw
 rw [List.all_eq_true] at hw
 have h1 := hw j (by rw [List.mem_range]; exact (Array.getElem?_eq_some_iff.1 ho).1)
 rw [Bool.or_eq_true, decide_eq_true_eq] at h1
 rcases h1 with h1 | h1
 ·
  exact h1
 ·
  exfalso
  have h2 := waitsT_listed hc _ _ h1 (fun o' ho' e he hb => by rw [ho] at ho'; injection ho' with ho'; subst ho'; exact hall e he hb)
  rcases Nat.lt_or_ge i listed.size with h' | h'
  ·
   simp [h'] at h0 h2; rw [h0] at h2; cases h2
  ·
   simp [Array.getElem?_eq_none h'] at h2
theorem closedB_set {j : Nat} {listed : Array Bool} (hc : closedB md ops listed = true) (hj : j ∈ Region.ready md ops listed) : closedB md ops (listed.setIfInBounds j true) = true := by
 unfold closedB
 rw [List.all_eq_true]
 intro k hk
 rw [List.mem_range] at hk
 have hmono : ∀ x, listed.getD x false = true → (listed.setIfInBounds j true).getD x false = true := fun x hx => by
  by_cases e : j = x
  ·
   subst e
   rcases Nat.lt_or_ge j listed.size with h' | h'
   ·
    simp [h']
   ·
    simp [Array.getElem?_eq_none h'] at hx
  ·
   rw [getD_set_ne false e]; exact hx
 have hok : ops[k]? = some ops[k] := by simp [hk]
 rw [hok]
 cases hl : (listed.setIfInBounds j true).getD k false
 ·
  rfl
 ·
  simp only [Bool.not_true, Bool.false_or]
  rw [Array.all_eq_true_iff_forall_mem]
  intro e he
  cases hb : Region.binds md e
  ·
   rfl
  ·
   simp only [Bool.not_true, Bool.false_or]
   by_cases ejk : j = k
   ·
    subst ejk
    obtain ⟨_, o, ho, hall⟩ := mem_ready.1 hj
    rw [hok] at ho
    injection ho with ho
    subst ho
    exact hmono _ (hall e he hb)
   ·
    rw [getD_set_ne false ejk] at hl
    exact hmono _ (closedB_spec hc hl hok he hb)
theorem wpAnyE_first {i : Nat} {oi : Oper} {v : Value} (hi : ops[i]? = some oi) (him : i < m) (hw : lateB md ops m i = true) (hsel : ∀ (j : Nat) (o : Oper) cs b, ops[j]? = some o → o.op ≠ .select cs b)
  (hQ : ∀ c a w, Q (.panic c) (a.put oi.dst v) w → Q (.panic c) a w) :
  ∀ (fuel : Nat) (listed : Array Bool) (a : Act) (w : World), closedB md ops listed = true →
   (∀ j oj, ops[j]? = some oj → j ≠ i → listed.getD j true = false → (∀ e ∈ oj.after, Region.binds md e = true → e.on ≠ i) → oi.apart ops oj = true) →
   i ∈ Region.ready md ops listed → YieldsIf P ops S oi v a → S w →
   wEz P md ops Q S m fuel (listed.setIfInBounds i true) (a.put oi.dst v) w → wEz P md ops Q S m (fuel + 1) listed a w := by
 intro fuel
 induction fuel with
 | zero =>
  intro listed a w hcl _ hr hy hS H
  refine ⟨fun h => (by rw [h] at hr; cases hr), fun j hj => ?_⟩
  by_cases hji : j = i
  ·
   subst hji; exact hy.wpOp hi hS ⟨fun _ => hS, H⟩
  ·
   have := ready_mono hj hji
   rw [H.1] at this
   cases this
 | succ fuel ih =>
  intro listed a w hcl hfree hr hy hS H
  refine ⟨fun h => (by rw [h] at hr; cases hr), fun j hj => ?_⟩
  by_cases hji : j = i
  ·
   subst hji; exact hy.wpOp hi hS ⟨fun _ => hS, H⟩
  ·
   have hjm : j < m := lateB_not hcl hw hr hj
   have h1 := H.2 j (ready_mono hj hji)
   obtain ⟨hjun, oj, hoj, hall⟩ := mem_ready.1 hj
   have hnot : ∀ e ∈ oj.after, Region.binds md e = true → e.on ≠ i := fun e he hb heq => by
    have h1 := hall e he hb
    have h0 := (mem_ready.1 hr).1
    rw [heq] at h1
    rcases Nat.lt_or_ge i listed.size with h' | h'
    ·
     simp [h'] at h0 h1; rw [h0] at h1; cases h1
    ·
     simp [Array.getElem?_eq_none h'] at h1
   have h2 := wpOp_putIf hoj (hfree j oj hoj hji hjun hnot) (fun cs b => hsel i oi cs b hi) (fun cs b => hsel j oj cs b hoj) hQ hy h1
   have hfree' : ∀ k ok, ops[k]? = some ok → k ≠ i → (listed.setIfInBounds j true).getD k true = false →
     (∀ e ∈ ok.after, Region.binds md e = true → e.on ≠ i) → oi.apart ops ok = true := fun k ok hk hki hun hno => by
    refine hfree k ok hk hki ?_ hno
    by_cases hjk : j = k
    ·
     subst hjk; exact hjun
    ·
     rw [getD_set_ne true hjk] at hun; exact hun
   refine wpOp_mono (fun a' w' h3 => ⟨fun _ => h3.2.1 hjm, ih (listed.setIfInBounds j true) a' w' (closedB_set hcl hj) hfree' (ready_mono hr (Ne.symm hji)) h3.1 (h3.2.1 hjm) ?_⟩) h2
   rw [Array.setIfInBounds_comm _ _ hji]
   exact h3.2.2
theorem wpAnyE_take {i : Nat} {oi : Oper} {v : Value} {fuel : Nat} {listed : Array Bool} {a : Act} {w : World} (hi : ops[i]? = some oi) (him : i < m) (hw : lateB md ops m i = true) (hcl : closedB md ops listed = true)
  (hs : Region.noSelect ops = true) (hf : Region.free md ops listed i = true) (hr : (Region.ready md ops listed).contains i = true)
  (hQ : ∀ c a w, Q (.panic c) (a.put oi.dst v) w → Q (.panic c) a w) (hy : YieldsIf P ops S oi v a) (hS : S w)
  (h : wEz P md ops Q S m fuel (listed.setIfInBounds i true) (a.put oi.dst v) w) : wEz P md ops Q S m (fuel + 1) listed a w :=
 wpAnyE_first hi him hw (Region.noSelect_spec hs) hQ fuel listed a w hcl (Region.free_spec hi hf) (by simpa using hr) hy hS h
theorem tkE {i : Nat} {oi : Oper} {v : Value} {fuel : Nat} {listed : Array Bool} {a : Act} {w : World} (hi : ops[i]? = some oi) (hb : (decide (i < m) && (lateB md ops m i && (closedB md ops listed && (Region.noSelect ops && (Region.free md ops listed i && (Region.ready md ops listed).contains i))))) = true)
  (hQ : ∀ c a w, Q (.panic c) (a.put oi.dst v) w → Q (.panic c) a w) (hy : YieldsIf P ops S oi v a) (hS : S w)
  (h : wEz P md ops Q S m fuel (listed.setIfInBounds i true) (a.put oi.dst v) w) : wEz P md ops Q S m (fuel + 1) listed a w := by
 simp only [Bool.and_eq_true, decide_eq_true_eq] at hb
 exact wpAnyE_take hi hb.1 hb.2.1 hb.2.2.1 hb.2.2.2.1 hb.2.2.2.2.1 hb.2.2.2.2.2 hQ hy hS h
theorem tkF {i : Nat} {oi : Oper} {v : Value} {fuel : Nat} {listed : Array Bool} {a : Act} {w : World} (hi : ops[i]? = some oi) (hy : YieldsIf P ops S oi v a)
  (h : wEz P md ops Q S m fuel (listed.setIfInBounds i true) (a.put oi.dst v) w) (hb : (decide (i < m) && (lateB md ops m i && (closedB md ops listed && (Region.noSelect ops && (Region.free md ops listed i && (Region.ready md ops listed).contains i))))) = true := by kernel_rfl)
  (hQ : ∀ c a w, Q (.panic c) (a.put oi.dst v) w → Q (.panic c) a w := by exact fun _ _ _ h => h) (hS : S w := by assumption) : wEz P md ops Q S m (fuel + 1) listed a w :=
 tkE hi hb hQ hy hS h
theorem wpAnyE_one {i : Nat} {o : Oper} {fuel : Nat} {listed : Array Bool} {a : Act} {w : World} (hr : Region.ready md ops listed = [i]) (ho : ops[i]? = some o) 
  (h : ∀ K' : Act → World → Prop, Shut (∀ a w, S w → (S w → wEz P md ops Q S m fuel (listed.setIfInBounds i true) a w) → K' a w) → if Region.wanted o (yielded ops a.tmps) = true then Oper.wp P o a w K' Q else K' (a.put o.dst undef) w) :
  wEz P md ops Q S m (fuel + 1) listed a w :=
 ⟨fun h0 => (by rw [h0] at hr; cases hr), fun j hj => by
  rw [hr, List.mem_singleton] at hj
  subst hj
  exact wpOp_step ho (fun K' hK => h K' (fun a w hS hW => hK a w ⟨fun _ => hS, hW hS⟩))⟩
theorem w2z {i j : Nat} {o p : Oper} {fuel : Nat} {listed : Array Bool} {a : Act} {w : World} (hr : Region.ready md ops listed = [i, j]) (ho : ops[i]? = some o) (hp : ops[j]? = some p)  
  (hi : ∀ K' : Act → World → Prop, Shut (∀ a w, S w → (S w → wEz P md ops Q S m fuel (listed.setIfInBounds i true) a w) → K' a w) → if Region.wanted o (yielded ops a.tmps) = true then Oper.wp P o a w K' Q else K' (a.put o.dst undef) w)
  (hj : ∀ K' : Act → World → Prop, Shut (∀ a w, S w → (S w → wEz P md ops Q S m fuel (listed.setIfInBounds j true) a w) → K' a w) → if Region.wanted p (yielded ops a.tmps) = true then Oper.wp P p a w K' Q else K' (a.put p.dst undef) w) :
  wEz P md ops Q S m (fuel + 1) listed a w :=
 ⟨fun h0 => (by rw [h0] at hr; cases hr), fun k hk => by
  rw [hr] at hk
  rcases List.mem_cons.1 hk with rfl | hk
  ·
   exact wpOp_step ho (fun K' hK => hi K' (fun a w hS hW => hK a w ⟨fun _ => hS, hW hS⟩))
  ·
   rw [List.mem_singleton] at hk
   subst hk
   exact wpOp_step hp (fun K' hK => hj K' (fun a w hS hW => hK a w ⟨fun _ => hS, hW hS⟩))⟩
theorem wD9 {listed : Array Bool} {a : Act} {w : World} (hr : Region.ready md ops listed = []) (h : Q .normal a w) : ∀ fuel, wEz P md ops Q S m fuel listed a w
 | 0 => ⟨hr, h⟩
 | _ + 1 => ⟨fun _ => h, by rw [hr]; simp⟩
theorem wL9 {i : Nat} {o : Oper} {fuel : Nat} {listed : Array Bool} {a : Act} {w : World} (hr : Region.ready md ops listed = [i]) (ho : ops[i]? = some o) (him : m ≤ i)
  (h : ∀ K' : Act → World → Prop, Shut (∀ a w, wEz P md ops Q S m fuel (listed.setIfInBounds i true) a w → K' a w) → if Region.wanted o (yielded ops a.tmps) = true then Oper.wp P o a w K' Q else K' (a.put o.dst undef) w) :
  wEz P md ops Q S m (fuel + 1) listed a w :=
 ⟨fun h0 => (by rw [h0] at hr; cases hr), fun j hj => by
  rw [hr, List.mem_singleton] at hj
  subst hj
  exact wpOp_step ho (fun K' hK => h K' (fun a w hW => hK a w ⟨fun hlt => absurd hlt (by omega), hW⟩))⟩
theorem wRz {id : Nat} {a : Act} {w : World} (S : World → Prop) (m : Nat) (hm : P.follows .mixedOrders = true) (hS : S w.drew)
  (h : S w.drew → wEz P .any ops Q S m ops.size (Array.replicate ops.size false) a w.drew) : (Code.region id ops true).wp P Q a w :=
 wp_region_any hm (wpAny_of_E _ _ _ _ (h hS))
theorem wG9 {id : Nat} {a : Act} {w : World} {H S : World → Prop} (G : Hid (∀ W, H W → S W)) (m : Nat) (hm : P.follows .mixedOrders = true) (hS : H w.drew)
  (h : S w.drew → wEz P .any ops Q S m ops.size (Array.replicate ops.size false) a w.drew) : (Code.region id ops true).wp P Q a w :=
 wRz S m hm (G.out _ hS) h
end
theorem size_drew0 (w : World) : w.drew.heap.size = w.heap.size := rfl
/-! what is put to the slots, as a list: rows by their shape -/
theorem gA {α : Type} (l : List α) (i : Nat) (h : i < l.toArray.size) : l.toArray[i]'h = l[i]'(by simpa using h) := rfl
theorem gB {α : Type} (x : α) (l : List α) (h : 0 < (x :: l).length) : (x :: l)[0]'h = x := rfl
theorem gC {α : Type} (x : α) (l : List α) (i : Nat) (h : i + 1 < (x :: l).length) : (x :: l)[i + 1]'h = l[i]'(by simpa using h) := rfl
theorem pN (a : Act) (v : Value) : a.put none v = a := rfl
theorem pU (a : Act) (d : Tmp) (v : Value) : a.put (some d) v = { a with tmps := a.tmps.setIfInBounds d v } := rfl
theorem pL (l : List Value) (i : Nat) (x : Value) : l.toArray.setIfInBounds i x = (l.set i x).toArray := List.setIfInBounds_toArray l i x
theorem pZ (x y : Value) (l : List Value) : (x :: l).set 0 y = y :: l := rfl
theorem pS (x y : Value) (l : List Value) (n : Nat) : (x :: l).set (n + 1) y = x :: l.set n y := rfl
section
variable {P : Program} {md : Region.Mode} {ops : Array Oper} {Q : Exit → Act → World → Prop} {S : World → Prop} {m : Nat}
theorem tkG (i : Nat) {oi : Oper} {v : Value} {a' : Act} {fuel : Nat} {listed : Array Bool} {a : Act} {w : World} (hi : ops[i]? = some oi := by rfl)
  (hy : YieldsIf P ops S oi v a := by exact Or.inl ⟨by rfl, by (intro w hSw; (try dsimp only at hSw); go_simp; try with_reducible rfl)⟩)
  (ha : a.put oi.dst v = a' := by ((try simp only [gA, gB, gC, pN, pU, pL, pZ, pS]); exact rfl))
  (hb : (decide (i < m) && (lateB md ops m i && (closedB md ops listed && (Region.noSelect ops && (Region.free md ops listed i && (Region.ready md ops listed).contains i))))) = true := by kernel_rfl)
  (hQ : ∀ c a w, Q (.panic c) (a.put oi.dst v) w → Q (.panic c) a w := by exact fun _ _ _ h => h) (hS : S w := by assumption)
  (h : wEz P md ops Q S m fuel (listed.setIfInBounds i true) a' w) : wEz P md ops Q S m (fuel + 1) listed a w := by
 subst ha
 exact tkE hi hb hQ hy hS h
theorem tkO (i : Nat) {o : Oper} {fuel : Nat} {listed : Array Bool} {a : Act} {w : World} (hr : Region.ready md ops listed = [i] := by kernel_rfl) (ho : ops[i]? = some o := by rfl)
  (h : ∀ K' : Act → World → Prop, Shut (∀ a w, S w → (S w → wEz P md ops Q S m fuel (listed.setIfInBounds i true) a w) → K' a w) → if Region.wanted o (yielded ops a.tmps) = true then Oper.wp P o a w K' Q else K' (a.put o.dst undef) w) :
  wEz P md ops Q S m (fuel + 1) listed a w := wpAnyE_one hr ho h
theorem shG {fuel : Nat} {listed : Array Bool} {K' : Act → World → Prop} (hK : Shut (∀ a w, S w → (S w → wEz P md ops Q S m fuel listed a w) → K' a w)) {a a' : Act} {w : World} (hS : S w)
  (ha : a = a' := by ((try simp only [gA, gB, gC, pN, pU, pL, pZ, pS]); exact rfl)) (h : S w → wEz P md ops Q S m fuel listed a' w) : K' a w := by
 subst ha
 exact hK.out _ _ hS h
end
theorem sizN : (∀ (w : World) (o : Obj), (w.alloc o).heap.size = w.heap.size + 1) ∧ (∀ (w : World) (p : Addr) (v : Value), (w.setCell p v).heap.size = w.heap.size) ∧ (∀ w : World, w.drew.heap.size = w.heap.size) :=
 ⟨fun w o => World.size_alloc w o, fun w p v => World.size_setCell w p v, fun _ => rfl⟩
theorem own_drew0 {w : World} {base size n : Nat} {e : TypeId} {v : Value} {xs : List Value} (h : w.ownsRow base e size v n xs) : w.drew.ownsRow base e size v n xs := h
theorem Fr.zero {w0 w : World} (h : Below w0.heap.size w0 w) : Fr w0 w [] := ⟨h, fun i x hi => by simp at hi, List.Pairwise.nil⟩
theorem Fr.gr {w0 w w' : World} {l : List (Nat × TypeId × Array Value)} (h : Fr w0 w l) {row : Option Nat} (hg : w.grownBy w' row) (hr : ∀ k, row = some k → w0.heap.size ≤ k) (hne : ∀ x ∈ l, some x.1 ≠ row) : Fr w0 w' l :=
 ⟨h.bl.grown hg h.bl.size hr, fun i x hi => ⟨(h.at' i x hi).1, (h.at' i x hi).2.grown hg (hne x (List.mem_of_getElem? hi))⟩, h.ne⟩
theorem blk_src {w : World} {g : Nat} {t : TypeId} {cs : Array Value} (h : Blk w g t cs) : SrcAt w (some ⟨g, 0, none⟩) 1 cs.size cs.toList :=
 ⟨by simp, fun _ => ⟨g, 0, rfl, h.lt, fun j u hu => by rw [Nat.zero_add]; exact (h.cell j).trans (by simpa using hu)⟩⟩
theorem al8 {w0 w w' : World} {l l' : List (Nat × TypeId × Array Value)} (h : Fr w0 w l) (hw : w = w' := by ((try simp only [World.size_alloc, World.size_setCell, size_drew0]); exact rfl)) (hl : l = l' := by ((try simp only [World.size_alloc, World.size_setCell, size_drew0]); exact rfl)) : Hid (Fr w0 w' l') := by
 subst hw
 subst hl
 exact h
end Go.Proofs.YtiaabmhjkoohmaaGreat
namespace Go.Proofs.YtiaabmhjkoohmaaGreat
set_option maxRecDepth 100000
set_option maxHeartbeats 25600000
set_option linter.unusedVariables false
set_option linter.unusedSimpArgs false
open Go.ChangeShapes Go.WideShapes Go.Deep Go.RowKit
section
variable {H : Type} {enc : TypeId × Value → H} {w : World}
theorem open_elem_t {b off : Nat} {cs : List Value} {m : Nat} {x : DataW H × List MemPlace} (hl : cs.length = 3) (hc : CellsAt w b off cs) (h : DataW.trod enc Tryz.prog w 0 (fun _ => true) true m 98 cs = some x) :
  ∃ a : El, RowAt elC w b off a := by
 match cs, hl with
 | [a0, a1, a2], _ =>
  have hf := scz Tryz.underlying98 (by kernel_rfl) rfl h
  obtain ⟨u0, n0, y0, e0, t0⟩ := hf 0 _ rfl
  obtain ⟨u1, n1, y1, e1, t1⟩ := hf 1 _ rfl
  obtain ⟨u2, n2, y2, e2, t2⟩ := hf 2 _ rfl
  obtain ⟨q0, rfl, _⟩ := cell_string Tryz.underlying9 t0
  obtain ⟨q1, rfl, _⟩ := ciz Tryz.underlying2 t1
  obtain ⟨q2, rfl, _⟩ := ciz Tryz.underlying2 t2
  simp only [List.getElem?_cons_zero, List.getElem?_cons_succ, Option.some.injEq] at e0 e1 e2
  subst e0; subst e1; subst e2
  exact ⟨⟨q0, q1, q2⟩, hc⟩
theorem open_els_t {m : Nat} {u : Value} {x : DataW H × List MemPlace} (h : DataW.trod enc Tryz.prog w 0 (fun _ => true) true m 35 [u] = some x) : ∃ A n c l, u = .slice A n c ∧ ElSl w A n l := by
 obtain ⟨A, n, c, l, rfl, _, _, hs⟩ := open_sl (RowAt elC) 3 el0 (by decide) Tryz.underlying35 (by kernel_rfl) (fun b off cs m x hb hl hc hx => open_elem_t hl hc hx) h
 exact ⟨A, n, c, l, rfl, hs⟩
end
end Go.Proofs.YtiaabmhjkoohmaaGreat
namespace Go.Proofs.YtiaabmhjkoohmaaGreat
set_option maxRecDepth 100000
set_option maxHeartbeats 25600000
set_option linter.unusedVariables false
set_option linter.unusedSimpArgs false
open Go.RowKit Tryz
open Lib (hid)
def elEq (a b : El) : Bool := decide (a.k = b.k) && decide (a.a = b.a) && decide (a.u = b.u)
theorem elEq_iff {a b : El} : elEq a b = true ↔ a = b := by
 cases a; cases b
 simp [elEq, and_assoc]
def eqTo (L M : List El) (n : Nat) : Bool := (List.range n).all fun i => elEq (L.getD i el0) (M.getD i el0)
theorem eqTo_iff {L M : List El} {n : Nat} : eqTo L M n = true ↔ ∀ i, i < n → L.getD i el0 = M.getD i el0 := by
 unfold eqTo
 rw [List.all_eq_true]
 exact ⟨fun h i hi => elEq_iff.1 (h i (List.mem_range.2 hi)), fun h i hi => elEq_iff.2 (h i (List.mem_range.1 hi))⟩
def sameB (L M : List El) : Bool := decide (L.length = M.length) && eqTo L M L.length
theorem sameB_self (L : List El) : sameB L L = true := by simp [sameB, eqTo_iff]
theorem equal_c (A B : Option Addr) (n c m d : Nat) (L M : List El) (w : World) (hl : ElSl w A n L) (hm : ElSl w B m M) (r : Bool) (hr : Hid (r = sameB L M)) :
  Calls prog 49 #[.slice A n c, .slice B m d] w fun e w' => e = .returned (.bool r) ∧ Below w.heap.size w w' := by
 have HL := hid hl
 have HM := hid hm
 have hn9 := hl.2.1
 have hm9 := hm.2.1
 have HR : Hid (r = (decide (n = m) && eqTo L M n)) := by unfold Hid; rw [hr.out, hl.1, hm.1]; rfl
 clear hl hm hr
 by_cases hnm : n = m
 case neg =>
  have e : r = false := by rw [HR.out]; simp [hnm]
  have v : ((n : Int) != (m : Int)) = true := by simp; omega
  subst e
  clear hnm HR
  go_enter func49, ntmps49
  go_wp2_with fail
  go_ret
  exact ⟨rfl, b0 _⟩
 subst hnm
 have v : ((n : Int) != (n : Int)) = false := by simp
 have HR2 : Hid (r = eqTo L M n) := by unfold Hid; rw [HR.out]; simp
 clear HR
 go_enter func49, ntmps49
 go_wp2_with fail
 go_loopw [5, 13] (fun _ i wr => ∃ k : Nat, k ≤ n ∧ i = .int .i64 k ∧ Hid (eqTo L M k = true) ∧ Below w.heap.size w wr) (fun _ i _ => n - (intOf i).toNat)
 case atStart => exact ⟨0, Nat.zero_le _, rfl, rfl, b0 _⟩
 case round =>
  obtain ⟨k, hk', rfl, HA, hbl⟩ := hrel
  by_cases hk : k < n
  case neg =>
   obtain rfl : k = n := by omega
   have e : r = true := HR2.out.trans HA.out
   subst e
   clear HR2
   go_wp2_with fail
   go_ret
   exact ⟨rfl, hbl⟩
  obtain ⟨b, off, rfl, hlt, hat⟩ := (HL.out.below hbl).2.2 (by omega)
  obtain ⟨b2, off2, rfl, hlt2, hat2⟩ := (HM.out.below hbl).2.2 (by omega)
  have hc := hat k hk
  have hc2 := hat2 k hk
  have HN : Hid (L.getD k el0 ≠ M.getD k el0 → r = false) := fun h => by
   rw [HR2.out]
   cases hh : eqTo L M n with
   | false => rfl
   | true => exact absurd (eqTo_iff.1 hh k hk) h
  have HY : Hid (L.getD k el0 = M.getD k el0 → eqTo L M (k + 1) = true) := fun h => eqTo_iff.2 fun i hi => by
   rcases (by omega : i = k ∨ i < k) with rfl | hi
   ·
    exact h
   ·
    exact eqTo_iff.1 HA.out i hi
  generalize L.getD k el0 = x at *
  generalize M.getD k el0 = y at *
  obtain ⟨xk, xa, xu⟩ := x
  obtain ⟨yk, ya, yu⟩ := y
  obtain ⟨c0, c1, c2⟩ : wr.cell? ⟨b, off + k * 3, none⟩ = some (.string xk) ∧ wr.cell? ⟨b, off + k * 3 + 1, none⟩ = some (.int .i64 xa) ∧ wr.cell? ⟨b, off + k * 3 + 2, none⟩ = some (.int .i64 xu) := ⟨hc 0 _ rfl, hc 1 _ rfl, hc 2 _ rfl⟩
  obtain ⟨d0, d1, d2⟩ : wr.cell? ⟨b2, off2 + k * 3, none⟩ = some (.string yk) ∧ wr.cell? ⟨b2, off2 + k * 3 + 1, none⟩ = some (.int .i64 ya) ∧ wr.cell? ⟨b2, off2 + k * 3 + 2, none⟩ = some (.int .i64 yu) := ⟨hc2 0 _ rfl, hc2 1 _ rfl, hc2 2 _ rfl⟩
  clear hc hc2 hat hat2 HA HR2
  have kk0 : (0 : Int) ≤ (k : Int) := by omega
  have kk1 : (k : Int) < (n : Int) := by omega
  have kk2 : ((k : Int)).toNat = k := by omega
  by_cases h1 : xk = yk
  ·
   subst h1
   by_cases h2 : xa = ya
   ·
    subst h2
    by_cases h3 : xu = yu
    ·
     subst h3
     have HY2 := hid (HY.out rfl)
     clear HN HY
     go_wp2_with fail
     go_quiet (fail)
     go_wp2_with fail
     go_roundw
     case rel => exact ⟨k + 1, by omega, by go_num, HY2.out, bD hbl _⟩
     case measure => simp [intOf]; omega
    ·
     have v9 : (xu == yu) = false := by simpa using h3
     have e : r = false := HN.out (fun h => by injection h; contradiction)
     subst e
     clear HN HY
     go_wp2_with fail
     go_quiet (fail)
     go_wp2_with fail
     go_ret
     exact ⟨rfl, bD hbl _⟩
   ·
    have v9 : (xa == ya) = false := by simpa using h2
    have e : r = false := HN.out (fun h => by injection h; contradiction)
    subst e
    clear HN HY
    go_wp2_with fail
    go_quiet (fail)
    go_wp2_with fail
    go_ret
    exact ⟨rfl, bD hbl _⟩
  ·
   have v9 := str_neq h1
   have e : r = false := HN.out (fun h => by injection h; contradiction)
   subst e
   clear HN HY
   go_wp2_with fail
   go_quiet (fail)
   go_wp2_with fail
   go_ret
   exact ⟨rfl, bD hbl _⟩
theorem esame_c (A B : Option Addr) (n c m d : Nat) (L M : List El) (w : World) (hl : ElSl w A n L) (hm : ElSl w B m M) (r : Bool) (hr : Hid (r = sameB L M)) :
  Calls prog 17 #[.slice A n c, .slice B m d] w fun e w' => e = .returned (.bool r) ∧ Below w.heap.size w w' := by
 have K := hid (equal_c A B n c m d L M w hl hm r hr)
 clear hl hm hr
 go_enter func17, ntmps17
 go_wp2_with fail
 refine K.out.mono ?_
 rintro e w1 ⟨rfl, hb1⟩
 go_wp2_with fail
 go_ret
 exact ⟨rfl, hb1⟩
end Go.Proofs.YtiaabmhjkoohmaaGreat
