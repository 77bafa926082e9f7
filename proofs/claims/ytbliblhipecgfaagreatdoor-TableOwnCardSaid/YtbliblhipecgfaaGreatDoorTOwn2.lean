/-
  A table's copy between two bounds. Conditions as named.
-/
import Derived.Test.YtbliblhipecgfaaGreatDoorTOwn
import Derived.Test.YtbliblhipecgfaaGreatDoorReg
namespace Go.Proofs.YtbliblhipecgfaaGreatDoor
set_option linter.unusedVariables false
open Go.RowKit
/-- a row between two bounds -/
def RowC (w : World) (lo hi : Nat) (e : TypeId) (size : Nat) (v : Value) (n : Nat) (xs : List Value) : Prop := w.ownsRow lo e size v n xs ∧ ∀ g, v.ownBlock = some g → g < hi
section
variable {w w' : World} {lo hi size n : Nat} {e : TypeId} {v : Value} {xs : List Value}
theorem RowC.below (h : RowC w lo hi e size v n xs) (hb : Below w.heap.size w w') : RowC w' lo hi e size v n xs := ⟨own_below h.1 hb, h.2⟩
theorem RowC.setO (h : RowC w lo hi e size v n xs) {g : Nat} {t : TypeId} {cs : Array Value} (hk : Blk w g t cs) (hne : e ≠ t) (j : Nat) (u : Value) : RowC (w.setCell ⟨g, j, none⟩ u) lo hi e size v n xs := ⟨own_setO h.1 hk hne j u, h.2⟩
theorem RowC.apart (h : RowC w lo hi e size v n xs) {g : Nat} (hg : g < lo ∨ hi ≤ g) (j : Nat) (u : Value) : RowC (w.setCell ⟨g, j, none⟩ u) lo hi e size v n xs := by
  refine ⟨h.1.kept (grown_setJ w g j u) ?_, h.2⟩
  cases hv : v.ownBlock with
  | none => exact Or.inl rfl
  | some g' =>
    refine Or.inr fun he => ?_
    injection he with he
    have h1 := h.2 g' hv
    have h2 := (h.1.lt g' hv).1
    omega
theorem RowC.of (h : w.ownsRow lo e size v n xs) : RowC w lo w.heap.size e size v n xs := ⟨h, fun g hg => (h.lt g hg).2⟩
theorem RowC.a (h : RowC w lo hi e size v n xs) : RowA w lo hi e size v n := ⟨⟨xs, h.1⟩, h.2⟩
end
/-- a copy between two bounds -/
structure OwnC (w : World) (lo hi : Nat) (sch : List (List Bd)) (cts : List Ct) (kds : List Kd) (As Ac Ak : Option Addr) (ns cs nc cc nk ck : Nat) : Prop where
  s : ∃ ls : List ScP, ls.map ScP.x = sch ∧ RowC w lo hi 35 1 (.slice As ns cs) ns (ls.flatMap scPC) ∧ ∀ p ∈ ls, p.m = p.x.length ∧ RowC w lo hi 63 3 (.slice p.A p.m p.c) p.m (p.x.flatMap bdC)
  c : ∃ lc : List CtP, lc.map CtP.x = cts ∧ RowC w lo hi 37 6 (.slice Ac nc cc) nc (lc.flatMap ctPC) ∧ ∀ p ∈ lc, (p.m = p.x.bands.length ∧ RowC w lo hi 63 3 (.slice p.A p.m p.c) p.m (p.x.bands.flatMap bdC)) ∧ p.x.nm.size ≤ 9223372036854775807
  k : RowC w lo hi 60 4 (.slice Ak nk ck) nk (kds.flatMap kdC) ∧ ∀ p ∈ kds, p.nm.size ≤ 9223372036854775807
section
variable {w w' : World} {lo hi ns cs nc cc nk ck : Nat} {sch : List (List Bd)} {cts : List Ct} {kds : List Kd} {As Ac Ak : Option Addr}
theorem OwnT.c_ (h : OwnT w lo sch cts kds As Ac Ak ns cs nc cc nk ck) : OwnC w lo w.heap.size sch cts kds As Ac Ak ns cs nc cc nk ck := by
  obtain ⟨⟨ls, e1, o1, b1⟩, ⟨lc, e2, o2, b2⟩, o3, b3⟩ := h
  exact ⟨⟨ls, e1, .of o1, fun p hp => ⟨(b1 p hp).1, .of (b1 p hp).2⟩⟩, ⟨lc, e2, .of o2, fun p hp => ⟨⟨(b2 p hp).1.1, .of (b2 p hp).1.2⟩, (b2 p hp).2⟩⟩, .of o3, b3⟩
theorem OwnC.t (h : OwnC w lo hi sch cts kds As Ac Ak ns cs nc cc nk ck) : OwnT w lo sch cts kds As Ac Ak ns cs nc cc nk ck := by
  obtain ⟨⟨ls, e1, o1, b1⟩, ⟨lc, e2, o2, b2⟩, o3, b3⟩ := h
  exact ⟨⟨ls, e1, o1.1, fun p hp => ⟨(b1 p hp).1, (b1 p hp).2.1⟩⟩, ⟨lc, e2, o2.1, fun p hp => ⟨⟨(b2 p hp).1.1, (b2 p hp).1.2.1⟩, (b2 p hp).2⟩⟩, o3.1, b3⟩
theorem OwnC.a (h : OwnC w lo hi sch cts kds As Ac Ak ns cs nc cc nk ck) : OwnA w lo hi As Ac Ak ns cs nc cc nk ck := by
  have hl := h.t.len
  obtain ⟨⟨ls, e1, o1, b1⟩, ⟨lc, e2, o2, b2⟩, o3, b3⟩ := h
  exact ⟨⟨ls, by rw [hl.1, ← e1, List.length_map], o1.1, o1.2, fun p hp => (b1 p hp).2.a⟩, ⟨lc, by rw [hl.2.1, ← e2, List.length_map], o2.1, o2.2, fun p hp => (b2 p hp).1.2.a⟩, o3.a⟩
theorem OwnC.below (h : OwnC w lo hi sch cts kds As Ac Ak ns cs nc cc nk ck) (hb : Below w.heap.size w w') : OwnC w' lo hi sch cts kds As Ac Ak ns cs nc cc nk ck := by
  obtain ⟨⟨ls, e1, o1, b1⟩, ⟨lc, e2, o2, b2⟩, o3, b3⟩ := h
  exact ⟨⟨ls, e1, o1.below hb, fun p hp => ⟨(b1 p hp).1, (b1 p hp).2.below hb⟩⟩, ⟨lc, e2, o2.below hb, fun p hp => ⟨⟨(b2 p hp).1.1, (b2 p hp).1.2.below hb⟩, (b2 p hp).2⟩⟩, o3.below hb, b3⟩
theorem OwnC.apart (h : OwnC w lo hi sch cts kds As Ac Ak ns cs nc cc nk ck) {g : Nat} (hg : g < lo ∨ hi ≤ g) (j : Nat) (u : Value) : OwnC (w.setCell ⟨g, j, none⟩ u) lo hi sch cts kds As Ac Ak ns cs nc cc nk ck := by
  obtain ⟨⟨ls, e1, o1, b1⟩, ⟨lc, e2, o2, b2⟩, o3, b3⟩ := h
  exact ⟨⟨ls, e1, o1.apart hg j u, fun p hp => ⟨(b1 p hp).1, (b1 p hp).2.apart hg j u⟩⟩, ⟨lc, e2, o2.apart hg j u, fun p hp => ⟨⟨(b2 p hp).1.1, (b2 p hp).1.2.apart hg j u⟩, (b2 p hp).2⟩⟩, o3.apart hg j u, b3⟩
/-- a struct's variable of another type, written -/
theorem OwnC.var (h : OwnC w lo hi sch cts kds As Ac Ak ns cs nc cc nk ck) {g : Nat} {x : Array Value} (hk : Blk w g 26 x) (j : Nat) (u : Value) : OwnC (w.setCell ⟨g, j, none⟩ u) lo hi sch cts kds As Ac Ak ns cs nc cc nk ck := by
  obtain ⟨⟨ls, e1, o1, b1⟩, ⟨lc, e2, o2, b2⟩, o3, b3⟩ := h
  exact ⟨⟨ls, e1, o1.setO hk (by decide) j u, fun p hp => ⟨(b1 p hp).1, (b1 p hp).2.setO hk (by decide) j u⟩⟩, ⟨lc, e2, o2.setO hk (by decide) j u, fun p hp => ⟨⟨(b2 p hp).1.1, (b2 p hp).1.2.setO hk (by decide) j u⟩, (b2 p hp).2⟩⟩, o3.setO hk (by decide) j u, b3⟩
/-- five cells of a struct's variable -/
def put5 (w : World) (B : Nat) (a b c d e : Value) : World := ((((w.setCell ⟨B, 0, none⟩ a).setCell ⟨B, 1, none⟩ b).setCell ⟨B, 2, none⟩ c).setCell ⟨B, 3, none⟩ d).setCell ⟨B, 4, none⟩ e
theorem Blk.five {g : Nat} {t : TypeId} {a b c d e a' b' c' d' e' : Value} (h : Blk w g t #[a, b, c, d, e]) : Blk (put5 w g a' b' c' d' e') g t #[a', b', c', d', e'] := ((((h.setJ 0 a').setJ 1 b').setJ 2 c').setJ 3 d').setJ 4 e'
theorem Blk.five0 {g g0 : Nat} {t : TypeId} {x : Array Value} {a' b' c' d' e' : Value} (h : Blk w g t x) (hne : g ≠ g0) : Blk (put5 w g0 a' b' c' d' e') g t x := ((((h.setO hne 0 a').setO hne 1 b').setO hne 2 c').setO hne 3 d').setO hne 4 e'
theorem OwnC.five (h : OwnC w lo hi sch cts kds As Ac Ak ns cs nc cc nk ck) {g : Nat} {a b c d e a' b' c' d' e' : Value} (hk : Blk w g 26 #[a, b, c, d, e]) : OwnC (put5 w g a' b' c' d' e') lo hi sch cts kds As Ac Ak ns cs nc cc nk ck :=
  ((((h.var hk 0 a').var (hk.setJ 0 a') 1 b').var ((hk.setJ 0 a').setJ 1 b') 2 c').var (((hk.setJ 0 a').setJ 1 b').setJ 2 c') 3 d').var ((((hk.setJ 0 a').setJ 1 b').setJ 2 c').setJ 3 d') 4 e'
theorem bS5 {w0 W : World} (h : Below w0.heap.size w0 W) {B : Nat} (hB : w0.heap.size ≤ B) {a b c d e : Value} : Below w0.heap.size w0 (put5 W B a b c d e) := bS (bS (bS (bS (bS h hB _) hB _) hB _) hB _) hB _
theorem size5 {w : World} {B : Nat} {a b c d e : Value} : (put5 w B a b c d e).heap.size = w.heap.size := by simp [put5]
end
end Go.Proofs.YtbliblhipecgfaaGreatDoor
