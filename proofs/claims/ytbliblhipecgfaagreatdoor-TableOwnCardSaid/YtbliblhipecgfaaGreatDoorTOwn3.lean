/-
  Two copies of a table, of which one is written. Conditions as named.
-/
import Derived.Test.YtbliblhipecgfaaGreatDoorTOwn2
namespace Go.Proofs.YtbliblhipecgfaaGreatDoor
set_option linter.unusedVariables false
open Go.RowKit
theorem own_mle {w : World} {base size n c : Nat} {e : TypeId} {A : Option Addr} {xs : List Value} (h : w.ownsRow base e size (.slice A n c) n xs) : n ≤ c ∧ n ≤ 9223372036854775807 := by
  obtain ⟨_, h2 | ⟨g', cap', cur, hv, _, _, h3, h4, _⟩⟩ := h
  · obtain ⟨h2, h3⟩ := h2
    injection h2 with _ h4 h5
    omega
  · injection hv with _ _ hc
    unfold maxLen at h4
    omega
theorem own_blkE {w : World} {base size n c g : Nat} {e : TypeId} {xs : List Value} (h : w.ownsRow base e size (.slice (some ⟨g, 0, none⟩) n c) n xs) : ∃ cur, Blk w g e cur := by
  obtain ⟨_, h2 | ⟨g', cap', cur, hv, _, hg, _⟩⟩ := h
  · cases h2.1
  · injection hv with hA _ _
    injection hA with hA; injection hA with hA
    subst hA
    exact ⟨cur, hg⟩
/-- the one copy is written, the other one stays -/
structure LI (w : World) (sch : List (List Bd)) (cts : List Ct) (kds : List Kd) (lo hi l3 h3 B7 B8 : Nat) (As Ac Ak Bs Bc Bk : Option Addr) (ns cs nc cc nk ck ds dc dk : Nat) (lim rnd : Int) (wr : World) : Prop where
  a : OwnA wr lo hi As Ac Ak ns cs nc cc nk ck
  c : OwnC wr l3 h3 sch cts kds Bs Bc Bk ns ds nc dc nk dk
  k7 : Blk wr B7 26 #[.slice As ns cs, .slice Ac nc cc, .slice Ak nk ck, .int .i64 lim, .int .i64 rnd]
  k8 : Blk wr B8 26 #[.slice Bs ns ds, .slice Bc nc dc, .slice Bk nk dk, .int .i64 lim, .int .i64 rnd]
  ap : hi ≤ l3 ∨ h3 ≤ lo
  n : w.heap.size ≤ lo
  b : Below w.heap.size w wr
section
variable {w wr W' : World} {sch : List (List Bd)} {cts : List Ct} {kds : List Kd} {lo hi l3 h3 B7 B8 : Nat} {As Ac Ak Bs Bc Bk : Option Addr} {ns cs nc cc nk ck ds dc dk : Nat} {lim rnd : Int}
theorem LI.write (h : LI w sch cts kds lo hi l3 h3 B7 B8 As Ac Ak Bs Bc Bk ns cs nc cc nk ck ds dc dk lim rnd wr) {g : Nat} {e : TypeId} {cur : Array Value} (hk : Blk wr g e cur) (h1 : lo ≤ g) (h2 : g < hi) (n1 : 35 ≠ e) (n2 : 37 ≠ e) (n3 : 26 ≠ e) (j : Nat) (u : Value) : LI w sch cts kds lo hi l3 h3 B7 B8 As Ac Ak Bs Bc Bk ns cs nc cc nk ck ds dc dk lim rnd (wr.setCell ⟨g, j, none⟩ u) := by
  have d7 : B7 ≠ g := h.k7.differ hk n3
  have d8 : B8 ≠ g := h.k8.differ hk n3
  exact ⟨h.a.set hk n1 n2 j u, h.c.apart (by rcases h.ap with h3 | h3 <;> omega) j u, h.k7.setO d7 j u, h.k8.setO d8 j u, h.ap, h.n, bS h.b (Nat.le_trans h.n h1) u⟩
theorem LI.drew (h : LI w sch cts kds lo hi l3 h3 B7 B8 As Ac Ak Bs Bc Bk ns cs nc cc nk ck ds dc dk lim rnd wr) : LI w sch cts kds lo hi l3 h3 B7 B8 As Ac Ak Bs Bc Bk ns cs nc cc nk ck ds dc dk lim rnd wr.drew := ⟨h.a.below (b0 _).drew, h.c.below (b0 _).drew, h.k7, h.k8, h.ap, h.n, h.b.drew⟩
/-- a row of slices of bands, at a place of a block -/
structure IS (w : World) (sch : List (List Bd)) (cts : List Ct) (kds : List Kd) (lo hi l3 h3 B7 B8 : Nat) (As Ac Ak Bs Bc Bk : Option Addr) (ns cs nc cc nk ck ds dc dk : Nat) (lim rnd : Int) (t : TypeId) (off g : Nat) (A : Option Addr) (m c : Nat) (wr : World) : Prop where
  li : LI w sch cts kds lo hi l3 h3 B7 B8 As Ac Ak Bs Bc Bk ns cs nc cc nk ck ds dc dk lim rnd wr
  cell : wr.cell? ⟨g, off, none⟩ = some (.slice A m c)
  row : RowA wr lo hi 63 3 (.slice A m c) m
  blk : ∃ cur, Blk wr g t cur
theorem IS.step {t : TypeId} {off g m c : Nat} {A : Option Addr} (h : IS w sch cts kds lo hi l3 h3 B7 B8 As Ac Ak Bs Bc Bk ns cs nc cc nk ck ds dc dk lim rnd t off g A m c wr) (ht : t ≠ 63) (k d : Nat) (hk : k < m) (hd : d < 3) (v : Value) : ∃ g2, A = some ⟨g2, 0, none⟩ ∧ (∃ u, wr.cell? ⟨g2, k * 3 + d, none⟩ = some u) ∧ wr.frozen? ⟨g2, k * 3 + d, none⟩ = false ∧ IS w sch cts kds lo hi l3 h3 B7 B8 As Ac Ak Bs Bc Bk ns cs nc cc nk ck ds dc dk lim rnd t off g A m c (wr.setCell ⟨g2, k * 3 + d, none⟩ v) := by
  obtain ⟨g2, c2, cur, hv, h1, h2, h3, hb, hcs, hf⟩ := h.row.at (by omega) (by decide)
  injection hv with hA _ hc
  obtain ⟨cur0, hb0⟩ := h.blk
  have hne : g ≠ g2 := hb0.differ hb ht
  refine ⟨g2, hA, hcs _ (by omega), hf _, h.li.write hb h1 h2 (by decide) (by decide) (by decide) _ _, ?_, h.row.set _ _ _, ⟨cur0, hb0.setO hne _ _⟩⟩
  rw [(hb0.setO hne _ _).cell, ← hb0.cell]; exact h.cell
theorem LI.scr (h : LI w sch cts kds lo hi l3 h3 B7 B8 As Ac Ak Bs Bc Bk ns cs nc cc nk ck ds dc dk lim rnd wr) (i : Nat) (hi' : i < ns) : ∃ g A m c, As = some ⟨g, 0, none⟩ ∧ (m ≤ c ∧ m ≤ 9223372036854775807) ∧ ns ≤ cs ∧ IS w sch cts kds lo hi l3 h3 B7 B8 As Ac Ak Bs Bc Bk ns cs nc cc nk ck ds dc dk lim rnd 35 i g A m c wr := by
  obtain ⟨ls, e1, o1, g1, b1⟩ := h.a.s
  obtain ⟨g, cap, hv, hlo, hlt, hcap, ho⟩ := own_form o1 (by omega)
  injection hv with hA _ hc
  subst hA hc
  have hil : i < ls.length := by omega
  have hmem := getD_mem (d := scp0) hil
  have hat : (ls.flatMap scPC)[i]? = some (.slice (ls.getD i scp0).A (ls.getD i scp0).m (ls.getD i scp0).c) := by
    have hr : ∀ (l : List ScP) (j : Nat), j < l.length → (l.flatMap scPC)[j]? = some (.slice (l.getD j scp0).A (l.getD j scp0).m (l.getD j scp0).c) := by
      intro l
      induction l with
      | nil => intro j hj; simp at hj
      | cons x l ih =>
        intro j hj
        cases j with
        | zero => rfl
        | succ j => simpa [scPC] using ih j (by simpa using hj)
    exact hr ls i hil
  have hrow := b1 _ hmem
  refine ⟨g, _, _, _, rfl, ?_, hcap, h, ?_, hrow, ?_⟩
  · obtain ⟨⟨xs, hx⟩, _⟩ := hrow
    exact own_mle hx
  · rw [ho.cellAt i (by omega), hat]
  · exact own_blkE ho
theorem ct_at (l : List CtP) (j : Nat) (hj : j < l.length) : (l.flatMap ctPC)[j * 6]? = some (.string (l.getD j ctp0).x.nm) ∧ (l.flatMap ctPC)[j * 6 + 2]? = some (.slice (l.getD j ctp0).A (l.getD j ctp0).m (l.getD j ctp0).c) := by
  induction l generalizing j with
  | nil => simp at hj
  | cons x l ih =>
    cases j with
    | zero => exact ⟨rfl, rfl⟩
    | succ j =>
      have := ih j (by simpa using hj)
      rw [List.flatMap_cons, List.getElem?_append_right (by rw [ctPC_len]; omega), List.getElem?_append_right (by rw [ctPC_len]; omega), ctPC_len, show (j + 1) * 6 - 6 = j * 6 by omega, show (j + 1) * 6 + 2 - 6 = j * 6 + 2 by omega]
      simpa using this
theorem LI.ctr (h : LI w sch cts kds lo hi l3 h3 B7 B8 As Ac Ak Bs Bc Bk ns cs nc cc nk ck ds dc dk lim rnd wr) (i : Nat) (hi' : i < nc) : ∃ g A m c, Ac = some ⟨g, 0, none⟩ ∧ (m ≤ c ∧ m ≤ 9223372036854775807) ∧ nc ≤ cc ∧ IS w sch cts kds lo hi l3 h3 B7 B8 As Ac Ak Bs Bc Bk ns cs nc cc nk ck ds dc dk lim rnd 37 (i * 6 + 2) g A m c wr := by
  obtain ⟨lc, e1, o1, g1, b1⟩ := h.a.c
  obtain ⟨g, cap, hv, hlo, hlt, hcap, ho⟩ := own_form o1 (by omega)
  injection hv with hA _ hc
  subst hA hc
  have hil : i < lc.length := by omega
  have hrow := b1 _ (getD_mem (d := ctp0) hil)
  refine ⟨g, _, _, _, rfl, ?_, hcap, h, ?_, hrow, own_blkE ho⟩
  · obtain ⟨⟨xs, hx⟩, _⟩ := hrow
    exact own_mle hx
  · rw [ho.cellAt (i * 6 + 2) (by omega), (ct_at lc i hil).2]
/-- a contribution's name, written -/
theorem LI.nmr (h : LI w sch cts kds lo hi l3 h3 B7 B8 As Ac Ak Bs Bc Bk ns cs nc cc nk ck ds dc dk lim rnd wr) (i : Nat) (hi' : i < nc) (s : ByteArray) : ∃ g, Ac = some ⟨g, 0, none⟩ ∧ nc ≤ cc ∧ (∃ u, wr.cell? ⟨g, i * 6, none⟩ = some u) ∧ wr.frozen? ⟨g, i * 6, none⟩ = false ∧ LI w sch cts kds lo hi l3 h3 B7 B8 As Ac Ak Bs Bc Bk ns cs nc cc nk ck ds dc dk lim rnd (wr.setCell ⟨g, i * 6, none⟩ (.string s)) := by
  obtain ⟨lc, e1, o1, g1, b1⟩ := h.a.c
  obtain ⟨g, cap, hv, hlo, hlt, hcap, ho⟩ := own_form o1 (by omega)
  injection hv with hA _ hc
  subst hA hc
  have hil : i < lc.length := by omega
  obtain ⟨cur, hk⟩ := own_blkE ho
  have hgh := g1 g rfl
  have d7 : B7 ≠ g := h.k7.differ hk (by decide)
  have d8 : B8 ≠ g := h.k8.differ hk (by decide)
  refine ⟨g, rfl, hcap, ⟨_, by rw [ho.cellAt (i * 6) (by omega), (ct_at lc i hil).1]⟩, hk.free _, h.a.name hk i hi' s, h.c.apart (by rcases h.ap with h3 | h3 <;> omega) _ _, h.k7.setO d7 _ _, h.k8.setO d8 _ _, h.ap, h.n, bS h.b (Nat.le_trans h.n hlo) _⟩
/-- a kind's first number, written -/
theorem LI.kdr (h : LI w sch cts kds lo hi l3 h3 B7 B8 As Ac Ak Bs Bc Bk ns cs nc cc nk ck ds dc dk lim rnd wr) (i : Nat) (hi' : i < nk) (v : Value) : ∃ g, Ak = some ⟨g, 0, none⟩ ∧ nk ≤ ck ∧ (∃ u, wr.cell? ⟨g, i * 4 + 1, none⟩ = some u) ∧ wr.frozen? ⟨g, i * 4 + 1, none⟩ = false ∧ LI w sch cts kds lo hi l3 h3 B7 B8 As Ac Ak Bs Bc Bk ns cs nc cc nk ck ds dc dk lim rnd (wr.setCell ⟨g, i * 4 + 1, none⟩ v) := by
  obtain ⟨g2, c2, cur, hv, h1, h2, h3, hb, hcs, hf⟩ := h.a.k.at (by omega) (by decide)
  obtain ⟨⟨xs, hx⟩, _⟩ := h.a.k
  injection hv with hA _ hc
  exact ⟨g2, hA, (own_mle hx).1, hcs _ (by omega), hf _, h.write hb h1 h2 (by decide) (by decide) (by decide) _ _⟩
/-- a contribution's name, written, and where its bands lie then -/
theorem LI.nm2 (h : LI w sch cts kds lo hi l3 h3 B7 B8 As Ac Ak Bs Bc Bk ns cs nc cc nk ck ds dc dk lim rnd wr) (i : Nat) (hi' : i < nc) (s : ByteArray) : ∃ g A m c, Ac = some ⟨g, 0, none⟩ ∧ (m ≤ c ∧ m ≤ 9223372036854775807) ∧ nc ≤ cc ∧ (∃ u, wr.cell? ⟨g, i * 6, none⟩ = some u) ∧ wr.frozen? ⟨g, i * 6, none⟩ = false ∧ wr.cell? ⟨g, i * 6 + 2, none⟩ = some (.slice A m c) ∧ IS w sch cts kds lo hi l3 h3 B7 B8 As Ac Ak Bs Bc Bk ns cs nc cc nk ck ds dc dk lim rnd 37 (i * 6 + 2) g A m c (wr.setCell ⟨g, i * 6, none⟩ (.string s)) := by
  obtain ⟨g, hA, hcc, hu, hf, hn⟩ := h.nmr i hi' s
  obtain ⟨g', A, m, c, hA', hm, _, hs⟩ := hn.ctr i hi'
  rw [hA] at hA'
  injection hA' with hA'; injection hA' with hA'
  subst hA'
  refine ⟨g, A, m, c, hA, hm, hcc, hu, hf, ?_, hs⟩
  obtain ⟨lc, e1, o1, g1, b1⟩ := h.a.c
  subst hA
  obtain ⟨cur, hk⟩ := own_blkE o1
  have := hs.cell
  rw [(hk.setJ (i * 6) (.string s)).cell, Array.getElem?_setIfInBounds_ne (by omega)] at this
  rw [hk.cell]; exact this
end
/-! ### names, looked for from the last one on -/
def fX (l : List Ct) (nm : ByteArray) (k : Nat) : Int := match (l.drop k).findIdx? (fun x => decide (x.nm = nm)) with
  | some j => ((k + j : Nat) : Int)
  | none => -1
theorem drop_get {α : Type} {l : List α} {d : α} {k : Nat} (h : k < l.length) : l.drop k = l.getD k d :: l.drop (k + 1) := by
  rw [List.drop_eq_getElem_cons h, getD_get h]
theorem fX_end {l : List Ct} {nm : ByteArray} : fX l nm l.length = -1 := by unfold fX; simp
theorem fX_yes {l : List Ct} {nm : ByteArray} {k : Nat} (hk : k < l.length) (h : (l.getD k ct0).nm = nm) : fX l nm k = k := by
  unfold fX
  rw [drop_get (d := ct0) hk]
  generalize l.getD k ct0 = x at h
  simp [List.findIdx?_cons, h]
theorem fX_no {l : List Ct} {nm : ByteArray} {k : Nat} (hk : k < l.length) (h : (l.getD k ct0).nm ≠ nm) : fX l nm k = fX l nm (k + 1) := by
  unfold fX
  rw [drop_get (d := ct0) hk, List.findIdx?_cons]
  generalize l.getD k ct0 = x at h
  simp only [h, decide_false]
  cases hf : (l.drop (k + 1)).findIdx? (fun x => decide (x.nm = nm)) with
  | none => simp
  | some j => simp; omega
theorem fX_zero {l : List Ct} {nm : ByteArray} : fX l nm 0 = nmX Ct.nm l nm := by
  unfold fX nmX
  rw [List.drop_zero]
  cases l.findIdx? (fun x => decide (x.nm = nm)) <;> simp
theorem kdx_end {l : List Kd} {nm : ByteArray} : kdX (l.drop l.length) nm = kd0 ∧ kdE (l.drop l.length) nm = 110 := by simp [kdX, kdE]
theorem kdx_yes {l : List Kd} {nm : ByteArray} {k : Nat} (hk : k < l.length) (h : (l.getD k kd0).nm = nm) : kdX (l.drop k) nm = l.getD k kd0 ∧ kdE (l.drop k) nm = 0 := by
  unfold kdX kdE
  rw [drop_get (d := kd0) hk]
  generalize l.getD k kd0 = x at h
  simp [h]
theorem kdx_no {l : List Kd} {nm : ByteArray} {k : Nat} (hk : k < l.length) (h : (l.getD k kd0).nm ≠ nm) : kdX (l.drop k) nm = kdX (l.drop (k + 1)) nm ∧ kdE (l.drop k) nm = kdE (l.drop (k + 1)) nm := by
  unfold kdX kdE
  rw [drop_get (d := kd0) hk]
  generalize l.getD k kd0 = x at h
  simp [h]
end Go.Proofs.YtbliblhipecgfaaGreatDoor
