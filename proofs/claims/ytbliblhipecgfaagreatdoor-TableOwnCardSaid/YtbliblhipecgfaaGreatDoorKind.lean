/-
  Contract of table.Kind. Conditions as named.
-/
import Derived.Test.YtbliblhipecgfaaGreatDoorM1
import Derived.Test.YtbliblhipecgfaaGreatDoorM0
namespace Go.Proofs.YtbliblhipecgfaaGreatDoor
set_option linter.unusedVariables false
open Go.RowKit
/-- the kind of a name, if there is one -/
def kdX (l : List Kd) (nm : ByteArray) : Kd := (l.find? fun x => decide (x.nm = nm)).getD kd0
def kdE (l : List Kd) (nm : ByteArray) : Int := if l.any (fun x => decide (x.nm = nm)) = true then 0 else 110
theorem kd_at {l : List Kd} {nm : ByteArray} {k : Nat} (hk : k < l.length) (h1 : (l.getD k kd0).nm = nm) (h2 : ∀ j, j < k → (l.getD j kd0).nm ≠ nm) : kdX l nm = l.getD k kd0 ∧ kdE l nm = 0 := by
  unfold kdX kdE
  constructor
  · induction l generalizing k with
    | nil => simp at hk
    | cons x l ih =>
      cases k with
      | zero =>
        have : x.nm = nm := h1
        simp [this]
      | succ k =>
        have h0 : x.nm ≠ nm := h2 0 (by omega)
        have := ih (k := k) (by simpa using hk) (by simpa using h1) (fun j hj => by simpa using h2 (j + 1) (by omega))
        simp only [List.find?_cons, decide_eq_false h0]
        simpa using this
  · rw [if_pos]
    rw [List.any_eq_true]
    refine ⟨l[k], List.getElem_mem hk, ?_⟩
    have e : l.getD k kd0 = l[k] := by simp [List.getD, List.getElem?_eq_getElem hk]
    rw [e] at h1
    simpa using h1
theorem kd_no {l : List Kd} {nm : ByteArray} (h : ∀ j, j < l.length → (l.getD j kd0).nm ≠ nm) : kdX l nm = kd0 ∧ kdE l nm = 110 := by
  have h' : ∀ x ∈ l, x.nm ≠ nm := fun x hx => by
    obtain ⟨j, hj, rfl⟩ := List.getElem_of_mem hx
    have := h j hj
    rwa [show l.getD j kd0 = l[j] by simp [List.getD, List.getElem?_eq_getElem hj]] at this
  unfold kdX kdE
  constructor
  · rw [List.find?_eq_none.2 (fun x hx => by simpa using h' x hx)]; rfl
  · rw [if_neg]
    rw [List.any_eq_true]
    rintro ⟨x, hx, e⟩
    exact h' x hx (by simpa using e)
theorem str_neqk {a b : ByteArray} (h : a ≠ b) : (a.toList == b.toList) = false := by
  rw [beq_eq_false_iff_ne]
  intro e
  rw [ByteArray.toList_eq, ByteArray.toList_eq] at e
  apply h
  cases a; cases b
  simp at e
  rw [e]
theorem Blk.a4f {w : World} {g : Nat} {t : TypeId} {a b c d : Value} (h : Blk w g t #[a, b, c, d]) : (w.cell? ⟨g, 0, none⟩ = some a ∧ w.cell? ⟨g, 1, none⟩ = some b ∧ w.cell? ⟨g, 2, none⟩ = some c ∧ w.cell? ⟨g, 3, none⟩ = some d) ∧
    w.frozen? ⟨g, 0, none⟩ = false ∧ w.frozen? ⟨g, 1, none⟩ = false ∧ w.frozen? ⟨g, 2, none⟩ = false ∧ w.frozen? ⟨g, 3, none⟩ = false :=
  ⟨⟨h.cell 0, h.cell 1, h.cell 2, h.cell 3⟩, h.free 0, h.free 1, h.free 2, h.free 3⟩
--%%
set_option maxRecDepth 100000 in
set_option maxHeartbeats 1600000 in
theorem kind_c (kds : List Kd) (As Ac Ak : Option Addr) (ns cs nc cc nk ck : Nat) (lim rnd : Int) (nm : ByteArray) (w : World) (hs : KdSl w Ak nk kds) (rx : Kd) (re : Int) (hx : Hid (rx = kdX kds nm)) (he : Hid (re = kdE kds nm)) :
    Calls Tryz.prog 26 #[.agg #[.slice As ns cs, .slice Ac nc cc, .slice Ak nk ck, .int .i64 lim, .int .i64 rnd], .string nm] w fun e w' => e = .returned (.tuple #[.agg #[.string rx.nm, .int .i64 rx.c, .int .i64 rx.t, .int .i64 rx.s], .int .i64 re]) ∧ Below w.heap.size w w' := by
  have hb0 := bA (below1 w (.cells #[.slice As ns cs, .slice Ac nc cc, .slice Ak nk ck, .int .i64 lim, .int .i64 rnd] 26)) (.cells #[.string ⟨#[]⟩, .int .i64 0, .int .i64 0, .int .i64 0] 60)
  have y := (Blk.mk w 26 #[.slice As ns cs, .slice Ac nc cc, .slice Ak nk ck, .int .i64 lim, .int .i64 rnd]).alloc (.cells #[.string ⟨#[]⟩, .int .i64 0, .int .i64 0, .int .i64 0] 60)
  have z := Blk.mk (w.alloc (.cells #[.slice As ns cs, .slice Ac nc cc, .slice Ak nk ck, .int .i64 lim, .int .i64 rnd] 26)) 60 #[.string ⟨#[]⟩, .int .i64 0, .int .i64 0, .int .i64 0]
  have HS := Lib.hid (KdSl.below hs hb0)
  have hn9 := hs.2.1
  have HN : Hid (nk = kds.length) := hs.1
  have q2 := y.cell 2
  have HZ : Hid (∀ W, Below ((w.alloc (.cells #[.slice As ns cs, .slice Ac nc cc, .slice Ak nk ck, .int .i64 lim, .int .i64 rnd] 26)).alloc (.cells #[.string ⟨#[]⟩, .int .i64 0, .int .i64 0, .int .i64 0] 60)).heap.size ((w.alloc (.cells #[.slice As ns cs, .slice Ac nc cc, .slice Ak nk ck, .int .i64 lim, .int .i64 rnd] 26)).alloc (.cells #[.string ⟨#[]⟩, .int .i64 0, .int .i64 0, .int .i64 0] 60)) W → Blk W (w.heap.size + 1) 60 #[.string ⟨#[]⟩, .int .i64 0, .int .i64 0, .int .i64 0]) := fun W h => by
    have := z.t h
    simpa using this
  clear hs
  go_enter Tryz.func26, Tryz.ntmps26
  go_wp2_with fail
  clear q2
  go_loopw [11] (fun i wr => ∃ k : Nat, k ≤ nk ∧ i = .int .i64 k ∧ Hid (∀ j, j < k → (kds.getD j kd0).nm ≠ nm) ∧ Below ((w.alloc (.cells #[.slice As ns cs, .slice Ac nc cc, .slice Ak nk ck, .int .i64 lim, .int .i64 rnd] 26)).alloc (.cells #[.string ⟨#[]⟩, .int .i64 0, .int .i64 0, .int .i64 0] 60)).heap.size ((w.alloc (.cells #[.slice As ns cs, .slice Ac nc cc, .slice Ak nk ck, .int .i64 lim, .int .i64 rnd] 26)).alloc (.cells #[.string ⟨#[]⟩, .int .i64 0, .int .i64 0, .int .i64 0] 60)) wr) (fun i _ => nk - (intOf i).toNat)
  case atStart => exact ⟨0, Nat.zero_le _, rfl, fun j hj => absurd hj (by omega), b0 _⟩
  case round =>
    obtain ⟨k, hk', rfl, HA, hbl⟩ := hrel
    have hBl := bT hb0 hbl
    have hsz := hBl.size
    have z1 := HZ.out wr hbl
    have hzl := z1.lt
    have hzne : w.heap.size + 1 ≠ wr.heap.size := Nat.ne_of_lt hzl
    by_cases hk : k < nk
    case neg =>
      obtain rfl : k = nk := by omega
      obtain ⟨e1, e2⟩ := kd_no (l := kds) (nm := nm) (by rw [← HN.out]; exact HA.out)
      obtain rfl : rx = kd0 := hx.out.trans e1
      obtain rfl : re = 110 := he.out.trans e2
      obtain ⟨⟨p0, p1, p2, p3⟩, f0, f1, f2, f3⟩ := z1.a4f
      clear e1 e2 hx he
      go_wp2_with fail
      refine bodyPost_ret (v := .tuple #[.agg #[.string ⟨#[]⟩, .int .i64 0, .int .i64 0, .int .i64 0], .int .i64 110]) (by simp [results, Tryz.results26, go_sem, p0, p1, p2, p3]) rfl ⟨rfl, ?_⟩
      exact bS (bS (bS (bS hBl (Nat.le_succ _) _) (Nat.le_succ _) _) (Nat.le_succ _) _) (Nat.le_succ _) _
    obtain ⟨b, off, rfl, hlt, hat⟩ := (HS.out.below hbl).2.2 (by omega)
    obtain ⟨c0, _, c1, c2, c3⟩ := hat k hk
    have HKX : Hid ((kds.getD k kd0).nm = nm → rx = kds.getD k kd0 ∧ re = 0) := fun h => by
      obtain ⟨e1, e2⟩ := kd_at (by rw [← HN.out]; exact hk) h HA.out
      exact ⟨hx.out.trans e1, he.out.trans e2⟩
    have HA2 : Hid ((kds.getD k kd0).nm ≠ nm → ∀ j, j < k + 1 → (kds.getD j kd0).nm ≠ nm) := fun h j hj => by
      rcases (by omega : j = k ∨ j < k) with rfl | hj
      · exact h
      · exact HA.out j hj
    generalize kds.getD k kd0 = x at *
    obtain ⟨xn, xc, xt, xs⟩ := x
    dsimp only at c0 c1 c2 c3
    have hbx := bA hbl (.cells #[.string xn, .int .i64 xc, .int .i64 xt, .int .i64 xs] 60)
    have x1 := Blk.mk wr 60 #[.string xn, .int .i64 xc, .int .i64 xt, .int .i64 xs]
    have z2 := z1.alloc (.cells #[.string xn, .int .i64 xc, .int .i64 xt, .int .i64 xs] 60)
    clear hat
    by_cases hy : xn = nm
    · obtain ⟨rfl, rfl⟩ := HKX.out hy
      have v1 : (xn.toList == nm.toList) = true := by rw [hy]; simp
      obtain ⟨⟨p0, p1, p2, p3⟩, f0, f1, f2, f3⟩ := z1.a4f
      clear hy hx he HKX HA2
      go_wp2_with fail
      refine bodyPost_ret (v := .tuple #[.agg #[.string xn, .int .i64 xc, .int .i64 xt, .int .i64 xs], .int .i64 0]) (by simp [results, Tryz.results26, go_sem, cell_alloc, p0, p1, p2, p3, hzne]) rfl ⟨rfl, ?_⟩
      exact bA (bS (bS (bS (bS hBl (Nat.le_succ _) _) (Nat.le_succ _) _) (Nat.le_succ _) _) (Nat.le_succ _) _) _
    · have v1 := str_neqk hy
      have HA3 := Lib.hid (HA2.out hy)
      clear hy HKX HA2
      go_wp2_with fail
      go_roundw
      case rel => exact ⟨k + 1, by omega, by go_num, HA3.out, hbx⟩
      case measure => simp [intOf]; omega
--%%
end Go.Proofs.YtbliblhipecgfaaGreatDoor
