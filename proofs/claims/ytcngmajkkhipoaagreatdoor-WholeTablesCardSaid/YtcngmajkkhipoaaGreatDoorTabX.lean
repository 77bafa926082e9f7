/-
  Contracts of table.Check and its parts, exact: the error's number itself. Conditions as named.
-/
import Derived.Test.YtcngmajkkhipoaaGreatDoorTable5
import Derived.Test.YtcngmajkkhipoaaGreatDoorKind
namespace Go.Proofs.YtcngmajkkhipoaaGreatDoor
set_option linter.unusedVariables false
open Go.RowKit
theorem str_dec (a b : ByteArray) : (a.toList == b.toList) = decide (a = b) := by
  by_cases h : a = b
  · subst h; simp
  · rw [decide_eq_false h, str_neqk h]
theorem getD_get {α : Type} {l : List α} {d : α} {k : Nat} (h : k < l.length) : l.getD k d = l[k] := by simp [List.getD, List.getElem?_eq_getElem h]
/-- the number of the first of a name; -1: none -/
def nmX {α : Type} (f : α → ByteArray) (l : List α) (nm : ByteArray) : Int := match l.findIdx? (fun x => decide (f x = nm)) with
  | some k => (k : Int)
  | none => -1
theorem nmX_at {α : Type} {f : α → ByteArray} {d : α} {l : List α} {nm : ByteArray} {k : Nat} (hk : k < l.length) (h1 : f (l.getD k d) = nm) (h2 : ∀ j, j < k → f (l.getD j d) ≠ nm) : nmX f l nm = k := by
  have e : l.findIdx? (fun x => decide (f x = nm)) = some k := by
    rw [List.findIdx?_eq_some_iff_getElem]
    refine ⟨hk, ?_, fun j hj => ?_⟩
    · rw [getD_get hk] at h1
      simpa using h1
    · have := h2 j hj
      rw [getD_get (Nat.lt_trans hj hk)] at this
      simpa using this
  unfold nmX
  rw [e]
theorem nmX_no {α : Type} {f : α → ByteArray} {d : α} {l : List α} {nm : ByteArray} (h2 : ∀ j, j < l.length → f (l.getD j d) ≠ nm) : nmX f l nm = -1 := by
  have e : l.findIdx? (fun x => decide (f x = nm)) = none := by
    rw [List.findIdx?_eq_none_iff]
    intro x hx
    obtain ⟨j, hj, rfl⟩ := List.getElem_of_mem hx
    have := h2 j hj
    rw [getD_get hj] at this
    simpa using this
  unfold nmX
  rw [e]
/-! ### the errors' numbers -/
def ctE (pre : List Ct) (x : Ct) : Int :=
  if nameB x.nm = false then 5 else if 0 ≤ nmX Ct.nm pre x.nm then 4 else if x.base ≠ 1 ∧ x.base ≠ 2 then 1 else if modeB x.rd = false then 1
  else if x.pc < 0 then 1 else if 100000000000 < x.pc then 1 else if x.yc < 0 then 1 else if 100000000000 < x.yc then 1 else bandsErr x.bands
def ctsF (l : List Ct) (k : Nat) : Int := ctE (l.take k) (l.getD k ct0)
def ctsE (l : List Ct) : Int := if 6 < l.length then 2 else firstNZ (ctsF l) l.length
def kdE1 (pre : List Kd) (x : Kd) : Int :=
  if nameB x.nm = false then 5 else if 0 ≤ nmX Kd.nm pre x.nm then 4 else if decide (-1 ≤ x.c ∧ x.c ≤ 1) = false then 1 else if decide (-1 ≤ x.t ∧ x.t ≤ 1) = false then 1 else if decide (-1 ≤ x.s ∧ x.s ≤ 1) = false then 1 else 0
def kdsF (l : List Kd) (k : Nat) : Int := kdE1 (l.take k) (l.getD k kd0)
def kdsE (l : List Kd) : Int := if l.length = 0 ∨ 12 < l.length then 2 else firstNZ (kdsF l) l.length
def scE1 (x : List Bd) : Int := if bandsErr x ≠ 0 then bandsErr x else if ∃ i, i < x.length ∧ (x.getD i bd0).e ≠ 0 then 50 else 0
def scsF (l : List (List Bd)) (k : Nat) : Int := scE1 (l.getD k [])
def scsE (l : List (List Bd)) : Int := if l.length = 0 ∨ 8 < l.length then 2 else firstNZ (scsF l) l.length
def tbE (t : Tb) : Int := if rateB t.lim = false then 50 else if modeB t.rnd = false then 1 else if scsE t.sch ≠ 0 then scsE t.sch else if ctsE t.cts ≠ 0 then ctsE t.cts else kdsE t.kds
--%%
theorem xclos_contribs (x : Ct) (B : Nat) (A : Option Addr) (n c : Nat) (nm : ByteArray) (w : World) (hB : B < w.heap.size) (h : w.cell? ⟨B, 0, none⟩ = some (.string nm)) :
    Calls Tryz.prog 45 #[.agg #[.string x.nm, .int .i64 x.base, .slice A n c, .int .i64 x.pc, .int .i64 x.yc, .int .i64 x.rd], .pointer (some ⟨B, 0, none⟩)] w fun e w' => e = .returned (.bool (decide (x.nm = nm))) ∧ Below w.heap.size w w' := by
  have h' : ∀ o, (w.alloc o).cell? ⟨B, 0, none⟩ = some (.string nm) := fun o => by rw [World.cell?_alloc_lt _ _ _ hB]; exact h
  go_enter Tryz.func45, Tryz.ntmps45
  go_wp2
  go_ret
  exact ⟨ret_bool (str_dec _ _), below1 _ _⟩
--%%
theorem xclos_kinds (x : Kd) (B : Nat) (nm : ByteArray) (w : World) (hB : B < w.heap.size) (h : w.cell? ⟨B, 0, none⟩ = some (.string nm)) :
    Calls Tryz.prog 47 #[.agg #[.string x.nm, .int .i64 x.c, .int .i64 x.t, .int .i64 x.s], .pointer (some ⟨B, 0, none⟩)] w fun e w' => e = .returned (.bool (decide (x.nm = nm))) ∧ Below w.heap.size w w' := by
  have h' : ∀ o, (w.alloc o).cell? ⟨B, 0, none⟩ = some (.string nm) := fun o => by rw [World.cell?_alloc_lt _ _ _ hB]; exact h
  go_enter Tryz.func47, Tryz.ntmps47
  go_wp2
  go_ret
  exact ⟨ret_bool (str_dec _ _), below1 _ _⟩
--%%
set_option maxHeartbeats 1600000 in
theorem xindex_contribs (l : List Ct) (A : Option Addr) (n c B : Nat) (nm : ByteArray) (w : World) (hs : CtSl w A n l) (hB : B < w.heap.size) (h : w.cell? ⟨B, 0, none⟩ = some (.string nm)) (r : Int) (hr : Hid (r = nmX Ct.nm l nm)) :
    Calls Tryz.prog 66 #[.slice A n c, .func (.func 45) #[] #[.pointer (some ⟨B, 0, none⟩)]] w fun e w' => e = .returned (.int .i64 r) ∧ Below w.heap.size w w' := by
  obtain ⟨hn, hm, hc⟩ := hs
  have HC := Lib.hid hc
  have HN := Lib.hid hn
  clear hc hn
  go_enter Tryz.func66, Tryz.ntmps66
  go_wp2_with fail
  go_loopw [8] (fun i wr => ∃ k : Nat, k ≤ n ∧ i = .int .i64 k ∧ Hid (∀ j, j < k → (l.getD j ct0).nm ≠ nm) ∧ Below w.heap.size w wr) (fun i _ => n - (intOf i).toNat)
  case atStart => exact ⟨0, Nat.zero_le _, rfl, fun j hj => absurd hj (Nat.not_lt_zero _), Below.refl _ _⟩
  case round =>
    obtain ⟨k, hk', rfl, HJ, hbl⟩ := hrel
    by_cases hk : k < n
    case neg =>
      have HE : Hid (r = -1) := hr.out.trans (nmX_no fun j hj => HJ.out j (by have := HN.out; omega))
      go_wp2_with fail
      go_ret
      exact ⟨by rw [HE.out] <;> rfl, hbl⟩
    obtain ⟨b, off, rfl, hlt, hat⟩ := HC.out (by omega)
    obtain ⟨c0, _, c1, ⟨A', n', c', c2, _⟩, c3, c4, c5⟩ := (hat k hk).below hlt hbl
    have hB' : B < wr.heap.size := Nat.lt_of_lt_of_le hB hbl.size
    have hcap := (hbl.cell (p := ⟨B, 0, none⟩) hB).trans h
    have K := Lib.hid (xclos_contribs (l.getD k ct0) B A' n' c' nm · )
    have HY : Hid ((l.getD k ct0).nm = nm → r = k) := fun h => hr.out.trans (nmX_at (d := ct0) (by have := HN.out; omega) h HJ.out)
    have HZ : Hid ((l.getD k ct0).nm ≠ nm → ∀ j, j < k + 1 → (l.getD j ct0).nm ≠ nm) := fun h j hj => by
      rcases (by omega : j = k ∨ j < k) with rfl | hj
      · exact h
      · exact HJ.out j hj
    generalize l.getD k ct0 = x at *
    clear hat
    by_cases hy : x.nm = nm
    · have t1 := decide_eq_true hy
      have HE := Lib.hid (HY.out hy)
      have K1 := Lib.hid (fun w hB h => t1 ▸ K.out w hB h)
      clear hy t1 K
      go_wp2_with fail
      refine (K1.out _ hB' hcap).mono ?_
      rintro e w1 ⟨rfl, hb1⟩
      have b1 : Below w.heap.size w w1 := hbl.trans (hb1.mono hbl.size)
      go_wp2_with fail
      go_ret
      exact ⟨by rw [HE.out] <;> rfl, b1⟩
    · have t1 := decide_eq_false hy
      have HE := Lib.hid (HZ.out hy)
      have K1 := Lib.hid (fun w hB h => t1 ▸ K.out w hB h)
      clear hy t1 K
      go_wp2_with fail
      refine (K1.out _ hB' hcap).mono ?_
      rintro e w1 ⟨rfl, hb1⟩
      have b1 : Below w.heap.size w w1 := hbl.trans (hb1.mono hbl.size)
      go_wp2_with fail
      go_roundw
      case rel => exact ⟨k + 1, by omega, by go_num, HE.out, b1⟩
      case measure => simp [intOf]; omega
--%%
set_option maxHeartbeats 1600000 in
theorem xindex_kinds (l : List Kd) (A : Option Addr) (n c B : Nat) (nm : ByteArray) (w : World) (hs : KdSl w A n l) (hB : B < w.heap.size) (h : w.cell? ⟨B, 0, none⟩ = some (.string nm)) (r : Int) (hr : Hid (r = nmX Kd.nm l nm)) :
    Calls Tryz.prog 67 #[.slice A n c, .func (.func 47) #[] #[.pointer (some ⟨B, 0, none⟩)]] w fun e w' => e = .returned (.int .i64 r) ∧ Below w.heap.size w w' := by
  obtain ⟨hn, hm, hc⟩ := hs
  have HC := Lib.hid hc
  have HN := Lib.hid hn
  clear hc hn
  go_enter Tryz.func67, Tryz.ntmps67
  go_wp2_with fail
  go_loopw [8] (fun i wr => ∃ k : Nat, k ≤ n ∧ i = .int .i64 k ∧ Hid (∀ j, j < k → (l.getD j kd0).nm ≠ nm) ∧ Below w.heap.size w wr) (fun i _ => n - (intOf i).toNat)
  case atStart => exact ⟨0, Nat.zero_le _, rfl, fun j hj => absurd hj (Nat.not_lt_zero _), Below.refl _ _⟩
  case round =>
    obtain ⟨k, hk', rfl, HJ, hbl⟩ := hrel
    by_cases hk : k < n
    case neg =>
      have HE : Hid (r = -1) := hr.out.trans (nmX_no fun j hj => HJ.out j (by have := HN.out; omega))
      go_wp2_with fail
      go_ret
      exact ⟨by rw [HE.out] <;> rfl, hbl⟩
    obtain ⟨b, off, rfl, hlt, hat⟩ := HC.out (by omega)
    obtain ⟨c0, _, c1, c2, c3⟩ := (hat k hk).below hlt hbl
    have hB' : B < wr.heap.size := Nat.lt_of_lt_of_le hB hbl.size
    have hcap := (hbl.cell (p := ⟨B, 0, none⟩) hB).trans h
    have K := Lib.hid (xclos_kinds (l.getD k kd0) B nm · )
    have HY : Hid ((l.getD k kd0).nm = nm → r = k) := fun h => hr.out.trans (nmX_at (d := kd0) (by have := HN.out; omega) h HJ.out)
    have HZ : Hid ((l.getD k kd0).nm ≠ nm → ∀ j, j < k + 1 → (l.getD j kd0).nm ≠ nm) := fun h j hj => by
      rcases (by omega : j = k ∨ j < k) with rfl | hj
      · exact h
      · exact HJ.out j hj
    generalize l.getD k kd0 = x at *
    clear hat
    by_cases hy : x.nm = nm
    · have t1 := decide_eq_true hy
      have HE := Lib.hid (HY.out hy)
      have K1 := Lib.hid (fun w hB h => t1 ▸ K.out w hB h)
      clear hy t1 K
      go_wp2_with fail
      refine (K1.out _ hB' hcap).mono ?_
      rintro e w1 ⟨rfl, hb1⟩
      have b1 : Below w.heap.size w w1 := hbl.trans (hb1.mono hbl.size)
      go_wp2_with fail
      go_ret
      exact ⟨by rw [HE.out] <;> rfl, b1⟩
    · have t1 := decide_eq_false hy
      have HE := Lib.hid (HZ.out hy)
      have K1 := Lib.hid (fun w hB h => t1 ▸ K.out w hB h)
      clear hy t1 K
      go_wp2_with fail
      refine (K1.out _ hB' hcap).mono ?_
      rintro e w1 ⟨rfl, hb1⟩
      have b1 : Below w.heap.size w w1 := hbl.trans (hb1.mono hbl.size)
      go_wp2_with fail
      go_roundw
      case rel => exact ⟨k + 1, by omega, by go_num, HE.out, b1⟩
      case measure => simp [intOf]; omega
--%%
theorem xcontains_contribs (l : List Ct) (A : Option Addr) (n c B : Nat) (nm : ByteArray) (w : World) (hs : CtSl w A n l) (hB : B < w.heap.size) (h : w.cell? ⟨B, 0, none⟩ = some (.string nm)) :
    Calls Tryz.prog 44 #[.slice A n c, .func (.func 45) #[] #[.pointer (some ⟨B, 0, none⟩)]] w fun e w' => e = .returned (.bool (decide (0 ≤ nmX Ct.nm l nm))) ∧ Below w.heap.size w w' := by
  obtain ⟨r, hr⟩ : ∃ r, r = nmX Ct.nm l nm := ⟨_, rfl⟩
  have K := Lib.hid (xindex_contribs l A n c B nm w hs hB h r hr)
  rw [← hr]
  clear hr
  go_enter Tryz.func44, Tryz.ntmps44
  go_wp2_with fail
  refine K.out.mono ?_
  rintro e w1 ⟨rfl, hb1⟩
  go_wp2_with fail
  go_ret
  exact ⟨ret_bool (by simp), hb1⟩
--%%
theorem xcontains_kinds (l : List Kd) (A : Option Addr) (n c B : Nat) (nm : ByteArray) (w : World) (hs : KdSl w A n l) (hB : B < w.heap.size) (h : w.cell? ⟨B, 0, none⟩ = some (.string nm)) :
    Calls Tryz.prog 46 #[.slice A n c, .func (.func 47) #[] #[.pointer (some ⟨B, 0, none⟩)]] w fun e w' => e = .returned (.bool (decide (0 ≤ nmX Kd.nm l nm))) ∧ Below w.heap.size w w' := by
  obtain ⟨r, hr⟩ : ∃ r, r = nmX Kd.nm l nm := ⟨_, rfl⟩
  have K := Lib.hid (xindex_kinds l A n c B nm w hs hB h r hr)
  rw [← hr]
  clear hr
  go_enter Tryz.func46, Tryz.ntmps46
  go_wp2_with fail
  refine K.out.mono ?_
  rintro e w1 ⟨rfl, hb1⟩
  go_wp2_with fail
  go_ret
  exact ⟨ret_bool (by simp), hb1⟩
--%%
end Go.Proofs.YtcngmajkkhipoaaGreatDoor
