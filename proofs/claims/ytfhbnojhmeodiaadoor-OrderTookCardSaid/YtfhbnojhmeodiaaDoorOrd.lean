/-
  Contracts of an order's own functions. Conditions as named.
-/
import Derived.Test.YtfhbnojhmeodiaaDoorFrac
import Derived.Test.YtfhbnojhmeodiaaDoorVoc3
import Derived.Lib.MinMax
namespace Go.Proofs.YtfhbnojhmeodiaaDoor
set_option linter.unusedVariables false
open Go.RowKit
/-- an order, what it took, its arrears -/
structure Od where
  id : Int
  pr : Int
  am : Int
  ra : Int
  to : Int
  tk : Int
  ar : Int
def od0 : Od := ⟨0, 0, 0, 0, 0, 0, 0⟩
def odC (z : Od) : List Value := [.int .i64 z.id, .int .i64 z.pr, .int .i64 z.am, .int .i64 z.ra, .int .i64 z.to, .int .i64 z.tk, .int .i64 z.ar]
theorem odC_len (z : Od) : (odC z).length = 7 := rfl
abbrev OdSl := RowSl odC 7 od0
/-- an order that may be -/
structure OrOK (id pr am ra to : Int) : Prop where
  hid : 1 ≤ id ∧ id ≤ 999999
  hpr : 0 ≤ pr ∧ pr ≤ 999
  ham : 0 ≤ am ∧ am ≤ 100000000000
  hto : 0 ≤ to ∧ to ≤ 100000000000
  hra : 0 ≤ ra ∧ ra ≤ 10000
  hnz : ¬ (am = 0 ∧ ra = 0)
structure OdOK (z : Od) : Prop where
  o : OrOK z.id z.pr z.am z.ra z.to
  tk : 0 ≤ z.tk ∧ z.tk ≤ 100000000000
  ar : 0 ≤ z.ar ∧ z.ar ≤ 100000000000
theorem round_down (n d : Int) : roundI n d 1 = n / d := by
  unfold roundI nearB
  simp
def leftI (z : Od) : Int := if z.to = 0 then 100000000000 else max 0 (z.to - z.tk - z.ar)
def ordP (z : Od) (net : Int) : Int := max 0 net * z.ra / 10000
def ordE (z : Od) (net : Int) : Int := if z.am + ordP z net ≤ 100000000000 then 0 else 10
def ordV (z : Od) (net : Int) : Int := min (z.am + ordP z net) (leftI z)
theorem left_bd {z : Od} (h : OdOK z) : 0 ≤ leftI z ∧ leftI z ≤ 100000000000 := by
  have h1 := h.o.hto
  have h2 := h.tk
  have h3 := h.ar
  unfold leftI
  split <;> omega
theorem ordP_bd {z : Od} (h : OdOK z) {net : Int} (hn : -100000000000 ≤ net ∧ net ≤ 100000000000) : 0 ≤ max 0 net * z.ra ∧ max 0 net * z.ra ≤ 1000000000000000 ∧ 0 ≤ ordP z net ∧ ordP z net ≤ 100000000000 := by
  have h1 := h.o.hra
  have a1 : 0 ≤ max 0 net * z.ra := Int.mul_nonneg (by omega) h1.1
  have a2 : max 0 net * z.ra ≤ max 0 net * 10000 := Int.mul_le_mul_of_nonneg_left h1.2 (by omega)
  unfold ordP
  omega
theorem ordV_bd {z : Od} (h : OdOK z) {net : Int} (hn : -100000000000 ≤ net ∧ net ≤ 100000000000) (he : ordE z net = 0) : 0 ≤ ordV z net ∧ ordV z net ≤ 100000000000 := by
  have h1 := left_bd h
  have h2 := ordP_bd h hn
  have h3 := h.o.ham
  unfold ordV
  omega
--%%
theorem take_t (x r m : Int) (w : World) (hx : mrB x = true) (hr : rateB r = true) (hm : modeB m = true) :
    Calls Tryd.prog 60 #[.int .i64 x, .int .i64 r, .int .i64 m] w fun e w' => e = .returned (.tuple #[.int .i64 (roundI (x * r) 10000 m), .int .i64 0]) ∧ Below w.heap.size w w' := by
  have hx' := mr_iff.1 hx
  have hr' := rateB_iff.1 hr
  have hb := mul_bd (A := 100000000000) (B := 10000) hx'.1 hx'.2 hr'.1 hr'.2 (by decide)
  have K1 := Lib.hid (part_t x r · hx hr)
  have K2 := Lib.hid (fcoins_t (x * r) m · (exB_iff.2 (by omega)) hm)
  generalize roundI (x * r) 10000 m = rv at *
  generalize x * r = xr at *
  clear hx hr hx' hr' hb hm
  go_enter Tryd.func60, Tryd.ntmps60
  go_wp2_with fail
  refine (K1.out _).mono ?_
  rintro e w1 ⟨rfl, hb1⟩
  go_wp2_with fail
  refine (K2.out _).mono ?_
  rintro e w2 ⟨rfl, hb2⟩
  go_wp2_with fail
  go_ret2
  exact ⟨rfl, bT hb1 hb2⟩
--%%
theorem left_c (id pr am ra to tk ar : Int) (w : World) (h : OdOK ⟨id, pr, am, ra, to, tk, ar⟩) :
    Calls Tryd.prog 39 #[.agg #[.int .i64 id, .int .i64 pr, .int .i64 am, .int .i64 ra, .int .i64 to, .int .i64 tk, .int .i64 ar]] w fun e w' => e = .returned (.int .i64 (leftI ⟨id, pr, am, ra, to, tk, ar⟩)) ∧ Below w.heap.size w w' := by
  have h1 := h.o.hto
  have h2 := h.tk
  have h3 := h.ar
  dsimp only at h1 h2 h3
  obtain ⟨r, hr⟩ : ∃ r, r = leftI ⟨id, pr, am, ra, to, tk, ar⟩ := ⟨_, rfl⟩
  rw [← hr]
  unfold leftI at hr
  dsimp only at hr
  obtain ⟨a1, a2⟩ := h1
  obtain ⟨b1, b2⟩ := h2
  obtain ⟨c1, c2⟩ := h3
  clear h
  by_cases h0 : to = 0
  · subst h0
    rw [if_pos rfl] at hr
    subst hr
    go_enter Tryd.func39, Tryd.ntmps39
    go_wp2_with fail
    go_ret
    exact ⟨rfl, below1 _ _⟩
  · rw [if_neg h0] at hr
    have v0 : (to == 0) = false := by simpa using h0
    have HR := Lib.hid hr
    clear h0 hr
    go_enter Tryd.func39, Tryd.ntmps39
    go_wp2_with fail
    go_ret
    exact ⟨ret_int HR.out.symm, below1 _ _⟩
--%%
theorem ordered_t (id pr am ra to tk ar net : Int) (w : World) (h : OdOK ⟨id, pr, am, ra, to, tk, ar⟩) (hn : mrB net = true) (he : ordE ⟨id, pr, am, ra, to, tk, ar⟩ net = 0) :
    Calls Tryd.prog 41 #[.agg #[.int .i64 id, .int .i64 pr, .int .i64 am, .int .i64 ra, .int .i64 to, .int .i64 tk, .int .i64 ar], .int .i64 net] w fun e w' => e = .returned (.tuple #[.int .i64 (ordV ⟨id, pr, am, ra, to, tk, ar⟩ net), .int .i64 0]) ∧ Below w.heap.size w w' := by
  have hn' := mr_iff.1 hn
  have hp := ordP_bd h hn'
  have hb0 := below1 w (.cells #[.int .i64 id, .int .i64 pr, .int .i64 am, .int .i64 ra, .int .i64 to, .int .i64 tk, .int .i64 ar] 39)
  have z := Blk.mk w 39 #[.int .i64 id, .int .i64 pr, .int .i64 am, .int .i64 ra, .int .i64 to, .int .i64 tk, .int .i64 ar]
  have ham := h.o.ham
  have hra := h.o.hra
  dsimp only at ham hra
  have hle : am + ordP ⟨id, pr, am, ra, to, tk, ar⟩ net ≤ 100000000000 := by
    unfold ordE at he
    dsimp only at he
    split at he
    · assumption
    · cases he
  have K1 := Lib.hid (take_t (max 0 net) ra 1 · (mr_t (by omega)) (rateB_iff.2 hra) (by decide))
  rw [round_down, show max 0 net * ra / 10000 = ordP ⟨id, pr, am, ra, to, tk, ar⟩ net from rfl] at K1
  have K3 := Lib.hid (left_c id pr am ra to tk ar · h)
  have HV : Hid (ordV ⟨id, pr, am, ra, to, tk, ar⟩ net = min (am + ordP ⟨id, pr, am, ra, to, tk, ar⟩ net) (leftI ⟨id, pr, am, ra, to, tk, ar⟩)) := rfl
  generalize ordV ⟨id, pr, am, ra, to, tk, ar⟩ net = ov at *
  generalize ordP ⟨id, pr, am, ra, to, tk, ar⟩ net = pv at *
  generalize leftI ⟨id, pr, am, ra, to, tk, ar⟩ = lv at *
  obtain ⟨_, _, p0, p1⟩ := hp
  have K2 := Lib.hid (add_t am pv · (mr_t (by omega)) (mr_t (by omega)) (mr_t (by omega)))
  obtain ⟨n0, n1⟩ := hn'
  clear h he hn ham hra
  go_enter Tryd.func41, Tryd.ntmps41
  go_wp2_with fail
  refine (K1.out _).mono ?_
  rintro e w1 ⟨rfl, hb1⟩
  have z1 := z.t hb1
  have q2 := z1.cell 2
  go_wp2_with fail
  refine (K2.out _).mono ?_
  rintro e w2 ⟨rfl, hb2⟩
  have z2 := z1.t hb2
  obtain ⟨q0, q1, q2', q3, q4, q5, q6⟩ := (⟨z2.cell 0, z2.cell 1, z2.cell 2, z2.cell 3, z2.cell 4, z2.cell 5, z2.cell 6⟩ : _ ∧ _ ∧ _ ∧ _ ∧ _ ∧ _ ∧ _)
  clear q2
  go_wp2_with fail
  refine (K3.out _).mono ?_
  rintro e w3 ⟨rfl, hb3⟩
  go_wp2_with fail
  go_ret2
  exact ⟨ret2_int HV.out.symm rfl, bT (bT (bT hb0 hb1) hb2) hb3⟩
theorem ordered_e (id pr am ra to tk ar net : Int) (w : World) (h : OdOK ⟨id, pr, am, ra, to, tk, ar⟩) (hn : mrB net = true) (he : ordE ⟨id, pr, am, ra, to, tk, ar⟩ net ≠ 0) :
    Calls Tryd.prog 41 #[.agg #[.int .i64 id, .int .i64 pr, .int .i64 am, .int .i64 ra, .int .i64 to, .int .i64 tk, .int .i64 ar], .int .i64 net] w fun e w' => e = .returned (.tuple #[.int .i64 0, .int .i64 10]) ∧ Below w.heap.size w w' := by
  have hn' := mr_iff.1 hn
  have hp := ordP_bd h hn'
  have hb0 := below1 w (.cells #[.int .i64 id, .int .i64 pr, .int .i64 am, .int .i64 ra, .int .i64 to, .int .i64 tk, .int .i64 ar] 39)
  have z := Blk.mk w 39 #[.int .i64 id, .int .i64 pr, .int .i64 am, .int .i64 ra, .int .i64 to, .int .i64 tk, .int .i64 ar]
  have ham := h.o.ham
  have hra := h.o.hra
  dsimp only at ham hra
  have hle : ¬ am + ordP ⟨id, pr, am, ra, to, tk, ar⟩ net ≤ 100000000000 := by
    intro hc
    exact he (if_pos hc)
  have K1 := Lib.hid (take_t (max 0 net) ra 1 · (mr_t (by omega)) (rateB_iff.2 hra) (by decide))
  rw [round_down, show max 0 net * ra / 10000 = ordP ⟨id, pr, am, ra, to, tk, ar⟩ net from rfl] at K1
  generalize ordP ⟨id, pr, am, ra, to, tk, ar⟩ net = pv at *
  obtain ⟨_, _, p0, p1⟩ := hp
  have K2 := Lib.hid (add_f am pv · (fun hc => by have := mr_iff.1 hc.2.2; omega))
  obtain ⟨n0, n1⟩ := hn'
  clear h he hn ham hra hle
  go_enter Tryd.func41, Tryd.ntmps41
  go_wp2_with fail
  refine (K1.out _).mono ?_
  rintro e w1 ⟨rfl, hb1⟩
  have z1 := z.t hb1
  have q2 := z1.cell 2
  go_wp2_with fail
  refine (K2.out _).mono ?_
  rintro e w2 ⟨rfl, hb2⟩
  go_wp2_with fail
  go_ret2
  exact ⟨rfl, bT (bT hb0 hb1) hb2⟩
--%%
end Go.Proofs.YtfhbnojhmeodiaaDoor
