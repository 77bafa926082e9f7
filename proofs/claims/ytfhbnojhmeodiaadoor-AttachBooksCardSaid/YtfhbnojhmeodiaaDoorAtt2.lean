/-
  Contracts of attach.Sum, Right and Line. Conditions as named.
-/
import Derived.Test.YtfhbnojhmeodiaaDoorServe
import Derived.Test.YtfhbnojhmeodiaaDoorText
import Derived.Deep.RegionHeld3
namespace Go.Proofs.YtfhbnojhmeodiaaDoor
set_option linter.unusedVariables false
open Go.RowKit
theorem asum_c (A : Option Addr) (n c : Nat) (L : List Tk) (w : World) (hl : TkSl w A n L) (hs : ∀ k, k ≤ n → mrB (sumT L k) = true) (ht : ∀ k, k < n → mrB (L.getD k tk0).ta = true) :
    Calls Tryd.prog 27 #[.slice A n c] w fun e w' => e = .returned (.tuple #[.int .i64 (sumT L n), .int .i64 0]) ∧ Below w.heap.size w w' := by
  have HL := Lib.hid hl
  have HS := Lib.hid hs
  have HT := Lib.hid ht
  have hn9 := hl.2.1
  have H0 : Hid (sumT L 0 = 0) := rfl
  clear hl hs ht
  go_enter Tryd.func27, Tryd.ntmps27
  go_wp2_with fail
  go_loopw [4, 11] (fun sm i wr => ∃ k : Nat, k ≤ n ∧ i = .int .i64 k ∧ sm = .int .i64 (sumT L k) ∧ Below w.heap.size w wr) (fun _ i _ => n - (intOf i).toNat)
  case atStart => exact ⟨0, Nat.zero_le _, rfl, by rw [H0.out], b0 _⟩
  case round =>
    obtain ⟨k, hk', rfl, rfl, hbl⟩ := hrel
    by_cases hk : k < n
    case neg =>
      obtain rfl : k = n := by omega
      go_wp2_with fail
      go_ret2
      exact ⟨rfl, hbl⟩
    obtain ⟨b, off, rfl, hlt, hat⟩ := (HL.out.below hbl).2.2 (by omega)
    have hcl := hat k hk
    have HSU : Hid (sumT L (k + 1) = sumT L k + (L.getD k tk0).ta) := rfl
    have h1 := HS.out k (by omega)
    have h2 := HS.out (k + 1) (by omega)
    have h3 := HT.out k hk
    rw [HSU.out] at h2
    have KA := Lib.hid (add_t (sumT L k) (L.getD k tk0).ta · h1 h3 h2)
    generalize sumT L k = sk at *
    generalize L.getD k tk0 = zz at *
    obtain ⟨zo, zb, zr, zd, zt, zc⟩ := zz
    dsimp only at HSU KA
    obtain ⟨c0, c1, c2, c3, c4, c5⟩ : wr.cell? ⟨b, off + k * 6, none⟩ = some (.int .i64 zo) ∧ wr.cell? ⟨b, off + k * 6 + 1, none⟩ = some (.int .i64 zb) ∧ wr.cell? ⟨b, off + k * 6 + 2, none⟩ = some (.int .i64 zr) ∧ wr.cell? ⟨b, off + k * 6 + 3, none⟩ = some (.int .i64 zd) ∧ wr.cell? ⟨b, off + k * 6 + 4, none⟩ = some (.int .i64 zt) ∧ wr.cell? ⟨b, off + k * 6 + 5, none⟩ = some (.int .i64 zc) := ⟨hcl 0 _ rfl, hcl 1 _ rfl, hcl 2 _ rfl, hcl 3 _ rfl, hcl 4 _ rfl, hcl 5 _ rfl⟩
    have hb1 := bA hbl (.cells #[.int .i64 zo, .int .i64 zb, .int .i64 zr, .int .i64 zd, .int .i64 zt, .int .i64 zc] 41)
    clear hat hcl h1 h2 h3
    go_wp2_with fail
    refine (KA.out _).mono ?_
    rintro e w2 ⟨rfl, hb2⟩
    go_wp2_with fail
    go_roundw
    case rel => exact ⟨k + 1, by omega, by go_num, by rw [HSU.out], bT hb1 hb2⟩
    case measure => simp [intOf]; omega
--%%
theorem condT_no (L : List Tk) (k : Nat) (h : ¬ ((L.getD k tk0).br + (L.getD k tk0).or = (L.getD k tk0).du ∧ (L.getD k tk0).ta + (L.getD k tk0).ca = (L.getD k tk0).du ∧ 0 ≤ (L.getD k tk0).ta ∧ ¬ (shortTo L k = true ∧ 0 < (L.getD k tk0).ta))) : condT L k = false := by
  cases hh : condT L k with
  | false => rfl
  | true =>
    exfalso
    apply h
    unfold condT at hh
    simp only [Bool.and_eq_true, decide_eq_true_eq, Bool.not_eq_true', Bool.and_eq_false_imp, decide_eq_false_iff_not] at hh
    exact ⟨hh.1.1.1, hh.1.1.2, hh.1.2, fun hc => hh.2 hc.1 hc.2⟩
theorem condT_yes (L : List Tk) (k : Nat) (h1 : (L.getD k tk0).br + (L.getD k tk0).or = (L.getD k tk0).du) (h2 : (L.getD k tk0).ta + (L.getD k tk0).ca = (L.getD k tk0).du) (h3 : 0 ≤ (L.getD k tk0).ta) (h4 : ¬ (shortTo L k = true ∧ 0 < (L.getD k tk0).ta)) : condT L k = true := by
  unfold condT
  simp only [Bool.and_eq_true, decide_eq_true_eq, Bool.not_eq_true', Bool.and_eq_false_imp, decide_eq_false_iff_not]
  exact ⟨⟨⟨h1, h2⟩, h3⟩, fun a b => h4 ⟨a, b⟩⟩
def TkR (z : Tk) : Prop := (-100000000000 ≤ z.br ∧ z.br ≤ 100000000000) ∧ (-100000000000 ≤ z.or ∧ z.or ≤ 100000000000) ∧ (-100000000000 ≤ z.ta ∧ z.ta ≤ 100000000000) ∧ (-100000000000 ≤ z.ca ∧ z.ca ≤ 100000000000)
set_option maxRecDepth 100000 in
set_option maxHeartbeats 3200000 in
theorem aright_c (A : Option Addr) (n c : Nat) (L : List Tk) (w : World) (hl : TkSl w A n L) (hb : ∀ k, k < n → TkR (L.getD k tk0)) (r : Bool) (hr : Hid (r = okT L n)) :
    Calls Tryd.prog 28 #[.slice A n c] w fun e w' => e = .returned (.bool r) ∧ Below w.heap.size w w' := by
  have HL := Lib.hid hl
  have HB := Lib.hid hb
  have hn9 := hl.2.1
  have H0 : Hid (shortTo L 0 = false) := rfl
  clear hl hb
  go_enter Tryd.func28, Tryd.ntmps28
  go_wp2_with fail
  go_loopw [3, 8] (fun sh i wr => ∃ k : Nat, k ≤ n ∧ i = .int .i64 k ∧ sh = .bool (shortTo L k) ∧ Hid (okT L k = true) ∧ Below w.heap.size w wr) (fun _ i _ => n - (intOf i).toNat)
  case atStart => exact ⟨0, Nat.zero_le _, rfl, by rw [H0.out], rfl, b0 _⟩
  case round =>
    obtain ⟨k, hk', rfl, rfl, HO, hbl⟩ := hrel
    by_cases hk : k < n
    case neg =>
      obtain rfl : k = n := by omega
      have e : r = true := hr.out.trans HO.out
      subst e
      go_wp2_with fail
      go_ret
      exact ⟨rfl, hbl⟩
    obtain ⟨b, off, rfl, hlt, hat⟩ := (HL.out.below hbl).2.2 (by omega)
    have hcl := hat k hk
    have hbd := HB.out k hk
    have HSH : Hid (shortTo L (k + 1) = (shortTo L k || decide ((L.getD k tk0).ta < (L.getD k tk0).du))) := rfl
    have HN := Lib.hid (condT_no L k)
    have HY := Lib.hid (condT_yes L k)
    have HRN : Hid (condT L k = false → r = false) := fun h => hr.out.trans (okT_no L n k hk h)
    have HST : Hid (condT L k = true → okT L (k + 1) = true) := fun h => okT_step L k HO.out h
    generalize shortTo L k = sk at *
    generalize L.getD k tk0 = zz at *
    obtain ⟨zo, zb, zr, zd, zt, zc⟩ := zz
    unfold TkR at hbd
    dsimp only at HSH HN HY hbd
    obtain ⟨⟨d0, d1⟩, ⟨d2, d3⟩, ⟨d4, d5⟩, d6, d7⟩ := hbd
    obtain ⟨c0, c1, c2, c3, c4, c5⟩ : wr.cell? ⟨b, off + k * 6, none⟩ = some (.int .i64 zo) ∧ wr.cell? ⟨b, off + k * 6 + 1, none⟩ = some (.int .i64 zb) ∧ wr.cell? ⟨b, off + k * 6 + 2, none⟩ = some (.int .i64 zr) ∧ wr.cell? ⟨b, off + k * 6 + 3, none⟩ = some (.int .i64 zd) ∧ wr.cell? ⟨b, off + k * 6 + 4, none⟩ = some (.int .i64 zt) ∧ wr.cell? ⟨b, off + k * 6 + 5, none⟩ = some (.int .i64 zc) := ⟨hcl 0 _ rfl, hcl 1 _ rfl, hcl 2 _ rfl, hcl 3 _ rfl, hcl 4 _ rfl, hcl 5 _ rfl⟩
    have hb1 := bA hbl (.cells #[.int .i64 zo, .int .i64 zb, .int .i64 zr, .int .i64 zd, .int .i64 zt, .int .i64 zc] 41)
    clear hat hcl hr
    by_cases e1 : zb + zr = zd
    case neg =>
      have e : r = false := HRN.out (HN.out (fun h => e1 h.1))
      have v1 : (zb + zr != zd) = true := by simpa using e1
      subst e
      clear e1
      go_wp2_with fail
      go_ret
      exact ⟨rfl, hb1⟩
    have v1 : (zb + zr != zd) = false := by simpa using e1
    by_cases e2 : zt + zc = zd
    case neg =>
      have e : r = false := HRN.out (HN.out (fun h => e2 h.2.1))
      have v2 : (zt + zc != zd) = true := by simpa using e2
      subst e
      clear e1 e2
      go_wp2_with fail
      go_ret
      exact ⟨rfl, hb1⟩
    have v2 : (zt + zc != zd) = false := by simpa using e2
    by_cases e3 : zt < 0
    · have e : r = false := HRN.out (HN.out (fun h => by have := h.2.2.1; omega))
      have v3 : decide (zt < 0) = true := by simpa using e3
      subst e
      clear e1 e2 e3
      go_wp2_with fail
      go_ret
      exact ⟨rfl, hb1⟩
    have v3 : decide (zt < 0) = false := by simpa using e3
    have HY2 := Lib.hid (HY.out e1 e2 (by omega))
    cases sk
    · have HY3 := Lib.hid (HST.out (HY2.out (fun h => by cases h.1)))
      clear e1 e2 e3
      by_cases e4 : zt < zd
      · have v4 : decide (zt < zd) = true := by simpa using e4
        have HSH2 : Hid (shortTo L (k + 1) = true) := Lib.hid (HSH.out.trans (by rw [v4]; rfl))
        clear e4
        go_wp2_with fail
        go_roundw
        case rel => exact ⟨k + 1, by omega, by go_num, by rw [HSH2.out], HY3.out, hb1⟩
        case measure => simp [intOf]; omega
      · have v4 : decide (zt < zd) = false := by simpa using e4
        have HSH2 : Hid (shortTo L (k + 1) = false) := Lib.hid (HSH.out.trans (by rw [v4]; rfl))
        clear e4
        go_wp2_with fail
        go_roundw
        case rel => exact ⟨k + 1, by omega, by go_num, by rw [HSH2.out], HY3.out, hb1⟩
        case measure => simp [intOf]; omega
    · have HSH2 : Hid (shortTo L (k + 1) = true) := Lib.hid (HSH.out.trans (by simp))
      by_cases e5 : 0 < zt
      · have e : r = false := HRN.out (HN.out (fun h => h.2.2.2 ⟨rfl, e5⟩))
        have v5 : decide (0 < zt) = true := by simpa using e5
        subst e
        clear e1 e2 e3 e5
        go_wp2_with fail
        go_ret
        exact ⟨rfl, hb1⟩
      · have v5 : decide (0 < zt) = false := by simpa using e5
        have HY3 := Lib.hid (HST.out (HY2.out (fun h => e5 h.2)))
        clear e1 e2 e3 e5
        go_wp2_with fail
        go_roundw
        case rel => exact ⟨k + 1, by omega, by go_num, by rw [HSH2.out], HY3.out, hb1⟩
        case measure => simp [intOf]; omega
--%%
end Go.Proofs.YtfhbnojhmeodiaaDoor
