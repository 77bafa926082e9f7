/-
  Contract of element.Same. Conditions as named.
-/
import Derived.Test.YtbpdgkaohfmabaaDoorElemC
import Derived.Deep.QuietTactic
import Derived.BigQuiet
import Derived.Laws.StructEq
import Derived.Deep.RegionHeld3
namespace Go.Proofs.YtbpdgkaohfmabaaDoor
set_option linter.unusedVariables false
open Go.RowKit
def elEq (a b : El) : Bool := decide (a.k = b.k) && decide (a.a = b.a) && decide (a.u = b.u)
theorem elEq_iff {a b : El} : elEq a b = true ↔ a = b := by
  cases a; cases b
  simp [elEq, and_assoc]
def eqTo (L M : List El) (n : Nat) : Bool := (List.range n).all fun i => elEq (L.getD i el0) (M.getD i el0)
theorem eqTo_iff {L M : List El} {n : Nat} : eqTo L M n = true ↔ ∀ i, i < n → L.getD i el0 = M.getD i el0 := by
  unfold eqTo
  rw [List.all_eq_true]
  exact ⟨fun h i hi => elEq_iff.1 (h i (List.mem_range.2 hi)), fun h i hi => elEq_iff.2 (h i (List.mem_range.1 hi))⟩
/-- are two lists of elements one? -/
def sameB (L M : List El) : Bool := decide (L.length = M.length) && eqTo L M L.length
theorem sameB_self (L : List El) : sameB L L = true := by simp [sameB, eqTo_iff]
--%%
set_option maxRecDepth 100000 in
set_option maxHeartbeats 1600000 in
theorem equal_c (A B : Option Addr) (n c m d : Nat) (L M : List El) (w : World) (hl : ElSl w A n L) (hm : ElSl w B m M) (r : Bool) (hr : Hid (r = sameB L M)) :
    Calls Tryd.prog 36 #[.slice A n c, .slice B m d] w fun e w' => e = .returned (.bool r) ∧ Below w.heap.size w w' := by
  have HL := Lib.hid hl
  have HM := Lib.hid hm
  have hn9 := hl.2.1
  have hm9 := hm.2.1
  have HR : Hid (r = (decide (n = m) && eqTo L M n)) := by unfold Hid; rw [hr.out, hl.1, hm.1]; rfl
  clear hl hm hr
  by_cases hnm : n = m
  case neg =>
    have e : r = false := by rw [HR.out]; simp [hnm]
    have v : ((n : Int) != (m : Int)) = true := by simp; omega
    subst e
    clear hnm HR
    go_enter Tryd.func36, Tryd.ntmps36
    go_wp2_with fail
    go_ret
    exact ⟨rfl, b0 _⟩
  subst hnm
  have v : ((n : Int) != (n : Int)) = false := by simp
  have HR2 : Hid (r = eqTo L M n) := by unfold Hid; rw [HR.out]; simp
  clear HR
  go_enter Tryd.func36, Tryd.ntmps36
  go_wp2_with fail
  go_loopw [5, 13] (fun _ i wr => ∃ k : Nat, k ≤ n ∧ i = .int .i64 k ∧ Hid (eqTo L M k = true) ∧ Below w.heap.size w wr) (fun _ i _ => n - (intOf i).toNat)
  case atStart => exact ⟨0, Nat.zero_le _, rfl, rfl, b0 _⟩
  case round =>
    obtain ⟨k, hk', rfl, HA, hbl⟩ := hrel
    by_cases hk : k < n
    case neg =>
      obtain rfl : k = n := by omega
      have e : r = true := HR2.out.trans HA.out
      subst e
      clear HR2
      go_wp2_with fail
      go_ret
      exact ⟨rfl, hbl⟩
    obtain ⟨b, off, rfl, hlt, hat⟩ := (HL.out.below hbl).2.2 (by omega)
    obtain ⟨b2, off2, rfl, hlt2, hat2⟩ := (HM.out.below hbl).2.2 (by omega)
    have hc := hat k hk
    have hc2 := hat2 k hk
    have HN : Hid (L.getD k el0 ≠ M.getD k el0 → r = false) := fun h => by
      rw [HR2.out]
      cases hh : eqTo L M n with
      | false => rfl
      | true => exact absurd (eqTo_iff.1 hh k hk) h
    have HY : Hid (L.getD k el0 = M.getD k el0 → eqTo L M (k + 1) = true) := fun h => eqTo_iff.2 fun i hi => by
      rcases (by omega : i = k ∨ i < k) with rfl | hi
      · exact h
      · exact eqTo_iff.1 HA.out i hi
    generalize L.getD k el0 = x at *
    generalize M.getD k el0 = y at *
    obtain ⟨xk, xa, xu⟩ := x
    obtain ⟨yk, ya, yu⟩ := y
    obtain ⟨c0, c1, c2⟩ : wr.cell? ⟨b, off + k * 3, none⟩ = some (.string xk) ∧ wr.cell? ⟨b, off + k * 3 + 1, none⟩ = some (.int .i64 xa) ∧ wr.cell? ⟨b, off + k * 3 + 2, none⟩ = some (.int .i64 xu) := ⟨hc 0 _ rfl, hc 1 _ rfl, hc 2 _ rfl⟩
    obtain ⟨d0, d1, d2⟩ : wr.cell? ⟨b2, off2 + k * 3, none⟩ = some (.string yk) ∧ wr.cell? ⟨b2, off2 + k * 3 + 1, none⟩ = some (.int .i64 ya) ∧ wr.cell? ⟨b2, off2 + k * 3 + 2, none⟩ = some (.int .i64 yu) := ⟨hc2 0 _ rfl, hc2 1 _ rfl, hc2 2 _ rfl⟩
    clear hc hc2 hat hat2 HA HR2
    have kk0 : (0 : Int) ≤ (k : Int) := by omega
    have kk1 : (k : Int) < (n : Int) := by omega
    have kk2 : ((k : Int)).toNat = k := by omega
    by_cases h1 : xk = yk
    · subst h1
      by_cases h2 : xa = ya
      · subst h2
        by_cases h3 : xu = yu
        · subst h3
          have HY2 := Lib.hid (HY.out rfl)
          clear HN HY
          go_wp2_with fail
          go_quiet (fail)
          go_wp2_with fail
          go_roundw
          case rel => exact ⟨k + 1, by omega, by go_num, HY2.out, bD hbl _⟩
          case measure => simp [intOf]; omega
        · have v9 : (xu == yu) = false := by simpa using h3
          have e : r = false := HN.out (fun h => by injection h; contradiction)
          subst e
          clear HN HY
          go_wp2_with fail
          go_quiet (fail)
          go_wp2_with fail
          go_ret
          exact ⟨rfl, bD hbl _⟩
      · have v9 : (xa == ya) = false := by simpa using h2
        have e : r = false := HN.out (fun h => by injection h; contradiction)
        subst e
        clear HN HY
        go_wp2_with fail
        go_quiet (fail)
        go_wp2_with fail
        go_ret
        exact ⟨rfl, bD hbl _⟩
    · have v9 := str_neq h1
      have e : r = false := HN.out (fun h => by injection h; contradiction)
      subst e
      clear HN HY
      go_wp2_with fail
      go_quiet (fail)
      go_wp2_with fail
      go_ret
      exact ⟨rfl, bD hbl _⟩
--%%
theorem esame_c (A B : Option Addr) (n c m d : Nat) (L M : List El) (w : World) (hl : ElSl w A n L) (hm : ElSl w B m M) (r : Bool) (hr : Hid (r = sameB L M)) :
    Calls Tryd.prog 18 #[.slice A n c, .slice B m d] w fun e w' => e = .returned (.bool r) ∧ Below w.heap.size w w' := by
  have K := Lib.hid (equal_c A B n c m d L M w hl hm r hr)
  clear hl hm hr
  go_enter Tryd.func18, Tryd.ntmps18
  go_wp2_with fail
  refine K.out.mono ?_
  rintro e w1 ⟨rfl, hb1⟩
  go_wp2_with fail
  go_ret
  exact ⟨rfl, hb1⟩
--%%
end Go.Proofs.YtbpdgkaohfmabaaDoor
