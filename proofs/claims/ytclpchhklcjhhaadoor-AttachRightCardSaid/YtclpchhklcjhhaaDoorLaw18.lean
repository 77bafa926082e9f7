/-
  Layer 18's laws: the example that is asked first, and what states may be. Conditions as named.
-/
import Derived.Test.YtclpchhklcjhhaaDoorAtt3
import Derived.Test.YtclpchhklcjhhaaDoorOrd2
import Derived.Deep.QuietTactic
import Derived.BigQuiet
namespace Go.Proofs.YtclpchhklcjhhaaDoor
set_option linter.unusedVariables false
open Go.RowKit
def Yes18 (P : Prop) (w : World) (e : Ending) (w' : World) : Prop := ∃ b : Bool, (e = .returned (.bool b) ∧ (b = true → P)) ∧ Below w.heap.size w w'
theorem Yes18.no {P : Prop} {w w' : World} {v : Bool} (hv : v = false) (hb : Below w.heap.size w w') : Yes18 P w (.returned (.bool v)) w' := ⟨v, ⟨rfl, fun h => by rw [hv] at h; cases h⟩, hb⟩
def May18 (l : List Od) (n : Nat) : Prop := (∀ k, k < n → OdOK (l.getD k od0)) ∧ n ≤ 20
--%%
set_option maxRecDepth 100000 in
set_option maxHeartbeats 6400000 in
theorem may_c (A : Option Addr) (n c : Nat) (l : List Od) (w : World) (hl : OdSl w A n l) :
    Calls Tryd.prog 9 #[.slice A n c] w (Yes18 (May18 l n) w) := by
  have HL := Lib.hid hl
  have hn9 := hl.2.1
  clear hl
  go_enter Tryd.func9, Tryd.ntmps9
  go_wp2_with fail
  go_loopw [7] (fun i wr => ∃ k : Nat, k ≤ n ∧ i = .int .i64 k ∧ Hid (∀ j, j < k → OdOK (l.getD j od0)) ∧ Below w.heap.size w wr) (fun i _ => n - (intOf i).toNat)
  case atStart => exact ⟨0, Nat.zero_le _, rfl, fun j hj => absurd hj (by omega), b0 _⟩
  case round =>
    obtain ⟨k, hk', rfl, HO, hbl⟩ := hrel
    by_cases hk : k < n
    case neg =>
      obtain rfl : k = n := by omega
      by_cases h20 : k ≤ 20
      · have v : decide ((k : Int) ≤ 20) = true := by simp; omega
        go_wp2_with fail
        go_ret
        exact ⟨_, ⟨rfl, fun _ => ⟨HO.out, h20⟩⟩, hbl⟩
      · have v : decide ((k : Int) ≤ 20) = false := by simp; omega
        go_wp2_with fail
        go_ret
        exact ⟨_, ⟨rfl, fun h => by simp at h⟩, hbl⟩
    obtain ⟨b, off, rfl, hlt, hat⟩ := (HL.out.below hbl).2.2 (by omega)
    have hcl := hat k hk
    have HOK : Hid (OdOK (l.getD k od0) → ∀ j, j < k + 1 → OdOK (l.getD j od0)) := fun h j hj => by
      rcases (by omega : j = k ∨ j < k) with rfl | hj
      · exact h
      · exact HO.out j hj
    have HPV : Hid (0 < k → ∃ p q : Int, wr.cell? ⟨b, off + (k - 1) * 7 + 1, none⟩ = some (.int .i64 p) ∧ wr.cell? ⟨b, off + (k - 1) * 7, none⟩ = some (.int .i64 q)) := fun h0 => ⟨_, _, hat (k - 1) (by omega) 1 _ rfl, hat (k - 1) (by omega) 0 _ rfl⟩
    generalize l.getD k od0 = zz at *
    obtain ⟨id, pr, am, ra, tt, tk, ar⟩ := zz
    obtain ⟨c0, c1, c2, c3, c4, c5, c6⟩ : wr.cell? ⟨b, off + k * 7, none⟩ = some (.int .i64 id) ∧ wr.cell? ⟨b, off + k * 7 + 1, none⟩ = some (.int .i64 pr) ∧ wr.cell? ⟨b, off + k * 7 + 2, none⟩ = some (.int .i64 am) ∧ wr.cell? ⟨b, off + k * 7 + 3, none⟩ = some (.int .i64 ra) ∧ wr.cell? ⟨b, off + k * 7 + 4, none⟩ = some (.int .i64 tt) ∧ wr.cell? ⟨b, off + k * 7 + 5, none⟩ = some (.int .i64 tk) ∧ wr.cell? ⟨b, off + k * 7 + 6, none⟩ = some (.int .i64 ar) := ⟨hcl 0 _ rfl, hcl 1 _ rfl, hcl 2 _ rfl, hcl 3 _ rfl, hcl 4 _ rfl, hcl 5 _ rfl, hcl 6 _ rfl⟩
    have hb1 := bA hbl (.cells #[.int .i64 id, .int .i64 pr, .int .i64 am, .int .i64 ra, .int .i64 tt, .int .i64 tk, .int .i64 ar] 32)
    have yb := Blk.mk wr 32 #[.int .i64 id, .int .i64 pr, .int .i64 am, .int .i64 ra, .int .i64 tt, .int .i64 tk, .int .i64 ar]
    obtain ⟨r, hr⟩ : ∃ r, r = orE id pr am ra tt := ⟨_, rfl⟩
    have KC := Lib.hid (ocheck_c id pr am ra tt)
    rw [← hr] at KC
    have HR := Lib.hid hr
    have hbb : b < (wr.alloc (.cells #[.int .i64 id, .int .i64 pr, .int .i64 am, .int .i64 ra, .int .i64 tt, .int .i64 tk, .int .i64 ar] 32)).heap.size := by rw [World.size_alloc]; omega
    clear hat hcl hr
    go_wp2_with fail
    refine (KC.out _).mono ?_
    rintro e w2 ⟨rfl, hb2⟩
    have hb3 := bT hb1 hb2
    have y2 := yb.t hb2
    obtain ⟨q0, q1, q2, q3, q4, q5, q6⟩ := y2.a7
    clear c0 c1 c2 c3 c4 c5 c6
    by_cases hr0 : r = 0
    case neg =>
      have u : (r != 0) = true := by simpa using hr0
      clear hr0
      go_wp2_with fail
      go_ret
      exact Yes18.no rfl hb3
    have u : (r != 0) = false := by simpa using hr0
    have HO1 := Lib.hid (orE_ok (HR.out.symm.trans hr0))
    clear hr0
    by_cases g1 : tk < 0
    · have v1 : decide (tk < 0) = true := by simpa using g1
      clear g1
      go_wp2_with fail
      go_ret
      exact Yes18.no rfl hb3
    have v1 : decide (tk < 0) = false := by simpa using g1
    by_cases g2 : ar < 0
    · have v2 : decide (ar < 0) = true := by simpa using g2
      clear g1 g2
      go_wp2_with fail
      go_ret
      exact Yes18.no rfl hb3
    have v2 : decide (ar < 0) = false := by simpa using g2
    by_cases g3 : 100000000000 < tk
    · have v3 : decide (100000000000 < tk) = true := by simpa using g3
      clear g1 g2 g3
      go_wp2_with fail
      go_ret
      exact Yes18.no rfl hb3
    have v3 : decide (100000000000 < tk) = false := by simpa using g3
    by_cases g4 : 100000000000 < ar
    · have v4 : decide (100000000000 < ar) = true := by simpa using g4
      clear g1 g2 g3 g4
      go_wp2_with fail
      go_ret
      exact Yes18.no rfl hb3
    have v4 : decide (100000000000 < ar) = false := by simpa using g4
    have HOK2 := Lib.hid (HOK.out ⟨HO1.out, ⟨Int.not_lt.1 g1, Int.not_lt.1 g3⟩, ⟨Int.not_lt.1 g2, Int.not_lt.1 g4⟩⟩)
    clear g1 g2 g3 g4
    by_cases hk0 : k = 0
    · have w0 : decide ((0 : Int) < (k : Int)) = false := by simp; omega
      have w1' : decide (0 < k) = false := by simp; omega
      clear hk0
      go_wp2_with fail
      go_quiet (fail)
      go_wp2_with fail
      go_roundw
      case rel => exact ⟨k + 1, by omega, by go_num, HOK2.out, bD hb3 _⟩
      case measure => simp [intOf]; omega
    obtain ⟨p, q, hp, hq⟩ := HPV.out (by omega)
    have kp : (0 : Int) < (k : Int) := by omega
    have kp2 : decide (0 < k) = true := by simp; omega
    have k1 : IntKind.i64.wrap ((k : Int) - 1) = ((k : Int) - 1) := by rw [IntKind.wrap_i64]; omega
    have k2 : ((k : Int) - 1).toNat = k - 1 := by omega
    have k4 : 0 ≤ ((k : Int) - 1) := by omega
    have k5 : ((k : Int) - 1) < (n : Int) := by omega
    have k6 : (1 : Int) ≤ (k : Int) := by omega
    have k7 : 1 ≤ k := by omega
    have hp2 := (hb2.cell (p := ⟨b, _, none⟩) hbb).trans ((below1 wr (.cells #[.int .i64 id, .int .i64 pr, .int .i64 am, .int .i64 ra, .int .i64 tt, .int .i64 tk, .int .i64 ar] 32)).cell (p := ⟨b, _, none⟩) hlt |>.trans hp)
    have hq2 := (hb2.cell (p := ⟨b, _, none⟩) hbb).trans ((below1 wr (.cells #[.int .i64 id, .int .i64 pr, .int .i64 am, .int .i64 ra, .int .i64 tt, .int .i64 tk, .int .i64 ar] 32)).cell (p := ⟨b, _, none⟩) hlt |>.trans hq)
    clear hp hq hk0 HPV
    by_cases e1 : pr < p
    · have x1 : decide (pr < p) = true := by simpa using e1
      clear e1
      go_wp2_with fail
      go_quiet (fail)
      go_wp2_with fail
      go_ret
      exact Yes18.no rfl (bD hb3 _)
    have x1 : decide (pr < p) = false := by simpa using e1
    by_cases e2 : p = pr
    case neg =>
      have x2 : (p == pr) = false := by simpa using e2
      clear e1 e2
      go_wp2_with fail
      go_quiet (fail)
      go_wp2_with fail
      go_roundw
      case rel => exact ⟨k + 1, by omega, by go_num, HOK2.out, bD hb3 _⟩
      case measure => simp [intOf]; omega
    have x2 : (p == pr) = true := by simpa using e2
    clear e1 e2
    by_cases e3 : id ≤ q
    · have x3 : decide (id ≤ q) = true := by simpa using e3
      clear e3
      go_wp2_with fail
      go_quiet (fail)
      go_wp2_with fail
      go_ret
      exact Yes18.no rfl (bD hb3 _)
    · have x3 : decide (id ≤ q) = false := by simpa using e3
      clear e3
      go_wp2_with fail
      go_quiet (fail)
      go_wp2_with fail
      go_roundw
      case rel => exact ⟨k + 1, by omega, by go_num, HOK2.out, bD hb3 _⟩
      case measure => simp [intOf]; omega
--%%
end Go.Proofs.YtclpchhklcjhhaaDoor
