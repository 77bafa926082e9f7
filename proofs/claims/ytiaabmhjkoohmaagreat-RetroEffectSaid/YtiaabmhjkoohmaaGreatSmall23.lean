/-
 Contract of layer 23's small. Conditions as named.
-/
import Derived.Test.YtiaabmhjkoohmaaGreatM2
namespace Go.Proofs.YtiaabmhjkoohmaaGreat
set_option maxRecDepth 100000
set_option maxHeartbeats 25600000
set_option linter.unusedVariables false
set_option linter.unusedSimpArgs false
open Go.RowKit Tryz
open Lib (hid)
theorem small23_c (A : Option Addr) (n d : Nat) (l : List OpP) (w : World) (h : OpSl w A n l) :
  Calls prog 9 #[.slice A n d] w fun e w' => (∃ r : Bool, e = .returned (.bool r) ∧ (r = true → n ≤ 60 ∧ ∀ k, k < n → (l.getD k op0).m ≤ 40)) ∧ Below w.heap.size w w' := by
 have HR := hid h.1
 have hn9 := h.1.2.1
 clear h
 go_enter func9, ntmps9
 go_wp2_with fail
 go_loopw [7] (fun i wr => ∃ k : Nat, k ≤ n ∧ i = .int .i64 k ∧ Hid (∀ j, j < k → (l.getD j op0).m ≤ 40) ∧ Below w.heap.size w wr) (fun i _ => n - (intOf i).toNat)
 case atStart => exact ⟨0, Nat.zero_le _, rfl, fun j hj => absurd hj (by omega), b0 w⟩
 case round =>
  obtain ⟨k, hk', rfl, HM, hbl⟩ := hrel
  by_cases hk : k < n
  case neg =>
   obtain rfl : k = n := by omega
   by_cases h60 : k ≤ 60
   ·
    have q1 : decide ((k : Int) ≤ 60) = true := decide_eq_true (by omega)
    have HH : Hid (k ≤ 60) := h60
    clear h60 hk hk' hn9
    go_wp2_with fail
    exact bodyPost_ret (v := .bool true) (by simp [results, results9, go_sem]) rfl ⟨⟨true, rfl, fun _ => ⟨HH.out, HM.out⟩⟩, hbl⟩
   ·
    have q1 : decide ((k : Int) ≤ 60) = false := decide_eq_false (by omega)
    clear h60 hk hk' hn9
    go_wp2_with fail
    exact bodyPost_ret (v := .bool false) (by simp [results, results9, go_sem]) rfl ⟨⟨false, rfl, fun h => by cases h⟩, hbl⟩
  obtain ⟨b, off, hA, hlt, hat⟩ := (HR.out.below hbl).2.2 (by omega)
  rw [hA]
  have hc := hat k hk
  have HMX : Hid ((l.getD k op0).m ≤ 40 → ∀ j, j < k + 1 → (l.getD j op0).m ≤ 40) := fun h j hj => by
   rcases (by omega : j = k ∨ j < k) with rfl | hj
   ·
    exact h
   ·
    exact HM.out j hj
  clear hat hA
  generalize l.getD k op0 = x at *
  obtain ⟨⟨zk, zl9, ⟨zs, zc, za, zf, zl⟩, zi, zp, zq, zr, zt, zn⟩, zA, zm, zd⟩ := x
  obtain ⟨x0, x1, x2, x3, x4, x5, x6, x7, x8, x9, x10, x11, x12⟩ : wr.cell? ⟨b, off + k * 13, none⟩ = some (.int .i64 zk) ∧ wr.cell? ⟨b, off + k * 13 + 1, none⟩ = some (.slice zA zm zd) ∧ wr.cell? ⟨b, off + k * 13 + 2, none⟩ = some (.int .i64 zs) ∧ wr.cell? ⟨b, off + k * 13 + 3, none⟩ = some (.int .i64 zc) ∧ wr.cell? ⟨b, off + k * 13 + 4, none⟩ = some (.int .i64 za) ∧ wr.cell? ⟨b, off + k * 13 + 5, none⟩ = some (.int .i64 zf) ∧ wr.cell? ⟨b, off + k * 13 + 6, none⟩ = some (.bool zl) ∧ wr.cell? ⟨b, off + k * 13 + 7, none⟩ = some (.int .i64 zi) ∧ wr.cell? ⟨b, off + k * 13 + 8, none⟩ = some (.int .i64 zp) ∧ wr.cell? ⟨b, off + k * 13 + 9, none⟩ = some (.int .i64 zq) ∧ wr.cell? ⟨b, off + k * 13 + 10, none⟩ = some (.int .i64 zr) ∧ wr.cell? ⟨b, off + k * 13 + 11, none⟩ = some (.int .i64 zt) ∧ wr.cell? ⟨b, off + k * 13 + 12, none⟩ = some (.int .i64 zn) := ⟨hc 0 _ rfl, hc 1 _ rfl, hc 2 _ rfl, hc 3 _ rfl, hc 4 _ rfl, hc 5 _ rfl, hc 6 _ rfl, hc 7 _ rfl, hc 8 _ rfl, hc 9 _ rfl, hc 10 _ rfl, hc 11 _ rfl, hc 12 _ rfl⟩
  dsimp only at HMX
  have hb1 := bA hbl (.cells #[.int .i64 zk, .slice zA zm zd, .int .i64 zs, .int .i64 zc, .int .i64 za, .int .i64 zf, .bool zl, .int .i64 zi, .int .i64 zp, .int .i64 zq, .int .i64 zr, .int .i64 zt, .int .i64 zn] 39)
  have y1 := (Blk.mk wr 39 #[.int .i64 zk, .slice zA zm zd, .int .i64 zs, .int .i64 zc, .int .i64 za, .int .i64 zf, .bool zl, .int .i64 zi, .int .i64 zp, .int .i64 zq, .int .i64 zr, .int .i64 zt, .int .i64 zn]).cv 1 (.slice zA zm zd) rfl
  clear hc
  by_cases h40 : zm ≤ 40
  ·
   have q1 : decide (40 < (zm : Int)) = false := decide_eq_false (by omega)
   have q2 : decide ((zm : Int) > 40) = false := decide_eq_false (by omega)
   have HM2 := hid (HMX.out h40)
   clear h40 HMX
   go_wp2_with fail
   go_roundw
   case rel => exact ⟨k + 1, by omega, by go_num, HM2.out, hb1⟩
   case measure => simp [intOf]; omega
  ·
   have q1 : decide (40 < (zm : Int)) = true := decide_eq_true (by omega)
   have q2 : decide ((zm : Int) > 40) = true := decide_eq_true (by omega)
   clear h40 HMX
   go_wp2_with fail
   exact bodyPost_ret (v := .bool false) (by simp [results, results9, go_sem]) rfl ⟨⟨false, rfl, fun h => by cases h⟩, hb1⟩
end Go.Proofs.YtiaabmhjkoohmaaGreat
