/-
  Contract of element.Change. Conditions as named.
-/
import Derived.Test.YtbpdgkaohfmabaaDoorElem
namespace Go.Proofs.YtbpdgkaohfmabaaDoor
set_option linter.unusedVariables false
open Go.RowKit
theorem str_neq {a b : ByteArray} (h : a ≠ b) : (a.toList == b.toList) = false := by
  rw [beq_eq_false_iff_ne]
  intro e
  rw [ByteArray.toList_eq, ByteArray.toList_eq] at e
  apply h
  cases a; cases b
  simp at e
  rw [e]
def OwnEl (w : World) (base : Nat) (v : Value) (n : Nat) (l : List El) : Prop := n = l.length ∧ w.ownsRow base 23 3 v n (l.flatMap elC)
theorem info_el : (Tryd.prog.info? 23).map (fun i => (i.zero, i.size, i.bytes)) = some (some (.agg #[.string ⟨#[]⟩, .int .i64 0, .int .i64 0]), 3, 32) := by kernel_rfl
theorem OwnEl.sl {w : World} {base : Nat} {v : Value} {n : Nat} {l : List El} (h : OwnEl w base v n l) : ∃ A c, v = .slice A n c ∧ ElSl w A n l := by
  obtain ⟨A, c, rfl, _, hs⟩ := own_sl elC 3 el0 elC_len h.2 h.1 (by decide)
  exact ⟨A, c, rfl, hs⟩
theorem OwnEl.below {w w' : World} {base : Nat} {v : Value} {n : Nat} {l : List El} (h : OwnEl w base v n l) (hb : Below w.heap.size w w') : OwnEl w' base v n l := ⟨h.1, own_below h.2 hb⟩
/-- the first k elements, those of a kind being one of an amount; was there one? -/
def chT (kd : ByteArray) (am : Int) (L : List El) : Nat → List El × Bool
  | 0 => ([], decide (am = 0))
  | k + 1 => if (L.getD k el0).k ≠ kd then ((chT kd am L k).1 ++ [L.getD k el0], (chT kd am L k).2) else if (chT kd am L k).2 = false then ((chT kd am L k).1 ++ [⟨kd, am, 100⟩], true) else chT kd am L k
def chL (kd : ByteArray) (am : Int) (L : List El) (n : Nat) : List El := if (chT kd am L n).2 = false then (chT kd am L n).1 ++ [⟨kd, am, 100⟩] else (chT kd am L n).1
theorem chT_len (kd : ByteArray) (am : Int) (L : List El) (k : Nat) : (chT kd am L k).1.length ≤ k := by
  induction k with
  | zero => simp [chT]
  | succ k ih =>
    rw [chT]
    split
    · simp; omega
    · split
      · simp; omega
      · omega
--%%
set_option maxRecDepth 100000 in
set_option maxHeartbeats 3200000 in
theorem echange_c (kd : ByteArray) (am : Int) (A : Option Addr) (n c : Nat) (L : List El) (w : World) (hl : ElSl w A n L) (hn8 : n ≤ 1000) :
    Calls Tryd.prog 16 #[.string kd, .int .i64 am, .slice A n c] w fun e w' => (∃ v, e = .returned v ∧ OwnEl w' w.heap.size v (chL kd am L n).length (chL kd am L n)) ∧ Below w.heap.size w w' := by
  have HL := Lib.hid hl
  have H0 : Hid (chT kd am L 0 = ([], (am == 0))) := by unfold Hid; rw [chT]; rfl
  have KO := Lib.hid (fun W => eof_c kd am W)
  have HF : Hid (chL kd am L n = if (chT kd am L n).2 = false then (chT kd am L n).1 ++ [⟨kd, am, 100⟩] else (chT kd am L n).1) := rfl
  generalize hcl : chL kd am L n = R at *
  clear hcl hl
  go_enter Tryd.func16, Tryd.ntmps16
  go_wp2_with fail
  go_loopw [7, 8, 15] (fun v d i wr => ∃ k : Nat, k ≤ n ∧ i = .int .i64 k ∧ d = .bool (chT kd am L k).2 ∧ OwnEl wr w.heap.size v (chT kd am L k).1.length (chT kd am L k).1 ∧ Below w.heap.size w wr) (fun _ _ i _ => n - (intOf i).toNat)
  case atStart => exact ⟨0, Nat.zero_le _, rfl, by rw [H0.out], by rw [H0.out]; exact ⟨by simp, World.ownsRow_nil _ _ _ _⟩, b0 _⟩
  case round =>
    obtain ⟨k, hk', rfl, rfl, ho, hbl⟩ := hrel
    have HOL := Lib.hid (chT_len kd am L k)
    have hsz := hbl.size
    by_cases hk : k < n
    case neg =>
      obtain rfl : k = n := by omega
      have hcl := HOL.out
      generalize chT kd am L k = P at *
      obtain ⟨pl, pd⟩ := P
      dsimp only at ho HF hcl
      have HO := Lib.hid ho
      clear ho HOL
      cases pd
      · go_wp2_with fail
        refine (KO.out _).mono ?_
        rintro e w2 ⟨rfl, hb2⟩
        have hb3 := bT hbl hb2
        have hsz3 := hb3.size
        have HO2 := Lib.hid (own_below HO.out.2 hb2)
        go_wp2_with (at_builtin; refine wpList_app1 _ rfl _ _ 36 rfl 23 _ 3 32 Tryd.underlying36 info_el rfl (by decide) rfl HO2.out _ rfl (by first | rfl | simp) rfl (by simp [Value.oneCell']) (by omega) (by omega) (by first | omega | (simp; omega)) ?_; intro v' w6 ho' hg)
        go_ret
        have e : R = pl ++ [⟨kd, am, 100⟩] := HF.out.trans (if_pos (by decide))
        subst e
        exact ⟨⟨_, rfl, rfl, by simpa [elC] using ho'⟩, bP hb3 HO2.out hg (Nat.le_refl _)⟩
      · go_wp2_with fail
        go_ret
        have e : R = pl := HF.out.trans (if_neg (by decide))
        subst e
        exact ⟨⟨_, rfl, HO.out⟩, hbl⟩
    obtain ⟨b, off, rfl, hlt, hat⟩ := (HL.out.below hbl).2.2 (by omega)
    have hc := hat k hk
    have HS : Hid (chT kd am L (k + 1) = if (L.getD k el0).k ≠ kd then ((chT kd am L k).1 ++ [L.getD k el0], (chT kd am L k).2) else if (chT kd am L k).2 = false then ((chT kd am L k).1 ++ [⟨kd, am, 100⟩], true) else chT kd am L k) := rfl
    have hcl := HOL.out
    generalize chT kd am L k = P at *
    obtain ⟨pl, pd⟩ := P
    dsimp only at ho HS hcl
    generalize L.getD k el0 = zz at *
    obtain ⟨zk, za, zu⟩ := zz
    dsimp only at HS
    obtain ⟨c0, c1, c2⟩ : wr.cell? ⟨b, off + k * 3, none⟩ = some (.string zk) ∧ wr.cell? ⟨b, off + k * 3 + 1, none⟩ = some (.int .i64 za) ∧ wr.cell? ⟨b, off + k * 3 + 2, none⟩ = some (.int .i64 zu) := ⟨hc 0 _ rfl, hc 1 _ rfl, hc 2 _ rfl⟩
    have HO := Lib.hid ho
    clear ho hc hat HOL
    have hsz2 : w.heap.size ≤ (wr.alloc (.cells #[.string zk, .int .i64 za, .int .i64 zu] 23)).heap.size := by simp; omega
    have hb2 := bA hbl (.cells #[.string zk, .int .i64 za, .int .i64 zu] 23)
    by_cases he : zk = kd
    case neg =>
      have v1 := str_neq he
      have HO2 := Lib.hid (HO.out.2.alloc (.cells #[.string zk, .int .i64 za, .int .i64 zu] 23))
      have HS2 : Hid (chT kd am L (k + 1) = (pl ++ [⟨zk, za, zu⟩], pd)) := HS.out.trans (if_pos he)
      clear he HS
      go_wp2_with (at_builtin; refine wpList_app1 _ rfl _ _ 36 rfl 23 _ 3 32 Tryd.underlying36 info_el rfl (by decide) rfl HO2.out _ rfl (by first | rfl | simp) rfl (by simp [Value.oneCell']) (by omega) (by omega) (by first | omega | (simp; omega)) ?_; intro v' w6 ho' hg)
      go_roundw
      case rel => exact ⟨k + 1, by omega, by go_num, by rw [HS2.out], by rw [HS2.out]; exact ⟨rfl, by simpa [elC] using ho'⟩, bP hb2 HO2.out hg (Nat.le_refl _)⟩
      case measure => simp [intOf]; omega
    subst he
    have v1 : (zk.toList == zk.toList) = true := by simp
    cases pd
    · have HS2 : Hid (chT zk am L (k + 1) = (pl ++ [⟨zk, am, 100⟩], true)) := HS.out.trans ((if_neg (by simp)).trans (if_pos rfl))
      clear HS
      go_wp2_with fail
      refine (KO.out _).mono ?_
      rintro e w2 ⟨rfl, hb3⟩
      have hb4 := bT hb2 hb3
      have hsz4 := hb4.size
      have HO2 := Lib.hid (own_below (HO.out.2.alloc (.cells #[.string zk, .int .i64 za, .int .i64 zu] 23)) hb3)
      go_wp2_with (at_builtin; refine wpList_app1 _ rfl _ _ 36 rfl 23 _ 3 32 Tryd.underlying36 info_el rfl (by decide) rfl HO2.out _ rfl (by first | rfl | simp) rfl (by simp [Value.oneCell']) (by omega) (by omega) (by first | omega | (simp; omega)) ?_; intro v' w6 ho' hg)
      go_roundw
      case rel => exact ⟨k + 1, by omega, by go_num, by rw [HS2.out], by rw [HS2.out]; exact ⟨rfl, by simpa [elC] using ho'⟩, bP hb4 HO2.out hg (Nat.le_refl _)⟩
      case measure => simp [intOf]; omega
    · have HS2 : Hid (chT zk am L (k + 1) = (pl, true)) := HS.out.trans ((if_neg (by simp)).trans (if_neg (by simp)))
      clear HS
      go_wp2_with fail
      go_roundw
      case rel => exact ⟨k + 1, by omega, by go_num, by rw [HS2.out], by rw [HS2.out]; exact ⟨HO.out.1, HO.out.2.alloc _⟩, hb2⟩
      case measure => simp [intOf]; omega
--%%
end Go.Proofs.YtbpdgkaohfmabaaDoor
