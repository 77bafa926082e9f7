/-
  Layer 6's law PairTotals: its walk. No conditions.
-/
import Derived.Test.YtppkgfkhnnibcaaLaw06
import Derived.LoopN
namespace Go.Proofs.Ytppkgfkhnnibcaa
set_option linter.unusedVariables false
open Go.RowKit
--%%
set_option maxRecDepth 100000 in
set_option maxHeartbeats 1600000 in
theorem pairTotals_walk (A : Option Addr) (n c : Nat) (l : List Sh) (w : World) (h : ShareSl w A n l) : Calls Try.prog 4 #[.slice A n c] w fun e w' => e = .returned (.bool true) ∧ Below w.heap.size w w' := by
  by_cases h50 : 50 < n
  · have h50' : (50 : Int) < (n : Int) := by omega
    go_enter Try.func4, Try.ntmps4
    go_wp2_with fail
    refine (both_c _).mono ?_
    rintro e w1 ⟨rfl, hb1⟩
    go_wp2_with fail
    go_ret
    exact ⟨rfl, hb1⟩
  have h50' : ¬ (50 : Int) < (n : Int) := by omega
  go_enter Try.func4, Try.ntmps4
  go_wp2_with fail
  refine (both_c _).mono ?_
  rintro e w1 ⟨rfl, hb1⟩
  go_wp2_with fail
  have hs1 : ShareSl w1 A n l := by
    obtain ⟨h1, h2, h3⟩ := h
    refine ⟨h1, h2, fun hn => ?_⟩
    obtain ⟨b, off, hA, hlt, hc⟩ := h3 hn
    refine ⟨b, off, hA, Nat.lt_of_lt_of_le hlt hb1.size, fun k hk => ?_⟩
    obtain ⟨c0, c1⟩ := hc k hk
    exact ⟨(hb1.cell (p := ⟨b, _, none⟩) hlt).trans c0, (hb1.cell (p := ⟨b, _, none⟩) hlt).trans c1⟩
  refine (total_c l A n c _ hs1).mono ?_
  rintro e w2 ⟨hcase, hb2⟩
  have hbl2 : Below w.heap.size w w2 := hb1.trans (hb2.mono hb1.size)
  obtain ⟨hn, hm, hc0⟩ := h
  have Hn := Lib.hid hn
  clear hn hs1
  have HC := Lib.hid hc0
  clear hc0
  have hsz2 := hbl2.size
  rcases hcase with ⟨hall, rfl⟩ | ⟨hno, rfl⟩
  · have HA := Lib.hid hall
    clear hall
    have HSA : Hid (sumTo (fun i => (l.getD i sh0).a) n = sumTo (fun i => (l.getD i sh0).a) n) := rfl
    have HSB : Hid (sumTo (fun i => (l.getD i sh0).b) n = sumTo (fun i => (l.getD i sh0).b) n) := rfl
    obtain ⟨TA, hTA⟩ : ∃ TA, TA = sumTo (fun i => (l.getD i sh0).a) n := ⟨_, rfl⟩
    obtain ⟨TB, hTB⟩ : ∃ TB, TB = sumTo (fun i => (l.getD i sh0).b) n := ⟨_, rfl⟩
    rw [← hTA, ← hTB]
    have HTA := Lib.hid hTA
    have HTB := Lib.hid hTB
    clear hTA hTB HSA HSB
    go_wp2_with fail
    go_loopw [5, 6, 24] (fun va vb i wr => ∃ (k : Nat) (sa sb : Int), k ≤ n ∧ i = .int .i64 k ∧ va = .int .i64 sa ∧ vb = .int .i64 sb ∧ Hid (sa = sumTo (fun i => (l.getD i sh0).a) k) ∧ Hid (sb = sumTo (fun i => (l.getD i sh0).b) k) ∧ mrB sa = true ∧ mrB sb = true ∧
        Below w.heap.size w wr ∧ Blk wr w2.heap.size 36 #[.int .i64 TA, .int .i64 TB]) (fun _ _ i _ => n - (intOf i).toNat)
    case atStart => exact ⟨0, 0, 0, Nat.zero_le _, rfl, rfl, rfl, rfl, rfl, by decide, by decide, hbl2.alloc hbl2.size _, Blk.mk _ _ _⟩
    case round =>
      obtain ⟨k, sa, sb, hk', rfl, rfl, rfl, hsa, hsb, ma, mb, hbl, z1⟩ := hrel
      obtain ⟨a0, a1, e0, e1⟩ := z1.all2
      have hma := mr_iff.1 ma
      have hmb := mr_iff.1 mb
      have hl1 := z1.lt
      by_cases hk : k < n
      case neg =>
        have ekn : n = k := by omega
        have e1 : TA = sa := by rw [HTA.out, hsa.out, ekn]
        have e2 : TB = sb := by rw [HTB.out, hsb.out, ekn]
        subst e1; subst e2
        clear ekn
        go_wp2_with fail
        go_ret
        exact ⟨rfl, hbl⟩
      obtain ⟨b, off, rfl, hb, hc⟩ := HC.out (by omega)
      obtain ⟨c0, c1⟩ := hc k (by rw [← Hn.out]; exact hk)
      rw [← hbl.cell (p := ⟨b, _, none⟩) hb] at c0 c1
      have htk : totAt l k = (mrB (l.getD k sh0).a && mrB (l.getD k sh0).b && mrB (sa + (l.getD k sh0).a) && mrB (sb + (l.getD k sh0).b)) := by
        rw [totAt, sumTo, sumTo, ← hsa.out, ← hsb.out]
      have n1 : Hid (sa + (l.getD k sh0).a = sumTo (fun i => (l.getD i sh0).a) (k + 1)) := by unfold Hid; rw [sumTo, ← hsa.out]
      have n2 : Hid (sb + (l.getD k sh0).b = sumTo (fun i => (l.getD i sh0).b) (k + 1)) := by unfold Hid; rw [sumTo, ← hsb.out]
      have HT := Lib.hid htk
      clear htk hc
      have hsz := hbl.size
      generalize (l.getD k sh0).a = x at *
      generalize (l.getD k sh0).b = y at *
      have i0 : ∀ w, (Instr.index 39 (.agg #[.int .i64 x, .int .i64 y]) (.int .i64 0)).run Try.prog w = .ok (.int .i64 x) w := fun _ => by kernel_rfl
      have i1 : ∀ w, (Instr.index 39 (.agg #[.int .i64 x, .int .i64 y]) (.int .i64 1)).run Try.prog w = .ok (.int .i64 y) w := fun _ => by kernel_rfl
      have hgo := HA.out k hk
      rw [HT.out] at hgo
      simp only [Bool.and_eq_true] at hgo
      obtain ⟨⟨⟨o1, o2⟩, o3⟩, o4⟩ := hgo
      have hx := mr_iff.1 o1
      have hy := mr_iff.1 o2
      have hsx := mr_iff.1 o3
      have hsy := mr_iff.1 o4
      go_wp2_with fail
      refine wp_loop_rounds 3 ?_
      rw [rounds_succ]
      go_wp2_with fail
      rw [rounds_succ]
      go_wp2_with fail
      rw [rounds_succ]
      go_wp2_with fail
      go_quiet (fail)
      go_wp2_with fail
      go_roundw
      case rel => exact ⟨k + 1, _, _, by omega, by go_num, rfl, rfl, n1, n2, o3, o4, below_drewN (hbl.alloc hsz _) _, (z1.alloc _).drewN _⟩
      case measure => simp [intOf]; omega
  · have HN := Lib.hid hno
    clear hno
    go_wp2_with fail
    go_loopw [5, 6, 24] (fun va vb i wr => ∃ (k : Nat) (sa sb : Int), k ≤ n ∧ i = .int .i64 k ∧ va = .int .i64 sa ∧ vb = .int .i64 sb ∧ Hid (sa = sumTo (fun i => (l.getD i sh0).a) k) ∧ Hid (sb = sumTo (fun i => (l.getD i sh0).b) k) ∧ Hid (∀ j, j < k → totAt l j = true) ∧ mrB sa = true ∧ mrB sb = true ∧
        Below w.heap.size w wr ∧ Blk wr w2.heap.size 36 #[.int .i64 0, .int .i64 0]) (fun _ _ i _ => n - (intOf i).toNat)
    case atStart => exact ⟨0, 0, 0, Nat.zero_le _, rfl, rfl, rfl, rfl, rfl, fun j hj => by omega, by decide, by decide, hbl2.alloc hbl2.size _, Blk.mk _ _ _⟩
    case round =>
      obtain ⟨k, sa, sb, hk', rfl, rfl, rfl, hsa, hsb, hok, ma, mb, hbl, z1⟩ := hrel
      obtain ⟨a0, a1, e0, e1⟩ := z1.all2
      have hma := mr_iff.1 ma
      have hmb := mr_iff.1 mb
      have hl1 := z1.lt
      by_cases hk : k < n
      case neg =>
        obtain ⟨j, hj, hbad⟩ := HN.out
        have := hok.out j (by omega)
        rw [hbad] at this
        cases this
      obtain ⟨b, off, rfl, hb, hc⟩ := HC.out (by omega)
      obtain ⟨c0, c1⟩ := hc k (by rw [← Hn.out]; exact hk)
      rw [← hbl.cell (p := ⟨b, _, none⟩) hb] at c0 c1
      have htk : totAt l k = (mrB (l.getD k sh0).a && mrB (l.getD k sh0).b && mrB (sa + (l.getD k sh0).a) && mrB (sb + (l.getD k sh0).b)) := by
        rw [totAt, sumTo, sumTo, ← hsa.out, ← hsb.out]
      have n1 : Hid (sa + (l.getD k sh0).a = sumTo (fun i => (l.getD i sh0).a) (k + 1)) := by unfold Hid; rw [sumTo, ← hsa.out]
      have n2 : Hid (sb + (l.getD k sh0).b = sumTo (fun i => (l.getD i sh0).b) (k + 1)) := by unfold Hid; rw [sumTo, ← hsb.out]
      have HT := Lib.hid htk
      clear htk hc
      have hsz := hbl.size
      generalize (l.getD k sh0).a = x at *
      generalize (l.getD k sh0).b = y at *
      have i0 : ∀ w, (Instr.index 39 (.agg #[.int .i64 x, .int .i64 y]) (.int .i64 0)).run Try.prog w = .ok (.int .i64 x) w := fun _ => by kernel_rfl
      have i1 : ∀ w, (Instr.index 39 (.agg #[.int .i64 x, .int .i64 y]) (.int .i64 1)).run Try.prog w = .ok (.int .i64 y) w := fun _ => by kernel_rfl
      by_cases o1 : mrB x = true
      case neg =>
        have o' := mr_not.1 (by simpa using o1 : mrB (x) = false)
        clear o1
        by_cases hlo : 100000000000 < x
        · skip
          go_wp2_with fail
          refine wp_loop_rounds 3 ?_
          rw [rounds_succ]
          go_wp2_with fail
          go_ret
          exact ⟨rfl, hbl.alloc hsz _⟩
        · have hlo2 : x < -100000000000 := by omega
          clear o'
          go_wp2_with fail
          refine wp_loop_rounds 3 ?_
          rw [rounds_succ]
          go_wp2_with fail
          go_ret
          exact ⟨rfl, hbl.alloc hsz _⟩
      by_cases o2 : mrB y = true
      case neg =>
        have o' := mr_not.1 (by simpa using o2 : mrB (y) = false)
        clear o2
        have hx := mr_iff.1 o1
        by_cases hlo : 100000000000 < y
        · skip
          go_wp2_with fail
          refine wp_loop_rounds 3 ?_
          rw [rounds_succ]
          go_wp2_with fail
          rw [rounds_succ]
          go_wp2_with fail
          go_ret
          exact ⟨rfl, hbl.alloc hsz _⟩
        · have hlo2 : y < -100000000000 := by omega
          clear o'
          go_wp2_with fail
          refine wp_loop_rounds 3 ?_
          rw [rounds_succ]
          go_wp2_with fail
          rw [rounds_succ]
          go_wp2_with fail
          go_ret
          exact ⟨rfl, hbl.alloc hsz _⟩
      by_cases o3 : mrB (sa + x) = true
      case neg =>
        have o' := mr_not.1 (by simpa using o3 : mrB (sa + x) = false)
        clear o3
        have hx := mr_iff.1 o1
        have hy := mr_iff.1 o2
        by_cases hlo : 100000000000 < sa + x
        · skip
          go_wp2_with fail
          refine wp_loop_rounds 3 ?_
          rw [rounds_succ]
          go_wp2_with fail
          rw [rounds_succ]
          go_wp2_with fail
          rw [rounds_succ]
          go_wp2_with fail
          go_quiet (fail)
          go_wp2_with fail
          go_ret
          exact ⟨rfl, below_drewN (hbl.alloc hsz _) _⟩
        · have hlo2 : sa + x < -100000000000 := by omega
          clear o'
          go_wp2_with fail
          refine wp_loop_rounds 3 ?_
          rw [rounds_succ]
          go_wp2_with fail
          rw [rounds_succ]
          go_wp2_with fail
          rw [rounds_succ]
          go_wp2_with fail
          go_quiet (fail)
          go_wp2_with fail
          go_ret
          exact ⟨rfl, below_drewN (hbl.alloc hsz _) _⟩
      by_cases o4 : mrB (sb + y) = true
      case neg =>
        have o' := mr_not.1 (by simpa using o4 : mrB (sb + y) = false)
        clear o4
        have hx := mr_iff.1 o1
        have hy := mr_iff.1 o2
        have hsx := mr_iff.1 o3
        by_cases hlo : 100000000000 < sb + y
        · skip
          go_wp2_with fail
          refine wp_loop_rounds 3 ?_
          rw [rounds_succ]
          go_wp2_with fail
          rw [rounds_succ]
          go_wp2_with fail
          rw [rounds_succ]
          go_wp2_with fail
          go_quiet (fail)
          go_wp2_with fail
          go_ret
          exact ⟨rfl, below_drewN (hbl.alloc hsz _) _⟩
        · have hlo2 : sb + y < -100000000000 := by omega
          clear o'
          go_wp2_with fail
          refine wp_loop_rounds 3 ?_
          rw [rounds_succ]
          go_wp2_with fail
          rw [rounds_succ]
          go_wp2_with fail
          rw [rounds_succ]
          go_wp2_with fail
          go_quiet (fail)
          go_wp2_with fail
          go_ret
          exact ⟨rfl, below_drewN (hbl.alloc hsz _) _⟩
      have hgood : Hid (totAt l k = true) := by
        unfold Hid
        rw [HT.out]
        simp [o1, o2, o3, o4]
      have hx := mr_iff.1 o1
      have hy := mr_iff.1 o2
      have hsx := mr_iff.1 o3
      have hsy := mr_iff.1 o4
      go_wp2_with fail
      refine wp_loop_rounds 3 ?_
      rw [rounds_succ]
      go_wp2_with fail
      rw [rounds_succ]
      go_wp2_with fail
      rw [rounds_succ]
      go_wp2_with fail
      go_quiet (fail)
      go_wp2_with fail
      go_roundw
      case rel => exact ⟨k + 1, _, _, by omega, by go_num, rfl, rfl, n1, n2, fun j hj => by
        rcases (by omega : j = k ∨ j < k) with rfl | hj
        · exact hgood.out
        · exact hok.out j hj, o3, o4, below_drewN (hbl.alloc hsz _) _, (z1.alloc _).drewN _⟩
      case measure => simp [intOf]; omega
--%%
end Go.Proofs.Ytppkgfkhnnibcaa
