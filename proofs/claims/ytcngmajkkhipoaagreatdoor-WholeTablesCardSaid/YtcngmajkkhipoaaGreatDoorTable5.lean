/-
  Contract of table.Check: an answer 0 tells that the table may be. Conditions as named.
-/
import Derived.Test.YtcngmajkkhipoaaGreatDoorTable4
import Derived.LoopN
namespace Go.Proofs.YtcngmajkkhipoaaGreatDoor
set_option linter.unusedVariables false
open Go.RowKit
/-- may a table be? -/
structure TbOK (sch : List (List Bd)) (cts : List Ct) (kds : List Kd) (lim rnd : Int) : Prop where
  lim : rateB lim = true
  rnd : modeB rnd = true
  sn : 1 ≤ sch.length
  sch : ∀ k, k < sch.length → ScOK (sch.getD k [])
  cts : ∀ k, k < cts.length → CtOK (cts.getD k ct0)
  kds : ∀ k, k < kds.length → KdOK (kds.getD k kd0)
theorem sB5 {w W W1 : World} {B : Nat} {v0 v1 v2 v3 v4 : Value} (hB : B = w.heap.size)
    (h : W.cell? ⟨B, 0, none⟩ = some v0 ∧ W.cell? ⟨B, 1, none⟩ = some v1 ∧ W.cell? ⟨B, 2, none⟩ = some v2 ∧ W.cell? ⟨B, 3, none⟩ = some v3 ∧ W.cell? ⟨B, 4, none⟩ = some v4 ∧ w.heap.size < W.heap.size ∧ Below w.heap.size w W) (hb : Below W.heap.size W W1) :
    W1.cell? ⟨B, 0, none⟩ = some v0 ∧ W1.cell? ⟨B, 1, none⟩ = some v1 ∧ W1.cell? ⟨B, 2, none⟩ = some v2 ∧ W1.cell? ⟨B, 3, none⟩ = some v3 ∧ W1.cell? ⟨B, 4, none⟩ = some v4 ∧ w.heap.size < W1.heap.size ∧ Below w.heap.size w W1 := by
  obtain ⟨h0, h1, h2, h3, h4, h5, h6⟩ := h
  have hlt : B < W.heap.size := by omega
  have e : ∀ o, W1.cell? ⟨B, o, none⟩ = W.cell? ⟨B, o, none⟩ := fun o => hb.cell (p := ⟨B, o, none⟩) hlt
  exact ⟨(e _).trans h0, (e _).trans h1, (e _).trans h2, (e _).trans h3, (e _).trans h4, Nat.lt_of_lt_of_le h5 hb.size, h6.trans (hb.mono h6.size)⟩
--%%
set_option maxRecDepth 100000 in
set_option maxHeartbeats 1600000 in
theorem tcheck_c (sch : List (List Bd)) (cts : List Ct) (kds : List Kd) (As Ac Ak : Option Addr) (ns cs nc cc nk ck : Nat) (lim rnd : Int) (w : World) (hs : ScSl w As ns sch) (hc : CtSl w Ac nc cts) (hcc : nc ≤ cc) (hk : KdSl w Ak nk kds) (hck : nk ≤ ck) :
    Calls Tryz.prog 7 #[.agg #[.slice As ns cs, .slice Ac nc cc, .slice Ak nk ck, .int .i64 lim, .int .i64 rnd]] w (Tells (TbOK sch cts kds lim rnd) w) := by
  have z := Blk.mk w 26 #[.slice As ns cs, .slice Ac nc cc, .slice Ak nk ck, .int .i64 lim, .int .i64 rnd]
  obtain ⟨z0, z1, z2, z3, z4⟩ := z.all5
  cases hl : rateB lim
  · go_enter Tryz.func7, Tryz.ntmps7
    go_wp2_with fail
    refine (rate_f lim hl _).mono ?_
    rintro e w' ⟨rfl, rfl⟩
    go_wp2_with fail
    go_ret
    exact ⟨_, ⟨rfl, fun h => absurd h (by decide)⟩, below1 _ _⟩
  cases hm : modeB rnd
  · go_enter Tryz.func7, Tryz.ntmps7
    go_wp2_with fail
    refine (rate_t lim hl _).mono ?_
    rintro e w' ⟨rfl, rfl⟩
    go_wp2_with fail
    refine (mode_f rnd hm _).mono ?_
    rintro e w' ⟨rfl, rfl⟩
    go_wp2_with fail
    go_ret
    exact ⟨_, ⟨rfl, fun h => absurd h (by decide)⟩, below1 _ _⟩
  have K1 : Hid (∀ W : World, Below w.heap.size w W → Calls Tryz.prog 20 #[.agg #[.slice As ns cs, .slice Ac nc cc, .slice Ak nk ck, .int .i64 lim, .int .i64 rnd]] W (Tells (1 ≤ ns ∧ ∀ k, k < ns → ScOK (sch.getD k [])) W)) := fun W h => schemes_c sch As Ac Ak ns cs nc cc nk ck lim rnd W (hs.below h)
  have K2 : Hid (∀ W : World, Below w.heap.size w W → Calls Tryz.prog 21 #[.agg #[.slice As ns cs, .slice Ac nc cc, .slice Ak nk ck, .int .i64 lim, .int .i64 rnd]] W (Tells (∀ k, k < nc → CtOK (cts.getD k ct0)) W)) := fun W h => contribs_c cts As Ac Ak ns cs nc cc nk ck lim rnd W (hc.below h) hcc
  have K3 : Hid (∀ W : World, Below w.heap.size w W → Calls Tryz.prog 22 #[.agg #[.slice As ns cs, .slice Ac nc cc, .slice Ak nk ck, .int .i64 lim, .int .i64 rnd]] W (Tells (∀ k, k < nk → KdOK (kds.getD k kd0)) W)) := fun W h => kinds_c kds As Ac Ak ns cs nc cc nk ck lim rnd W (hk.below h) hck
  have HN : Hid (ns = sch.length ∧ nc = cts.length ∧ nk = kds.length) := ⟨hs.1, hc.1, hk.1⟩
  clear hs hc hk hcc hck
  have hb0 := below1 w (.cells #[.slice As ns cs, .slice Ac nc cc, .slice Ak nk ck, .int .i64 lim, .int .i64 rnd] 26)
  go_enter Tryz.func7, Tryz.ntmps7
  go_wp2_with fail
  refine (rate_t lim hl _).mono ?_
  rintro e w' ⟨rfl, rfl⟩
  go_wp2_with fail
  refine (mode_t rnd hm _).mono ?_
  rintro e w' ⟨rfl, rfl⟩
  go_wp2_with fail
  go_region_held3 (fun W => W.cell? ⟨w.heap.size, 0, none⟩ = some (.slice As ns cs) ∧ W.cell? ⟨w.heap.size, 1, none⟩ = some (.slice Ac nc cc) ∧ W.cell? ⟨w.heap.size, 2, none⟩ = some (.slice Ak nk ck) ∧ W.cell? ⟨w.heap.size, 3, none⟩ = some (.int .i64 lim) ∧ W.cell? ⟨w.heap.size, 4, none⟩ = some (.int .i64 rnd) ∧ w.heap.size < W.heap.size ∧ Below w.heap.size w W)
    (first | assumption | exact ⟨z0, z1, z2, z3, z4, by simp, hb0.drew⟩ | (apply sB5 rfl <;> assumption))
    (first
      | (go_at_call 20; refine (K1.out _ (by first | assumption | exact hb0.drew | exact (show _ ∧ _ ∧ _ ∧ _ ∧ _ ∧ _ ∧ _ from by assumption).2.2.2.2.2.2)).mono ?_; rintro e w1 ⟨r1, ⟨rfl, hr1⟩, hb1⟩)
      | (go_at_call 21; refine (K2.out _ (by first | assumption | exact hb0.drew | exact (show _ ∧ _ ∧ _ ∧ _ ∧ _ ∧ _ ∧ _ from by assumption).2.2.2.2.2.2)).mono ?_; rintro e w1 ⟨r2, ⟨rfl, hr2⟩, hb1⟩)
      | (go_at_call 22; refine (K3.out _ (by first | assumption | exact hb0.drew | exact (show _ ∧ _ ∧ _ ∧ _ ∧ _ ∧ _ ∧ _ from by assumption).2.2.2.2.2.2)).mono ?_; rintro e w1 ⟨r3, ⟨rfl, hr3⟩, hb1⟩))
  have bl : Below w.heap.size w _ := (show _ ∧ _ ∧ _ ∧ _ ∧ _ ∧ _ ∧ _ from by assumption).2.2.2.2.2.2
  have H1 := Lib.hid hr1
  have H2 := Lib.hid hr2
  have H3 := Lib.hid hr3
  clear hr1 hr2 hr3
  have i0 : ∀ w, (Instr.index 60 (.agg #[.int .i64 r1, .int .i64 r2, .int .i64 r3]) (.int .i64 0)).run Tryz.prog w = .ok (.int .i64 r1) w := fun _ => by kernel_rfl
  have i1 : ∀ w, (Instr.index 60 (.agg #[.int .i64 r1, .int .i64 r2, .int .i64 r3]) (.int .i64 1)).run Tryz.prog w = .ok (.int .i64 r2) w := fun _ => by kernel_rfl
  have i2 : ∀ w, (Instr.index 60 (.agg #[.int .i64 r1, .int .i64 r2, .int .i64 r3]) (.int .i64 2)).run Tryz.prog w = .ok (.int .i64 r3) w := fun _ => by kernel_rfl
  cases t1 : r1 != 0
  case true =>
    have n1 : Hid (r1 ≠ 0) := by unfold Hid; simpa using t1
    go_wp2_with fail
    refine wp_loop_rounds 4 ?_
    rw [rounds_succ]
    go_wp2_with fail
    go_ret
    exact ⟨_, ⟨rfl, fun h => absurd h n1.out⟩, bl⟩
  cases t2 : r2 != 0
  case true =>
    have n2 : Hid (r2 ≠ 0) := by unfold Hid; simpa using t2
    go_wp2_with fail
    refine wp_loop_rounds 4 ?_
    rw [rounds_succ]
    go_wp2_with fail
    rw [rounds_succ]
    go_wp2_with fail
    go_ret
    exact ⟨_, ⟨rfl, fun h => absurd h n2.out⟩, bl⟩
  cases t3 : r3 != 0
  case true =>
    have n3 : Hid (r3 ≠ 0) := by unfold Hid; simpa using t3
    go_wp2_with fail
    refine wp_loop_rounds 4 ?_
    rw [rounds_succ]
    go_wp2_with fail
    rw [rounds_succ]
    go_wp2_with fail
    rw [rounds_succ]
    go_wp2_with fail
    go_ret
    exact ⟨_, ⟨rfl, fun h => absurd h n3.out⟩, bl⟩
  have n1 : Hid (r1 = 0) := by unfold Hid; simpa using t1
  have n2 : Hid (r2 = 0) := by unfold Hid; simpa using t2
  have n3 : Hid (r3 = 0) := by unfold Hid; simpa using t3
  go_wp2_with fail
  refine wp_loop_rounds 4 ?_
  rw [rounds_succ]
  go_wp2_with fail
  rw [rounds_succ]
  go_wp2_with fail
  rw [rounds_succ]
  go_wp2_with fail
  rw [rounds_succ]
  go_wp2_with fail
  go_ret
  refine ⟨_, ⟨rfl, fun _ => ?_⟩, bl⟩
  have h1 := H1.out n1.out
  have h2 := H2.out n2.out
  have h3 := H3.out n3.out
  obtain ⟨e1, e2, e3⟩ := HN.out
  exact ⟨hl, hm, by omega, by rw [← e1]; exact h1.2, by rw [← e2]; exact h2, by rw [← e3]; exact h3⟩
--%%
end Go.Proofs.YtcngmajkkhipoaaGreatDoor
