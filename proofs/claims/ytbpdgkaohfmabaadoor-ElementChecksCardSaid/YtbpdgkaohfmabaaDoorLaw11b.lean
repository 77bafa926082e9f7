/-
  Layer 11's law ElementValues: its walk. Conditions as named.
-/
import Derived.Test.YtbpdgkaohfmabaaDoorLaw11
namespace Go.Proofs.YtbpdgkaohfmabaaDoor
set_option linter.unusedVariables false
open Go.RowKit
set_option maxRecDepth 100000 in
set_option maxHeartbeats 3200000 in
theorem elementValues_walk (k : ByteArray) (a u : Int) (w : World) (ha : -9223372036854775808 ≤ a ∧ a ≤ 9223372036854775807) (hu : -9223372036854775808 ≤ u ∧ u ≤ 9223372036854775807) (htab : Tab w) :
    Calls Tryd.prog 3 #[.agg #[.string k, .int .i64 a, .int .i64 u]] w fun e w' => e = .returned (.bool true) ∧ Below w.heap.size w w' := by
  have hb0 := below1 w (.cells #[.string k, .int .i64 a, .int .i64 u] 23)
  have y := Blk.mk w 23 #[.string k, .int .i64 a, .int .i64 u]
  have HT := Lib.hid (htab.t hb0)
  have KV := Lib.hid (fun W => evalue_c k a u W _ _ rfl rfl)
  obtain ⟨a0, a1⟩ := ha
  obtain ⟨u0, u1⟩ := hu
  clear htab
  by_cases g1 : 100000000000 < a
  · have h1 : mrB a = false := mr_f (by omega)
    have e1 : elE a u = 10 := by unfold elE; rw [if_pos h1]
    have e2 : elV a u = 0 := by unfold elV; rw [if_neg (by rw [e1]; decide)]
    rw [e1, e2] at KV
    have v1 : decide (100000000000 < a) = true := by simpa using g1
    clear g1 h1 e1 e2
    go_enter Tryd.func3, Tryd.ntmps3; go_wp2_with fail; (refine (worths_c _ HT.out).mono ?_); (rintro e w1 ⟨rfl, hb1⟩); have hB1 := bT hb0 hb1; have y1 := y.t hb1; have q0 := y1.cell 0; have q1 := y1.cell 1; have q2 := y1.cell 2; go_wp2_with fail; (refine (KV.out _).mono ?_); (rintro e w2 ⟨rfl, hb2⟩); have hB2 := bT hB1 hb2; have y2 := y1.t hb2; clear q0 q1 q2; have q1 := y2.cell 1; have q2 := y2.cell 2
    go_wp2_with fail
    go_ret
    exact ⟨rfl, hB2⟩
  have v1 : decide (100000000000 < a) = false := by simpa using g1
  by_cases g2 : a < -100000000000
  · have h1 : mrB a = false := mr_f (by omega)
    have e1 : elE a u = 10 := by unfold elE; rw [if_pos h1]
    have e2 : elV a u = 0 := by unfold elV; rw [if_neg (by rw [e1]; decide)]
    rw [e1, e2] at KV
    have v2 : decide (a < -100000000000) = true := by simpa using g2
    clear g1 g2 h1 e1 e2
    go_enter Tryd.func3, Tryd.ntmps3; go_wp2_with fail; (refine (worths_c _ HT.out).mono ?_); (rintro e w1 ⟨rfl, hb1⟩); have hB1 := bT hb0 hb1; have y1 := y.t hb1; have q0 := y1.cell 0; have q1 := y1.cell 1; have q2 := y1.cell 2; go_wp2_with fail; (refine (KV.out _).mono ?_); (rintro e w2 ⟨rfl, hb2⟩); have hB2 := bT hB1 hb2; have y2 := y1.t hb2; clear q0 q1 q2; have q1 := y2.cell 1; have q2 := y2.cell 2
    go_wp2_with fail
    go_ret
    exact ⟨rfl, hB2⟩
  have v2 : decide (a < -100000000000) = false := by simpa using g2
  have h1 : mrB a = true := mr_t (by omega)
  have h1' : ¬ mrB a = false := by simp [h1]
  by_cases g3 : u < 0
  · have e1 : elE a u = 1 := by unfold elE; rw [if_neg h1', if_pos (Or.inl g3)]
    have e2 : elV a u = 0 := by unfold elV; rw [if_neg (by rw [e1]; decide)]
    rw [e1, e2] at KV
    have v3 : decide (u < 0) = true := by simpa using g3
    clear g1 g2 g3 h1 h1' e1 e2
    go_enter Tryd.func3, Tryd.ntmps3; go_wp2_with fail; (refine (worths_c _ HT.out).mono ?_); (rintro e w1 ⟨rfl, hb1⟩); have hB1 := bT hb0 hb1; have y1 := y.t hb1; have q0 := y1.cell 0; have q1 := y1.cell 1; have q2 := y1.cell 2; go_wp2_with fail; (refine (KV.out _).mono ?_); (rintro e w2 ⟨rfl, hb2⟩); have hB2 := bT hB1 hb2; have y2 := y1.t hb2; clear q0 q1 q2; have q1 := y2.cell 1; have q2 := y2.cell 2
    go_wp2_with fail
    go_ret
    exact ⟨rfl, hB2⟩
  have v3 : decide (u < 0) = false := by simpa using g3
  by_cases g4 : 100000 < u
  · have e1 : elE a u = 1 := by unfold elE; rw [if_neg h1', if_pos (Or.inr g4)]
    have e2 : elV a u = 0 := by unfold elV; rw [if_neg (by rw [e1]; decide)]
    rw [e1, e2] at KV
    have v4 : decide (100000 < u) = true := by simpa using g4
    clear g1 g2 g3 g4 h1 h1' e1 e2
    go_enter Tryd.func3, Tryd.ntmps3; go_wp2_with fail; (refine (worths_c _ HT.out).mono ?_); (rintro e w1 ⟨rfl, hb1⟩); have hB1 := bT hb0 hb1; have y1 := y.t hb1; have q0 := y1.cell 0; have q1 := y1.cell 1; have q2 := y1.cell 2; go_wp2_with fail; (refine (KV.out _).mono ?_); (rintro e w2 ⟨rfl, hb2⟩); have hB2 := bT hB1 hb2; have y2 := y1.t hb2; clear q0 q1 q2; have q1 := y2.cell 1; have q2 := y2.cell 2
    go_wp2_with fail
    go_ret
    exact ⟨rfl, hB2⟩
  have v4 : decide (100000 < u) = false := by simpa using g4
  have hm := mulu_bd h1 (show 0 ≤ u by omega) (show u ≤ 100000 by omega)
  have hE : elE a u = if mrB (roundI (a * u) 100 4) = true then 0 else 10 := by unfold elE; rw [if_neg h1', if_neg (by omega)]
  have hV : elV a u = if mrB (roundI (a * u) 100 4) = true then roundI (a * u) 100 4 else 0 := by
    unfold elV; rw [hE]; by_cases h : mrB (roundI (a * u) 100 4) = true
    · rw [if_pos h, if_pos h, if_pos rfl]
    · rw [if_neg h, if_neg h, if_neg (by decide)]
  have K := Lib.hid (round_c (a * u) 100 4 · (by omega) (by omega) (by decide) (by decide) (by decide))
  have hr4 := round4 (a * u)
  have hw : IntKind.i64.wrap (a * u) = a * u := by rw [IntKind.wrap_i64]; omega
  rw [hE, hV] at KV
  generalize roundI (a * u) 100 4 = rr at *
  have r0 : -1000000000000000 ≤ rr := by omega
  have r1 : rr ≤ 1000000000000000 := by omega
  clear hE hV g1 g2 g3 g4 h1 h1'
  by_cases g5 : 100000000000 < rr
  · rw [if_neg (by rw [mr_iff]; omega), if_neg (by rw [mr_iff]; omega)] at KV
    have v5 : decide (100000000000 < rr) = true := by simpa using g5
    clear g5 hm hr4
    go_enter Tryd.func3, Tryd.ntmps3; go_wp2_with fail; (refine (worths_c _ HT.out).mono ?_); (rintro e w1 ⟨rfl, hb1⟩); have hB1 := bT hb0 hb1; have y1 := y.t hb1; have q0 := y1.cell 0; have q1 := y1.cell 1; have q2 := y1.cell 2; go_wp2_with fail; (refine (KV.out _).mono ?_); (rintro e w2 ⟨rfl, hb2⟩); have hB2 := bT hB1 hb2; have y2 := y1.t hb2; clear q0 q1 q2; have q1 := y2.cell 1; have q2 := y2.cell 2
    go_wp2_with fail
    refine (K.out _).mono ?_
    rintro e w3 ⟨rfl, hb3⟩
    go_wp2_with fail
    go_ret
    exact ⟨rfl, bT hB2 hb3⟩
  have v5 : decide (100000000000 < rr) = false := by simpa using g5
  by_cases g6 : rr < -100000000000
  · rw [if_neg (by rw [mr_iff]; omega), if_neg (by rw [mr_iff]; omega)] at KV
    have v6 : decide (rr < -100000000000) = true := by simpa using g6
    clear g5 g6 hm hr4
    go_enter Tryd.func3, Tryd.ntmps3; go_wp2_with fail; (refine (worths_c _ HT.out).mono ?_); (rintro e w1 ⟨rfl, hb1⟩); have hB1 := bT hb0 hb1; have y1 := y.t hb1; have q0 := y1.cell 0; have q1 := y1.cell 1; have q2 := y1.cell 2; go_wp2_with fail; (refine (KV.out _).mono ?_); (rintro e w2 ⟨rfl, hb2⟩); have hB2 := bT hB1 hb2; have y2 := y1.t hb2; clear q0 q1 q2; have q1 := y2.cell 1; have q2 := y2.cell 2
    go_wp2_with fail
    refine (K.out _).mono ?_
    rintro e w3 ⟨rfl, hb3⟩
    go_wp2_with fail
    go_ret
    exact ⟨rfl, bT hB2 hb3⟩
  have v6 : decide (rr < -100000000000) = false := by simpa using g6
  rw [if_pos (by rw [mr_iff]; omega), if_pos (by rw [mr_iff]; omega)] at KV
  obtain ⟨pp, hpp⟩ : ∃ pp, a * u = pp := ⟨_, rfl⟩
  rw [hpp] at hm hr4 hw K
  obtain ⟨m0, m1⟩ := hm
  obtain ⟨s0, s1⟩ := hr4
  have w1' : IntKind.i64.wrap (100 * rr) = 100 * rr := by rw [IntKind.wrap_i64]; omega
  have w2' : IntKind.i64.wrap (100 * rr - pp) = 100 * rr - pp := by rw [IntKind.wrap_i64]; omega
  have w3' : IntKind.i64.wrap (2 * (100 * rr - pp)) = 2 * (100 * rr - pp) := by rw [IntKind.wrap_i64]; omega
  have w4' : IntKind.i64.wrap (pp - 100 * rr) = pp - 100 * rr := by rw [IntKind.wrap_i64]; omega
  have w5' : IntKind.i64.wrap (2 * (pp - 100 * rr)) = 2 * (pp - 100 * rr) := by rw [IntKind.wrap_i64]; omega
  have v7 : decide (2 * (100 * rr - pp) ≤ 100) = true := by simpa using s0
  have v8 : decide (2 * (pp - 100 * rr) ≤ 100) = true := by simpa using s1
  clear g5 g6
  go_enter Tryd.func3, Tryd.ntmps3; go_wp2_with fail; (refine (worths_c _ HT.out).mono ?_); (rintro e w1 ⟨rfl, hb1⟩); have hB1 := bT hb0 hb1; have y1 := y.t hb1; have q0 := y1.cell 0; have q1 := y1.cell 1; have q2 := y1.cell 2; go_wp2_with fail; (refine (KV.out _).mono ?_); (rintro e w2 ⟨rfl, hb2⟩); have hB2 := bT hB1 hb2; have y2 := y1.t hb2; clear q0 q1 q2; have q1 := y2.cell 1; have q2 := y2.cell 2
  go_wp2_with fail
  refine (K.out _).mono ?_
  rintro e w3 ⟨rfl, hb3⟩
  go_wp2_with fail
  go_ret
  exact ⟨rfl, bT hB2 hb3⟩
--%%
end Go.Proofs.YtbpdgkaohfmabaaDoor
