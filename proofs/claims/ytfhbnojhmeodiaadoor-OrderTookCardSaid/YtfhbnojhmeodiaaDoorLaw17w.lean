/-
  Layer 17's laws: the error of an order by definition. No conditions.
-/
import Derived.Test.YtfhbnojhmeodiaaDoorLaw17
namespace Go.Proofs.YtfhbnojhmeodiaaDoor
set_option linter.unusedVariables false
open Go.RowKit
theorem orE_chain (id pr am ra tt : Int) : orE id pr am ra tt = if id < 1 then 1 else if 999999 < id then 1 else if pr < 0 then 1 else if 999 < pr then 1 else if 100000000000 < am then 10 else if am < -100000000000 then 10 else if 100000000000 < tt then 10 else if tt < -100000000000 then 10 else if am < 0 then 1 else if tt < 0 then 1 else if ra < 0 then 50 else if 10000 < ra then 50 else if am = 0 ∧ ra = 0 then 5 else 0 := by
  unfold orE
  have m1 := @mr_iff am
  have m2 := @mr_iff tt
  have m3 := @rateB_iff ra
  have m3' : rateB ra = false ↔ ¬ (0 ≤ ra ∧ ra ≤ 10000) := by rw [← m3]; simp
  simp only [m1, m2, m3']
  repeat' split
  all_goals first | rfl | omega
--%%
set_option maxHeartbeats 3200000 in
theorem wrong_c (id pr am ra tt : Int) (w : World) : Calls Tryd.prog 15 #[.agg #[.int .i64 id, .int .i64 pr, .int .i64 am, .int .i64 ra, .int .i64 tt]] w fun e w' => e = .returned (.int .i64 (orE id pr am ra tt)) ∧ Below w.heap.size w w' := by
  obtain ⟨r, hr⟩ : ∃ r, r = orE id pr am ra tt := ⟨_, rfl⟩
  rw [← hr]
  have HR := Lib.hid (hr.trans (orE_chain id pr am ra tt))
  clear hr
  have hb0 := below1 w (.cells #[.int .i64 id, .int .i64 pr, .int .i64 am, .int .i64 ra, .int .i64 tt] 29)
  have z := Blk.mk w 29 #[.int .i64 id, .int .i64 pr, .int .i64 am, .int .i64 ra, .int .i64 tt]
  obtain ⟨z0, z1, z2, z3, z4⟩ := z.a5f.1
  by_cases h0 : id < 1
  · have v : decide (id < 1) = true := by simpa using h0
    have e : r = 1 := HR.out.trans (if_pos h0)
    subst e
    clear HR h0
    go_enter Tryd.func15, Tryd.ntmps15
    go_wp2_with fail
    go_ret
    exact ⟨rfl, hb0⟩
  have v0 : decide (id < 1) = false := by simpa using h0
  replace HR := Lib.hid (HR.out.trans (if_neg h0))
  clear h0
  by_cases h1 : 999999 < id
  · have v : decide (999999 < id) = true := by simpa using h1
    have e : r = 1 := HR.out.trans (if_pos h1)
    subst e
    clear HR h1
    go_enter Tryd.func15, Tryd.ntmps15
    go_wp2_with fail
    go_ret
    exact ⟨rfl, hb0⟩
  have v1 : decide (999999 < id) = false := by simpa using h1
  replace HR := Lib.hid (HR.out.trans (if_neg h1))
  clear h1
  by_cases h2 : pr < 0
  · have v : decide (pr < 0) = true := by simpa using h2
    have e : r = 1 := HR.out.trans (if_pos h2)
    subst e
    clear HR h2
    go_enter Tryd.func15, Tryd.ntmps15
    go_wp2_with fail
    go_ret
    exact ⟨rfl, hb0⟩
  have v2 : decide (pr < 0) = false := by simpa using h2
  replace HR := Lib.hid (HR.out.trans (if_neg h2))
  clear h2
  by_cases h3 : 999 < pr
  · have v : decide (999 < pr) = true := by simpa using h3
    have e : r = 1 := HR.out.trans (if_pos h3)
    subst e
    clear HR h3
    go_enter Tryd.func15, Tryd.ntmps15
    go_wp2_with fail
    go_ret
    exact ⟨rfl, hb0⟩
  have v3 : decide (999 < pr) = false := by simpa using h3
  replace HR := Lib.hid (HR.out.trans (if_neg h3))
  clear h3
  by_cases h4 : 100000000000 < am
  · have v : decide (100000000000 < am) = true := by simpa using h4
    have e : r = 10 := HR.out.trans (if_pos h4)
    subst e
    clear HR h4
    go_enter Tryd.func15, Tryd.ntmps15
    go_wp2_with fail
    go_ret
    exact ⟨rfl, hb0⟩
  have v4 : decide (100000000000 < am) = false := by simpa using h4
  replace HR := Lib.hid (HR.out.trans (if_neg h4))
  clear h4
  by_cases h5 : am < -100000000000
  · have v : decide (am < -100000000000) = true := by simpa using h5
    have e : r = 10 := HR.out.trans (if_pos h5)
    subst e
    clear HR h5
    go_enter Tryd.func15, Tryd.ntmps15
    go_wp2_with fail
    go_ret
    exact ⟨rfl, hb0⟩
  have v5 : decide (am < -100000000000) = false := by simpa using h5
  replace HR := Lib.hid (HR.out.trans (if_neg h5))
  clear h5
  by_cases h6 : 100000000000 < tt
  · have v : decide (100000000000 < tt) = true := by simpa using h6
    have e : r = 10 := HR.out.trans (if_pos h6)
    subst e
    clear HR h6
    go_enter Tryd.func15, Tryd.ntmps15
    go_wp2_with fail
    go_ret
    exact ⟨rfl, hb0⟩
  have v6 : decide (100000000000 < tt) = false := by simpa using h6
  replace HR := Lib.hid (HR.out.trans (if_neg h6))
  clear h6
  by_cases h7 : tt < -100000000000
  · have v : decide (tt < -100000000000) = true := by simpa using h7
    have e : r = 10 := HR.out.trans (if_pos h7)
    subst e
    clear HR h7
    go_enter Tryd.func15, Tryd.ntmps15
    go_wp2_with fail
    go_ret
    exact ⟨rfl, hb0⟩
  have v7 : decide (tt < -100000000000) = false := by simpa using h7
  replace HR := Lib.hid (HR.out.trans (if_neg h7))
  clear h7
  by_cases h8 : am < 0
  · have v : decide (am < 0) = true := by simpa using h8
    have e : r = 1 := HR.out.trans (if_pos h8)
    subst e
    clear HR h8
    go_enter Tryd.func15, Tryd.ntmps15
    go_wp2_with fail
    go_ret
    exact ⟨rfl, hb0⟩
  have v8 : decide (am < 0) = false := by simpa using h8
  replace HR := Lib.hid (HR.out.trans (if_neg h8))
  clear h8
  by_cases h9 : tt < 0
  · have v : decide (tt < 0) = true := by simpa using h9
    have e : r = 1 := HR.out.trans (if_pos h9)
    subst e
    clear HR h9
    go_enter Tryd.func15, Tryd.ntmps15
    go_wp2_with fail
    go_ret
    exact ⟨rfl, hb0⟩
  have v9 : decide (tt < 0) = false := by simpa using h9
  replace HR := Lib.hid (HR.out.trans (if_neg h9))
  clear h9
  by_cases h10 : ra < 0
  · have v : decide (ra < 0) = true := by simpa using h10
    have e : r = 50 := HR.out.trans (if_pos h10)
    subst e
    clear HR h10
    go_enter Tryd.func15, Tryd.ntmps15
    go_wp2_with fail
    go_ret
    exact ⟨rfl, hb0⟩
  have v10 : decide (ra < 0) = false := by simpa using h10
  replace HR := Lib.hid (HR.out.trans (if_neg h10))
  clear h10
  by_cases h11 : 10000 < ra
  · have v : decide (10000 < ra) = true := by simpa using h11
    have e : r = 50 := HR.out.trans (if_pos h11)
    subst e
    clear HR h11
    go_enter Tryd.func15, Tryd.ntmps15
    go_wp2_with fail
    go_ret
    exact ⟨rfl, hb0⟩
  have v11 : decide (10000 < ra) = false := by simpa using h11
  replace HR := Lib.hid (HR.out.trans (if_neg h11))
  clear h11
  by_cases ha : am = 0
  · have va : (am == 0) = true := by simpa using ha
    by_cases hb : ra = 0
    · have vb : (ra == 0) = true := by simpa using hb
      have e : r = 5 := HR.out.trans (if_pos ⟨ha, hb⟩)
      subst e
      clear HR ha hb
      go_enter Tryd.func15, Tryd.ntmps15
      go_wp2_with fail
      go_ret
      exact ⟨rfl, hb0⟩
    · have vb : (ra == 0) = false := by simpa using hb
      have e : r = 0 := HR.out.trans (if_neg (fun h => hb h.2))
      subst e
      clear HR ha hb
      go_enter Tryd.func15, Tryd.ntmps15
      go_wp2_with fail
      go_ret
      exact ⟨rfl, hb0⟩
  · have va : (am == 0) = false := by simpa using ha
    have e : r = 0 := HR.out.trans (if_neg (fun h => ha h.1))
    subst e
    clear HR ha
    go_enter Tryd.func15, Tryd.ntmps15
    go_wp2_with fail
    go_ret
    exact ⟨rfl, hb0⟩
--%%
end Go.Proofs.YtfhbnojhmeodiaaDoor
