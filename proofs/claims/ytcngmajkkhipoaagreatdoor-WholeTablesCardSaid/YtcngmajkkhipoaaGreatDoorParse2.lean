/-
  Contract of money.Parse. Conditions as named.
-/
import Derived.Test.YtcngmajkkhipoaaGreatDoorM1
import Derived.WalkSpells
import Derived.Deep.DeepCutAuto
import Derived.Lib.Strings
import Derived.Lib.IndexBytes
namespace Go.Proofs.YtcngmajkkhipoaaGreatDoor
set_option linter.unusedVariables false
open Go.RowKit
section
variable {neg : Bool} {l : List UInt8}
/-- nothing was wrong till the sign and the coins were read -/
def pX (l : List UInt8) : Prop := ¬ 20 < l.length ∧ ¬ (pCut l = true ∧ ¬ (dI (gB l (l.length - 2)) = true ∧ dI (gB l (l.length - 1)) = true))
theorem pE_long (h : 20 < l.length) : pE neg l = 5 := if_pos h
theorem pE_nd (h : ¬ 20 < l.length) (h2 : pCut l = true) (h3 : ¬ (dI (gB l (l.length - 2)) = true ∧ dI (gB l (l.length - 1)) = true)) : pE neg l = 5 := by
  unfold pE; rw [if_neg h, if_pos ⟨h2, h3⟩]
theorem pE_big1 (h : pX l) (h2 : 12 < (pRest l).length) (h3 : ¬ (whO ((pRest l).take 12) = true ∧ dTo (pRest l) (pRest l).length = true)) : pE neg l = 5 := by
  unfold pE; rw [if_neg h.1, if_neg h.2, if_pos h2, if_neg h3]
theorem pE_big2 (h : pX l) (h2 : 12 < (pRest l).length) (h3 : whO ((pRest l).take 12) = true ∧ dTo (pRest l) (pRest l).length = true) : pE neg l = 10 := by
  unfold pE; rw [if_neg h.1, if_neg h.2, if_pos h2, if_pos h3]
theorem pE_bad (h : pX l) (h2 : ¬ 12 < (pRest l).length) (h3 : ¬ (whO (pRest l) = true) ∨ (neg = true ∧ whV (pRest l) = 0 ∧ pCoins l = 0)) : pE neg l = 5 := by
  unfold pE; rw [if_neg h.1, if_neg h.2, if_neg h2, if_pos h3]
theorem pE_chk (h : pX l) (h2 : ¬ 12 < (pRest l).length) (h3 : ¬ (¬ (whO (pRest l) = true) ∨ (neg = true ∧ whV (pRest l) = 0 ∧ pCoins l = 0))) : pE neg l = if mrB ((if neg then -1 else 1) * (whV (pRest l) * 100 + pCoins l)) = true then 0 else 10 := by
  unfold pE; rw [if_neg h.1, if_neg h.2, if_neg h2, if_neg h3]
theorem pV_bad (h : pE neg l ≠ 0) : pV neg l = 0 := if_neg h
theorem pV_ok (h : pE neg l = 0) : pV neg l = (if neg then -1 else 1) * (whV (pRest l) * 100 + pCoins l) := if_pos h
end
theorem whV_bd (l : List UInt8) (h : l.length ≤ 12) : 0 ≤ whV l ∧ whV l ≤ 1000000000000 := by
  unfold whV
  by_cases hd : dTo l l.length = true
  · rw [if_pos hd]
    have h1 := wV_bd l l.length hd
    have h2 := pow_le12 l.length h
    omega
  · rw [if_neg hd]; omega
theorem ret2_i {k j : IntKind} {a b c d : Int} (h1 : a = b) (h2 : c = d) : Ending.returned (.tuple #[.int k a, .int j c]) = .returned (.tuple #[.int k b, .int j d]) := by rw [h1, h2]
theorem len_bytes (s : ByteArray) : s.data.toList.length = s.size := by simp
theorem pos3 (s : ByteArray) : (s.size : Int) = ((s.data.toList.length : Nat) : Int) := by simp
--%%
set_option maxRecDepth 100000 in
set_option maxHeartbeats 12800000 in
theorem parse_c (s : ByteArray) (w : World) (hs : s.size ≤ 9223372036854775807) (rv re : Int) (hrv : Hid (rv = parseV s.data.toList)) (hre : Hid (re = parseE s.data.toList)) :
    Calls Tryz.prog 40 #[.string s] w fun e w' => e = .returned (.tuple #[.int .i64 rv, .int .i64 re]) ∧ Below w.heap.size w w' := by
  have HRV := hrv
  have HRE := hre
  clear hrv hre
  by_cases hne : 0 < s.size
  · have hb0 := byte_gB s 0 hne
    have vz : decide ((0 : Int) < (s.size : Int)) = true := by simp; omega
    have vzn : decide (0 < s.size) = true := by simp; omega
    by_cases hsg : gB s.data.toList 0 = 45
    · have hpn : pNeg s.data.toList = true := by unfold pNeg; rw [len_bytes, hsg]; simp; omega
      have hpb : pBody s.data.toList = (s.extract 1 s.size).data.toList := by unfold pBody; rw [if_pos hpn, Lib.extract_to_end]
      have HE : Hid (re = pE true (s.extract 1 s.size).data.toList) := by have := HRE.out; unfold parseE at this; rw [hpn, hpb] at this; exact this
      have HV : Hid (rv = pV true (s.extract 1 s.size).data.toList) := by have := HRV.out; unfold parseV at this; rw [hpn, hpb] at this; exact this
      rw [hsg] at hb0
      have hsz2 : (s.extract 1 s.size).size ≤ 9223372036854775807 := by rw [ByteArray.size_extract]; omega
      clear hpn hpb hsg HRE HRV
      go_enter Tryz.func40, Tryz.ntmps40
      go_wp2_with fail
      go_quiet (fail)
      simp only [Exit.then]
      rename_i hK
      refine hK _ _ ?_
      clear hK
      have HS2 := Lib.hid hsz2
      clear hsz2 hb0 vz vzn
      generalize s.extract 1 s.size = s2 at *
      have hsz2 := HS2.out
      clear HS2 hs hne
      have hlen := len_bytes s2
      by_cases h20 : 20 < s2.size
      · have v20 : decide ((20 : Int) < (s2.size : Int)) = true := by simp; omega
        have e1 : re = 5 := HE.out.trans (pE_long (by rw [hlen]; exact h20))
        have e2 : rv = 0 := HV.out.trans (pV_bad (by rw [pE_long (by rw [hlen]; exact h20)]; decide))
        subst e1
        subst e2
        clear h20 hlen HV HE
        go_wp2_with fail
        go_ret2
        exact ⟨rfl, (bD (b0 w) _)⟩
      have v20 : decide ((20 : Int) < (s2.size : Int)) = false := by simp; omega
      by_cases h3 : 3 < s2.size
      · obtain ⟨q, hq⟩ : ∃ q, s2.size = q + 3 := ⟨s2.size - 3, by omega⟩
        have hq0 : 0 < q := by omega
        have hqi : (s2.size : Int) - 3 = (q : Int) := by omega
        have hq0i : (0 : Int) < (q : Int) := by omega
        have kqn1 : q < s2.size := by omega
        have kqn2 : q + 1 < s2.size := by omega
        have kqn3 : q + 2 < s2.size := by omega
        have hbq := byte_gB s2 q kqn1
        have hbq1 := byte_gB s2 (q + 1) kqn2
        have hbq2 := byte_gB s2 (q + 2) kqn3
        have hlq : (s2.data.toList).length - 3 = q := by omega
        have hlq2 : (s2.data.toList).length - 2 = q + 1 := by omega
        have hlq1 : (s2.data.toList).length - 1 = q + 2 := by omega
        have hg1 := gB_bd s2.data.toList (q + 1)
        have hg2 := gB_bd s2.data.toList (q + 2)
        have kq1 : ((q : Int)).toNat = q := by omega
        have kq2 : ((q : Int) + 1).toNat = q + 1 := by omega
        have kq3 : ((q : Int) + 2).toNat = q + 2 := by omega
        have kq4 : (q : Int) < (s2.size : Int) := by omega
        have kq5 : (q : Int) + 1 < (s2.size : Int) := by omega
        have kq6 : (q : Int) + 2 < (s2.size : Int) := by omega
        have kq7 : (0 : Int) ≤ (q : Int) + 1 := by omega
        have kq8 : (0 : Int) ≤ (q : Int) + 2 := by omega
        have kq9 : IntKind.i64.wrap ((q : Int) + 1) = (q : Int) + 1 := by rw [IntKind.wrap_i64]; omega
        have kq10 : IntKind.i64.wrap ((q : Int) + 2) = (q : Int) + 2 := by rw [IntKind.wrap_i64]; omega
        have kqs : (q : Int) ≤ (s2.size : Int) := by omega
        have kqq : (q : Int) ≤ 20 := by omega
        by_cases hdot : gB s2.data.toList q = 46
        · have hcut : pCut s2.data.toList = true := by unfold pCut; rw [hlq, hdot]; simp; omega
          rw [hdot] at hbq
          have HCC : Hid (pCoins s2.data.toList = (gB s2.data.toList (q + 1) - 48) * 10 + (gB s2.data.toList (q + 2) - 48)) := by unfold Hid pCoins; rw [if_pos hcut, hlq2, hlq1]
          have HND : Hid (¬ (dI (gB s2.data.toList (q + 1)) = true ∧ dI (gB s2.data.toList (q + 2)) = true) → pE true s2.data.toList = 5) := fun h => pE_nd (by omega) hcut (by rw [hlq2, hlq1]; exact h)
          have HXX : Hid (dI (gB s2.data.toList (q + 1)) = true ∧ dI (gB s2.data.toList (q + 2)) = true → pX s2.data.toList) := fun h => ⟨by omega, fun hc => hc.2 (by rw [hlq2, hlq1]; exact h)⟩
          have HRS0 : Hid (pRest s2.data.toList = (s2.extract 0 q).data.toList) := by unfold Hid pRest; rw [if_pos hcut, hlq, Lib.extract_data]; simp
          have hsz3 : (s2.extract 0 q).size = q := by rw [ByteArray.size_extract]; omega
          generalize gB s2.data.toList (q + 1) = c1 at *
          generalize gB s2.data.toList (q + 2) = c2 at *
          have KD1 := Lib.hid (digit_c c1)
          have KD2 := Lib.hid (digit_c c2)
          obtain ⟨g10, g11⟩ := hg1
          obtain ⟨g20, g21⟩ := hg2
          clear hdot hcut hlq hlq1 hlq2 hlen h20 h3 hq
          cases hd1 : dI c1
          · have hpe := HND.out (fun h => by rw [hd1] at h; cases h.1)
            have e1 : re = 5 := HE.out.trans (hpe)
            have e2 : rv = 0 := HV.out.trans (pV_bad (by rw [hpe]; decide))
            subst e1
            subst e2
            rw [hd1] at KD1
            clear hd1 hpe HV HE hsz3
            go_wp2_with fail
            refine (KD1.out _).mono ?_
            rintro e w3 ⟨rfl, rfl⟩
            go_wp2_with fail
            go_ret2
            exact ⟨rfl, (bD (b0 w) _)⟩
          cases hd2 : dI c2
          · have hpe := HND.out (fun h => by rw [hd2] at h; cases h.2)
            have e1 : re = 5 := HE.out.trans (hpe)
            have e2 : rv = 0 := HV.out.trans (pV_bad (by rw [hpe]; decide))
            subst e1
            subst e2
            rw [hd1] at KD1
            rw [hd2] at KD2
            clear hd1 hd2 hpe HV HE hsz3
            go_wp2_with fail
            refine (KD1.out _).mono ?_
            rintro e w3 ⟨rfl, rfl⟩
            go_wp2_with fail
            refine (KD2.out _).mono ?_
            rintro e w3 ⟨rfl, rfl⟩
            go_wp2_with fail
            go_ret2
            exact ⟨rfl, (bD (b0 w) _)⟩
          have hX := HXX.out ⟨hd1, hd2⟩
          have d1 : 48 ≤ c1 ∧ c1 ≤ 57 := by unfold dI at hd1; simpa using hd1
          have d2 : 48 ≤ c2 ∧ c2 ≤ 57 := by unfold dI at hd2; simpa using hd2
          obtain ⟨d10, d11⟩ := d1
          obtain ⟨d20, d21⟩ := d2
          rw [hd1] at KD1
          rw [hd2] at KD2
          have HX := Lib.hid hX
          have HS3 := Lib.hid hsz3
          clear hd1 hd2 HND HXX hX hsz3
          have u1 : IntKind.u8.wrap (c1 - 48) = c1 - 48 := by rw [IntKind.wrap_u8]; omega
          have u2 : IntKind.u8.wrap (c2 - 48) = c2 - 48 := by rw [IntKind.wrap_u8]; omega
          have u3 : IntKind.i64.wrap (c1 - 48) = c1 - 48 := by rw [IntKind.wrap_i64]; omega
          have u4 : IntKind.i64.wrap (c2 - 48) = c2 - 48 := by rw [IntKind.wrap_i64]; omega
          have u5 : IntKind.i64.wrap ((c1 - 48) * 10) = (c1 - 48) * 10 := by rw [IntKind.wrap_i64]; omega
          have u6 : IntKind.i64.wrap ((c1 - 48) * 10 + (c2 - 48)) = (c1 - 48) * 10 + (c2 - 48) := by rw [IntKind.wrap_i64]; omega
          go_wp2_with fail
          refine (KD1.out _).mono ?_
          rintro e w3 ⟨rfl, rfl⟩
          go_wp2_with fail
          refine (KD2.out _).mono ?_
          rintro e w3 ⟨rfl, rfl⟩
          go_wp2_with fail
          go_quiet (fail)
          simp only [Exit.then]
          rename_i hK
          refine hK _ _ ?_
          clear hK
          have hcb : 0 ≤ (c1 - 48) * 10 + (c2 - 48) ∧ (c1 - 48) * 10 + (c2 - 48) ≤ 99 := by omega
          have HCV0 : Hid ((c1 - 48) * 10 + (c2 - 48) = pCoins s2.data.toList) := HCC.out.symm
          clear u1 u2 u3 u4 u5 u6 HCC
          generalize (c1 - 48) * 10 + (c2 - 48) = cv at *
          have HCV : Hid (cv = pCoins s2.data.toList) := HCV0
          have hsz3 := HS3.out
          have HRS := HRS0
          generalize s2.extract 0 q = s3 at *
          obtain ⟨cb0, cb1⟩ := hcb
          have hs3 : s3.size ≤ 20 := by omega
          clear hsz3 HS3 HRS0 HCV0
          by_cases h12 : 12 < s3.size
          · have w12 : decide ((12 : Int) < (s3.size : Int)) = true := by simp; omega
            have h12' : 12 < (pRest s2.data.toList).length := by rw [HRS.out, len_bytes]; exact h12
            obtain ⟨ov, hov⟩ : ∃ ov, ov = whV (s3.extract 0 12).data.toList := ⟨_, rfl⟩
            obtain ⟨ob, hob⟩ : ∃ ob, ob = whO (s3.extract 0 12).data.toList := ⟨_, rfl⟩
            have KW := Lib.hid (fun W => whole_c (s3.extract 0 12) W (by rw [ByteArray.size_extract]; omega) ov ob hov hob)
            have HOB : Hid (ob = whO ((pRest s2.data.toList).take 12)) := by unfold Hid; rw [hob, HRS.out, Lib.extract_data]; simp
            have KDG := Lib.hid (fun W => digits_c s3 W (by omega))
            have HDG : Hid (dTo (pRest s2.data.toList) (pRest s2.data.toList).length = dTo s3.data.toList s3.size) := by unfold Hid; rw [HRS.out, len_bytes]
            have x12 : (12 : Int) ≤ (s3.size : Int) := by omega
            have x12n : 12 ≤ s3.size := by omega
            clear hov hob
            generalize dTo s3.data.toList s3.size = dd at *
            cases ob
            · have e1 : re = 5 := HE.out.trans ((pE_big1 HX.out h12' (fun h => by rw [← HOB.out] at h; cases h.1) : pE true s2.data.toList = 5))
              have e2 : rv = 0 := HV.out.trans (pV_bad (by rw [(pE_big1 HX.out h12' (fun h => by rw [← HOB.out] at h; cases h.1) : pE true s2.data.toList = 5)]; decide))
              subst e1
              subst e2
              clear h12 h12'
              go_wp2_with fail
              refine (KW.out _).mono ?_
              rintro e w5 ⟨rfl, hb5⟩
              go_wp2_with fail
              go_ret2
              exact ⟨rfl, bT (bD (b0 w) _) hb5⟩
            · cases dd
              · have e1 : re = 5 := HE.out.trans ((pE_big1 HX.out h12' (fun h => by rw [HDG.out] at h; cases h.2) : pE true s2.data.toList = 5))
                have e2 : rv = 0 := HV.out.trans (pV_bad (by rw [(pE_big1 HX.out h12' (fun h => by rw [HDG.out] at h; cases h.2) : pE true s2.data.toList = 5)]; decide))
                subst e1
                subst e2
                clear h12 h12'
                go_wp2_with fail
                refine (KW.out _).mono ?_
                rintro e w5 ⟨rfl, hb5⟩
                go_wp2_with fail
                refine (KDG.out _).mono ?_
                rintro e w6 ⟨rfl, rfl⟩
                go_wp2_with fail
                go_ret2
                exact ⟨rfl, bT (bD (b0 w) _) hb5⟩
              · have e1 : re = 10 := HE.out.trans ((pE_big2 HX.out h12' ⟨HOB.out.symm, HDG.out⟩ : pE true s2.data.toList = 10))
                have e2 : rv = 0 := HV.out.trans (pV_bad (by rw [(pE_big2 HX.out h12' ⟨HOB.out.symm, HDG.out⟩ : pE true s2.data.toList = 10)]; decide))
                subst e1
                subst e2
                clear h12 h12'
                go_wp2_with fail
                refine (KW.out _).mono ?_
                rintro e w5 ⟨rfl, hb5⟩
                go_wp2_with fail
                refine (KDG.out _).mono ?_
                rintro e w6 ⟨rfl, rfl⟩
                go_wp2_with fail
                go_ret2
                exact ⟨rfl, bT (bD (b0 w) _) hb5⟩
          have w12 : decide ((12 : Int) < (s3.size : Int)) = false := by simp; omega
          have h12' : ¬ 12 < (pRest s2.data.toList).length := by rw [HRS.out, len_bytes]; exact h12
          obtain ⟨ov, hov⟩ : ∃ ov, ov = whV s3.data.toList := ⟨_, rfl⟩
          obtain ⟨ob, hob⟩ : ∃ ob, ob = whO s3.data.toList := ⟨_, rfl⟩
          have KW := Lib.hid (fun W => whole_c s3 W (by omega) ov ob hov hob)
          have HOB : Hid (ob = whO (pRest s2.data.toList)) := by unfold Hid; rw [hob, HRS.out]
          have HOV : Hid (ov = whV (pRest s2.data.toList)) := by unfold Hid; rw [hov, HRS.out]
          have hvb : 0 ≤ ov ∧ ov ≤ 1000000000000 := by rw [hov]; exact whV_bd _ (by rw [len_bytes]; omega)
          obtain ⟨hvb0, hvb1⟩ := hvb
          clear hov hob
          cases ob
          · have e1 : re = 5 := HE.out.trans ((pE_bad HX.out h12' (Or.inl (by rw [← HOB.out]; decide)) : pE true s2.data.toList = 5))
            have e2 : rv = 0 := HV.out.trans (pV_bad (by rw [(pE_bad HX.out h12' (Or.inl (by rw [← HOB.out]; decide)) : pE true s2.data.toList = 5)]; decide))
            subst e1
            subst e2
            clear h12 h12'
            go_wp2_with fail
            refine (KW.out _).mono ?_
            rintro e w5 ⟨rfl, hb5⟩
            go_wp2_with fail
            go_ret2
            exact ⟨rfl, bT (bD (b0 w) _) hb5⟩
          by_cases hz : ov = 0 ∧ cv = 0
          · have e1 : re = 5 := HE.out.trans ((pE_bad HX.out h12' (Or.inr ⟨rfl, by rw [← HOV.out]; exact hz.1, by rw [← HCV.out]; exact hz.2⟩) : pE true s2.data.toList = 5))
            have e2 : rv = 0 := HV.out.trans (pV_bad (by rw [(pE_bad HX.out h12' (Or.inr ⟨rfl, by rw [← HOV.out]; exact hz.1, by rw [← HCV.out]; exact hz.2⟩) : pE true s2.data.toList = 5)]; decide))
            subst e1
            subst e2
            have z1 : (ov == 0) = true := by simpa using hz.1
            have z2 : (cv == 0) = true := by simpa using hz.2
            clear h12 h12' hz HV HE
            go_wp2_with fail
            refine (KW.out _).mono ?_
            rintro e w5 ⟨rfl, hb5⟩
            go_wp2_with fail
            go_ret2
            exact ⟨rfl, bT (bD (b0 w) _) hb5⟩
          have h3 : ¬ (¬ (whO (pRest s2.data.toList) = true) ∨ (true = true ∧ whV (pRest s2.data.toList) = 0 ∧ pCoins s2.data.toList = 0)) := by
            rw [← HOB.out, ← HOV.out, ← HCV.out]
            intro hh
            rcases hh with hh | hh
            · exact hh rfl
            · exact hz ⟨hh.2.1, hh.2.2⟩
          by_cases hz1 : ov = 0
          · have z1 : (ov == 0) = true := by simpa using hz1
            have z2 : (cv == 0) = false := by
              have hq : ¬ cv = 0 := fun h => hz ⟨hz1, h⟩
              simpa using hq
            clear hz1 hz
            have hx : (if true = true then (-1 : Int) else 1) * (ov * 100 + cv) = (-(ov * 100 + cv)) := by simp <;> omega
            have hpe : pE true s2.data.toList = if mrB (-(ov * 100 + cv)) = true then 0 else 10 := by rw [pE_chk HX.out h12' h3, ← HOV.out, ← HCV.out, hx]
            have hpv : pE true s2.data.toList = 0 → pV true s2.data.toList = (-(ov * 100 + cv)) := fun h => by rw [pV_ok h, ← HOV.out, ← HCV.out, hx]
            cases hm : mrB (-(ov * 100 + cv))
            · have e1 : re = 10 := HE.out.trans (by rw [hpe, hm]; rfl)
              have e2 : rv = 0 := HV.out.trans (pV_bad (by rw [hpe, hm]; decide))
              subst e1
              subst e2
              have K2 := Lib.hid (check_f (-(ov * 100 + cv)) · hm)
              clear h12 h12' h3 hpe hpv hm hx HV HE
              go_wp2_with fail
              refine (KW.out _).mono ?_
              rintro e w5 ⟨rfl, hb5⟩
              go_wp2_with fail
              refine (K2.out _).mono ?_
              rintro e w6 ⟨rfl, hb6⟩
              go_wp2_with fail
              go_ret2
              exact ⟨rfl, bT (bT (bD (b0 w) _) hb5) hb6⟩
            · have e1 : re = 0 := HE.out.trans (by rw [hpe, hm]; rfl)
              have e2 : rv = (-(ov * 100 + cv)) := HV.out.trans (hpv (by rw [hpe, hm]; rfl))
              subst e1
              have K2 := Lib.hid (check_t (-(ov * 100 + cv)) · hm)
              have E2 := Lib.hid e2
              clear h12 h12' h3 hpe hpv hm hx HV HE e2
              go_wp2_with fail
              refine (KW.out _).mono ?_
              rintro e w5 ⟨rfl, hb5⟩
              go_wp2_with fail
              refine (K2.out _).mono ?_
              rintro e w6 ⟨rfl, hb6⟩
              go_wp2_with fail
              go_ret2
              exact ⟨ret2_i E2.out.symm rfl, bT (bT (bD (b0 w) _) hb5) hb6⟩
          have z1 : (ov == 0) = false := by simpa using hz1
          clear hz1 hz
          have hx : (if true = true then (-1 : Int) else 1) * (ov * 100 + cv) = (-(ov * 100 + cv)) := by simp <;> omega
          have hpe : pE true s2.data.toList = if mrB (-(ov * 100 + cv)) = true then 0 else 10 := by rw [pE_chk HX.out h12' h3, ← HOV.out, ← HCV.out, hx]
          have hpv : pE true s2.data.toList = 0 → pV true s2.data.toList = (-(ov * 100 + cv)) := fun h => by rw [pV_ok h, ← HOV.out, ← HCV.out, hx]
          cases hm : mrB (-(ov * 100 + cv))
          · have e1 : re = 10 := HE.out.trans (by rw [hpe, hm]; rfl)
            have e2 : rv = 0 := HV.out.trans (pV_bad (by rw [hpe, hm]; decide))
            subst e1
            subst e2
            have K2 := Lib.hid (check_f (-(ov * 100 + cv)) · hm)
            clear h12 h12' h3 hpe hpv hm hx HV HE
            go_wp2_with fail
            refine (KW.out _).mono ?_
            rintro e w5 ⟨rfl, hb5⟩
            go_wp2_with fail
            refine (K2.out _).mono ?_
            rintro e w6 ⟨rfl, hb6⟩
            go_wp2_with fail
            go_ret2
            exact ⟨rfl, bT (bT (bD (b0 w) _) hb5) hb6⟩
          · have e1 : re = 0 := HE.out.trans (by rw [hpe, hm]; rfl)
            have e2 : rv = (-(ov * 100 + cv)) := HV.out.trans (hpv (by rw [hpe, hm]; rfl))
            subst e1
            have K2 := Lib.hid (check_t (-(ov * 100 + cv)) · hm)
            have E2 := Lib.hid e2
            clear h12 h12' h3 hpe hpv hm hx HV HE e2
            go_wp2_with fail
            refine (KW.out _).mono ?_
            rintro e w5 ⟨rfl, hb5⟩
            go_wp2_with fail
            refine (K2.out _).mono ?_
            rintro e w6 ⟨rfl, hb6⟩
            go_wp2_with fail
            go_ret2
            exact ⟨ret2_i E2.out.symm rfl, bT (bT (bD (b0 w) _) hb5) hb6⟩
        have hcut : pCut s2.data.toList = false := by unfold pCut; rw [hlq]; simp [hdot]
        have hbn : (gB s2.data.toList q == 46) = false := by simpa using hdot
        have hX : pX s2.data.toList := ⟨by omega, fun hc => by rw [hcut] at hc; cases hc.1⟩
        have HX := Lib.hid hX
        have HRS : Hid (pRest s2.data.toList = s2.data.toList) := by unfold Hid pRest; rw [if_neg (by rw [hcut]; decide)]
        have HCV : Hid ((0 : Int) = pCoins s2.data.toList) := by unfold Hid pCoins; rw [if_neg (by rw [hcut]; decide)]
        have hs20 : s2.size ≤ 20 := by omega
        generalize gB s2.data.toList q = c0 at *
        clear hdot hcut hlq hlq1 hlq2 hlen h20 h3 hq hX hbq1 hbq2 hg1 hg2 kq2 kq3 kq5 kq6 kq7 kq8 kq9 kq10 kqn2 kqn3
        by_cases h12 : 12 < s2.size
        · have w12 : decide ((12 : Int) < (s2.size : Int)) = true := by simp; omega
          have h12' : 12 < (pRest s2.data.toList).length := by rw [HRS.out, len_bytes]; exact h12
          obtain ⟨ov, hov⟩ : ∃ ov, ov = whV (s2.extract 0 12).data.toList := ⟨_, rfl⟩
          obtain ⟨ob, hob⟩ : ∃ ob, ob = whO (s2.extract 0 12).data.toList := ⟨_, rfl⟩
          have KW := Lib.hid (fun W => whole_c (s2.extract 0 12) W (by rw [ByteArray.size_extract]; omega) ov ob hov hob)
          have HOB : Hid (ob = whO ((pRest s2.data.toList).take 12)) := by unfold Hid; rw [hob, HRS.out, Lib.extract_data]; simp
          have KDG := Lib.hid (fun W => digits_c s2 W (by omega))
          have HDG : Hid (dTo (pRest s2.data.toList) (pRest s2.data.toList).length = dTo s2.data.toList s2.size) := by unfold Hid; rw [HRS.out, len_bytes]
          have x12 : (12 : Int) ≤ (s2.size : Int) := by omega
          have x12n : 12 ≤ s2.size := by omega
          clear hov hob
          generalize dTo s2.data.toList s2.size = dd at *
          cases ob
          · have e1 : re = 5 := HE.out.trans ((pE_big1 HX.out h12' (fun h => by rw [← HOB.out] at h; cases h.1) : pE true s2.data.toList = 5))
            have e2 : rv = 0 := HV.out.trans (pV_bad (by rw [(pE_big1 HX.out h12' (fun h => by rw [← HOB.out] at h; cases h.1) : pE true s2.data.toList = 5)]; decide))
            subst e1
            subst e2
            clear h12 h12'
            go_wp2_with fail
            refine (KW.out _).mono ?_
            rintro e w5 ⟨rfl, hb5⟩
            go_wp2_with fail
            go_ret2
            exact ⟨rfl, bT (bD (b0 w) _) hb5⟩
          · cases dd
            · have e1 : re = 5 := HE.out.trans ((pE_big1 HX.out h12' (fun h => by rw [HDG.out] at h; cases h.2) : pE true s2.data.toList = 5))
              have e2 : rv = 0 := HV.out.trans (pV_bad (by rw [(pE_big1 HX.out h12' (fun h => by rw [HDG.out] at h; cases h.2) : pE true s2.data.toList = 5)]; decide))
              subst e1
              subst e2
              clear h12 h12'
              go_wp2_with fail
              refine (KW.out _).mono ?_
              rintro e w5 ⟨rfl, hb5⟩
              go_wp2_with fail
              refine (KDG.out _).mono ?_
              rintro e w6 ⟨rfl, rfl⟩
              go_wp2_with fail
              go_ret2
              exact ⟨rfl, bT (bD (b0 w) _) hb5⟩
            · have e1 : re = 10 := HE.out.trans ((pE_big2 HX.out h12' ⟨HOB.out.symm, HDG.out⟩ : pE true s2.data.toList = 10))
              have e2 : rv = 0 := HV.out.trans (pV_bad (by rw [(pE_big2 HX.out h12' ⟨HOB.out.symm, HDG.out⟩ : pE true s2.data.toList = 10)]; decide))
              subst e1
              subst e2
              clear h12 h12'
              go_wp2_with fail
              refine (KW.out _).mono ?_
              rintro e w5 ⟨rfl, hb5⟩
              go_wp2_with fail
              refine (KDG.out _).mono ?_
              rintro e w6 ⟨rfl, rfl⟩
              go_wp2_with fail
              go_ret2
              exact ⟨rfl, bT (bD (b0 w) _) hb5⟩
        have w12 : decide ((12 : Int) < (s2.size : Int)) = false := by simp; omega
        have h12' : ¬ 12 < (pRest s2.data.toList).length := by rw [HRS.out, len_bytes]; exact h12
        obtain ⟨ov, hov⟩ : ∃ ov, ov = whV s2.data.toList := ⟨_, rfl⟩
        obtain ⟨ob, hob⟩ : ∃ ob, ob = whO s2.data.toList := ⟨_, rfl⟩
        have KW := Lib.hid (fun W => whole_c s2 W (by omega) ov ob hov hob)
        have HOB : Hid (ob = whO (pRest s2.data.toList)) := by unfold Hid; rw [hob, HRS.out]
        have HOV : Hid (ov = whV (pRest s2.data.toList)) := by unfold Hid; rw [hov, HRS.out]
        have hvb : 0 ≤ ov ∧ ov ≤ 1000000000000 := by rw [hov]; exact whV_bd _ (by rw [len_bytes]; omega)
        obtain ⟨hvb0, hvb1⟩ := hvb
        clear hov hob
        cases ob
        · have e1 : re = 5 := HE.out.trans ((pE_bad HX.out h12' (Or.inl (by rw [← HOB.out]; decide)) : pE true s2.data.toList = 5))
          have e2 : rv = 0 := HV.out.trans (pV_bad (by rw [(pE_bad HX.out h12' (Or.inl (by rw [← HOB.out]; decide)) : pE true s2.data.toList = 5)]; decide))
          subst e1
          subst e2
          clear h12 h12'
          go_wp2_with fail
          refine (KW.out _).mono ?_
          rintro e w5 ⟨rfl, hb5⟩
          go_wp2_with fail
          go_ret2
          exact ⟨rfl, bT (bD (b0 w) _) hb5⟩
        by_cases hz : ov = 0
        · have e1 : re = 5 := HE.out.trans ((pE_bad HX.out h12' (Or.inr ⟨rfl, by rw [← HOV.out]; exact hz, HCV.out.symm⟩) : pE true s2.data.toList = 5))
          have e2 : rv = 0 := HV.out.trans (pV_bad (by rw [(pE_bad HX.out h12' (Or.inr ⟨rfl, by rw [← HOV.out]; exact hz, HCV.out.symm⟩) : pE true s2.data.toList = 5)]; decide))
          subst e1
          subst e2
          have z1 : (ov == 0) = true := by simpa using hz
          clear h12 h12' hz HV HE
          go_wp2_with fail
          refine (KW.out _).mono ?_
          rintro e w5 ⟨rfl, hb5⟩
          go_wp2_with fail
          go_ret2
          exact ⟨rfl, bT (bD (b0 w) _) hb5⟩
        have h3 : ¬ (¬ (whO (pRest s2.data.toList) = true) ∨ (true = true ∧ whV (pRest s2.data.toList) = 0 ∧ pCoins s2.data.toList = 0)) := by
          rw [← HOB.out, ← HOV.out, ← HCV.out]
          intro hh
          rcases hh with hh | hh
          · exact hh rfl
          · exact hz hh.2.1
        have z1 : (ov == 0) = false := by simpa using hz
        clear hz
        have hx : (if true = true then (-1 : Int) else 1) * (ov * 100 + 0) = (-(ov * 100)) := by simp <;> omega
        have hpe : pE true s2.data.toList = if mrB (-(ov * 100)) = true then 0 else 10 := by rw [pE_chk HX.out h12' h3, ← HOV.out, ← HCV.out, hx]
        have hpv : pE true s2.data.toList = 0 → pV true s2.data.toList = (-(ov * 100)) := fun h => by rw [pV_ok h, ← HOV.out, ← HCV.out, hx]
        cases hm : mrB (-(ov * 100))
        · have e1 : re = 10 := HE.out.trans (by rw [hpe, hm]; rfl)
          have e2 : rv = 0 := HV.out.trans (pV_bad (by rw [hpe, hm]; decide))
          subst e1
          subst e2
          have K2 := Lib.hid (check_f (-(ov * 100)) · hm)
          clear h12 h12' h3 hpe hpv hm hx HV HE
          go_wp2_with fail
          refine (KW.out _).mono ?_
          rintro e w5 ⟨rfl, hb5⟩
          go_wp2_with fail
          refine (K2.out _).mono ?_
          rintro e w6 ⟨rfl, hb6⟩
          go_wp2_with fail
          go_ret2
          exact ⟨rfl, bT (bT (bD (b0 w) _) hb5) hb6⟩
        · have e1 : re = 0 := HE.out.trans (by rw [hpe, hm]; rfl)
          have e2 : rv = (-(ov * 100)) := HV.out.trans (hpv (by rw [hpe, hm]; rfl))
          subst e1
          have K2 := Lib.hid (check_t (-(ov * 100)) · hm)
          have E2 := Lib.hid e2
          clear h12 h12' h3 hpe hpv hm hx HV HE e2
          go_wp2_with fail
          refine (KW.out _).mono ?_
          rintro e w5 ⟨rfl, hb5⟩
          go_wp2_with fail
          refine (K2.out _).mono ?_
          rintro e w6 ⟨rfl, hb6⟩
          go_wp2_with fail
          go_ret2
          exact ⟨ret2_i E2.out.symm rfl, bT (bT (bD (b0 w) _) hb5) hb6⟩
      have t3 : decide ((3 : Int) < (s2.size : Int)) = false := by simp; omega
      have t3b : decide ((0 : Int) < (s2.size : Int) - 3) = false := by simp; omega
      have t3c : decide (3 < s2.size) = false := by simp; omega
      have t3d : IntKind.i64.wrap ((s2.size : Int) - 3) = (s2.size : Int) - 3 := by rw [IntKind.wrap_i64]; omega
      have hcut : pCut s2.data.toList = false := by unfold pCut; rw [hlen]; simp [h3]
      have hX : pX s2.data.toList := ⟨by omega, fun hc => by rw [hcut] at hc; cases hc.1⟩
      have HX := Lib.hid hX
      have HRS : Hid (pRest s2.data.toList = s2.data.toList) := by unfold Hid pRest; rw [if_neg (by rw [hcut]; decide)]
      have HCV : Hid ((0 : Int) = pCoins s2.data.toList) := by unfold Hid pCoins; rw [if_neg (by rw [hcut]; decide)]
      have hs20 : s2.size ≤ 20 := by omega
      clear hcut hlen h20 h3 hX
      by_cases h12 : 12 < s2.size
      · have w12 : decide ((12 : Int) < (s2.size : Int)) = true := by simp; omega
        have h12' : 12 < (pRest s2.data.toList).length := by rw [HRS.out, len_bytes]; exact h12
        obtain ⟨ov, hov⟩ : ∃ ov, ov = whV (s2.extract 0 12).data.toList := ⟨_, rfl⟩
        obtain ⟨ob, hob⟩ : ∃ ob, ob = whO (s2.extract 0 12).data.toList := ⟨_, rfl⟩
        have KW := Lib.hid (fun W => whole_c (s2.extract 0 12) W (by rw [ByteArray.size_extract]; omega) ov ob hov hob)
        have HOB : Hid (ob = whO ((pRest s2.data.toList).take 12)) := by unfold Hid; rw [hob, HRS.out, Lib.extract_data]; simp
        have KDG := Lib.hid (fun W => digits_c s2 W (by omega))
        have HDG : Hid (dTo (pRest s2.data.toList) (pRest s2.data.toList).length = dTo s2.data.toList s2.size) := by unfold Hid; rw [HRS.out, len_bytes]
        have x12 : (12 : Int) ≤ (s2.size : Int) := by omega
        have x12n : 12 ≤ s2.size := by omega
        clear hov hob
        generalize dTo s2.data.toList s2.size = dd at *
        cases ob
        · have e1 : re = 5 := HE.out.trans ((pE_big1 HX.out h12' (fun h => by rw [← HOB.out] at h; cases h.1) : pE true s2.data.toList = 5))
          have e2 : rv = 0 := HV.out.trans (pV_bad (by rw [(pE_big1 HX.out h12' (fun h => by rw [← HOB.out] at h; cases h.1) : pE true s2.data.toList = 5)]; decide))
          subst e1
          subst e2
          clear h12 h12'
          go_wp2_with fail
          refine (KW.out _).mono ?_
          rintro e w5 ⟨rfl, hb5⟩
          go_wp2_with fail
          go_ret2
          exact ⟨rfl, bT (bD (b0 w) _) hb5⟩
        · cases dd
          · have e1 : re = 5 := HE.out.trans ((pE_big1 HX.out h12' (fun h => by rw [HDG.out] at h; cases h.2) : pE true s2.data.toList = 5))
            have e2 : rv = 0 := HV.out.trans (pV_bad (by rw [(pE_big1 HX.out h12' (fun h => by rw [HDG.out] at h; cases h.2) : pE true s2.data.toList = 5)]; decide))
            subst e1
            subst e2
            clear h12 h12'
            go_wp2_with fail
            refine (KW.out _).mono ?_
            rintro e w5 ⟨rfl, hb5⟩
            go_wp2_with fail
            refine (KDG.out _).mono ?_
            rintro e w6 ⟨rfl, rfl⟩
            go_wp2_with fail
            go_ret2
            exact ⟨rfl, bT (bD (b0 w) _) hb5⟩
          · have e1 : re = 10 := HE.out.trans ((pE_big2 HX.out h12' ⟨HOB.out.symm, HDG.out⟩ : pE true s2.data.toList = 10))
            have e2 : rv = 0 := HV.out.trans (pV_bad (by rw [(pE_big2 HX.out h12' ⟨HOB.out.symm, HDG.out⟩ : pE true s2.data.toList = 10)]; decide))
            subst e1
            subst e2
            clear h12 h12'
            go_wp2_with fail
            refine (KW.out _).mono ?_
            rintro e w5 ⟨rfl, hb5⟩
            go_wp2_with fail
            refine (KDG.out _).mono ?_
            rintro e w6 ⟨rfl, rfl⟩
            go_wp2_with fail
            go_ret2
            exact ⟨rfl, bT (bD (b0 w) _) hb5⟩
      have w12 : decide ((12 : Int) < (s2.size : Int)) = false := by simp; omega
      have h12' : ¬ 12 < (pRest s2.data.toList).length := by rw [HRS.out, len_bytes]; exact h12
      obtain ⟨ov, hov⟩ : ∃ ov, ov = whV s2.data.toList := ⟨_, rfl⟩
      obtain ⟨ob, hob⟩ : ∃ ob, ob = whO s2.data.toList := ⟨_, rfl⟩
      have KW := Lib.hid (fun W => whole_c s2 W (by omega) ov ob hov hob)
      have HOB : Hid (ob = whO (pRest s2.data.toList)) := by unfold Hid; rw [hob, HRS.out]
      have HOV : Hid (ov = whV (pRest s2.data.toList)) := by unfold Hid; rw [hov, HRS.out]
      have hvb : 0 ≤ ov ∧ ov ≤ 1000000000000 := by rw [hov]; exact whV_bd _ (by rw [len_bytes]; omega)
      obtain ⟨hvb0, hvb1⟩ := hvb
      clear hov hob
      cases ob
      · have e1 : re = 5 := HE.out.trans ((pE_bad HX.out h12' (Or.inl (by rw [← HOB.out]; decide)) : pE true s2.data.toList = 5))
        have e2 : rv = 0 := HV.out.trans (pV_bad (by rw [(pE_bad HX.out h12' (Or.inl (by rw [← HOB.out]; decide)) : pE true s2.data.toList = 5)]; decide))
        subst e1
        subst e2
        clear h12 h12'
        go_wp2_with fail
        refine (KW.out _).mono ?_
        rintro e w5 ⟨rfl, hb5⟩
        go_wp2_with fail
        go_ret2
        exact ⟨rfl, bT (bD (b0 w) _) hb5⟩
      by_cases hz : ov = 0
      · have e1 : re = 5 := HE.out.trans ((pE_bad HX.out h12' (Or.inr ⟨rfl, by rw [← HOV.out]; exact hz, HCV.out.symm⟩) : pE true s2.data.toList = 5))
        have e2 : rv = 0 := HV.out.trans (pV_bad (by rw [(pE_bad HX.out h12' (Or.inr ⟨rfl, by rw [← HOV.out]; exact hz, HCV.out.symm⟩) : pE true s2.data.toList = 5)]; decide))
        subst e1
        subst e2
        have z1 : (ov == 0) = true := by simpa using hz
        clear h12 h12' hz HV HE
        go_wp2_with fail
        refine (KW.out _).mono ?_
        rintro e w5 ⟨rfl, hb5⟩
        go_wp2_with fail
        go_ret2
        exact ⟨rfl, bT (bD (b0 w) _) hb5⟩
      have h3 : ¬ (¬ (whO (pRest s2.data.toList) = true) ∨ (true = true ∧ whV (pRest s2.data.toList) = 0 ∧ pCoins s2.data.toList = 0)) := by
        rw [← HOB.out, ← HOV.out, ← HCV.out]
        intro hh
        rcases hh with hh | hh
        · exact hh rfl
        · exact hz hh.2.1
      have z1 : (ov == 0) = false := by simpa using hz
      clear hz
      have hx : (if true = true then (-1 : Int) else 1) * (ov * 100 + 0) = (-(ov * 100)) := by simp <;> omega
      have hpe : pE true s2.data.toList = if mrB (-(ov * 100)) = true then 0 else 10 := by rw [pE_chk HX.out h12' h3, ← HOV.out, ← HCV.out, hx]
      have hpv : pE true s2.data.toList = 0 → pV true s2.data.toList = (-(ov * 100)) := fun h => by rw [pV_ok h, ← HOV.out, ← HCV.out, hx]
      cases hm : mrB (-(ov * 100))
      · have e1 : re = 10 := HE.out.trans (by rw [hpe, hm]; rfl)
        have e2 : rv = 0 := HV.out.trans (pV_bad (by rw [hpe, hm]; decide))
        subst e1
        subst e2
        have K2 := Lib.hid (check_f (-(ov * 100)) · hm)
        clear h12 h12' h3 hpe hpv hm hx HV HE
        go_wp2_with fail
        refine (KW.out _).mono ?_
        rintro e w5 ⟨rfl, hb5⟩
        go_wp2_with fail
        refine (K2.out _).mono ?_
        rintro e w6 ⟨rfl, hb6⟩
        go_wp2_with fail
        go_ret2
        exact ⟨rfl, bT (bT (bD (b0 w) _) hb5) hb6⟩
      · have e1 : re = 0 := HE.out.trans (by rw [hpe, hm]; rfl)
        have e2 : rv = (-(ov * 100)) := HV.out.trans (hpv (by rw [hpe, hm]; rfl))
        subst e1
        have K2 := Lib.hid (check_t (-(ov * 100)) · hm)
        have E2 := Lib.hid e2
        clear h12 h12' h3 hpe hpv hm hx HV HE e2
        go_wp2_with fail
        refine (KW.out _).mono ?_
        rintro e w5 ⟨rfl, hb5⟩
        go_wp2_with fail
        refine (K2.out _).mono ?_
        rintro e w6 ⟨rfl, hb6⟩
        go_wp2_with fail
        go_ret2
        exact ⟨ret2_i E2.out.symm rfl, bT (bT (bD (b0 w) _) hb5) hb6⟩
    have hsn : (gB s.data.toList 0 == 45) = false := by simpa using hsg
    have hpn : pNeg s.data.toList = false := by unfold pNeg; simp [hsg]
    have hpb : pBody s.data.toList = s.data.toList := by unfold pBody; rw [if_neg (by rw [hpn]; decide)]
    have HE : Hid (re = pE false s.data.toList) := by have := HRE.out; unfold parseE at this; rw [hpn, hpb] at this; exact this
    have HV : Hid (rv = pV false s.data.toList) := by have := HRV.out; unfold parseV at this; rw [hpn, hpb] at this; exact this
    clear hpn hpb HRE HRV
    generalize gB s.data.toList 0 = cz at *
    clear hsg
    go_enter Tryz.func40, Tryz.ntmps40
    go_upto_region 4 with (fail)
    have hlen := len_bytes s
    by_cases h20 : 20 < s.size
    · have v20 : decide ((20 : Int) < (s.size : Int)) = true := by simp; omega
      have e1 : re = 5 := HE.out.trans (pE_long (by rw [hlen]; exact h20))
      have e2 : rv = 0 := HV.out.trans (pV_bad (by rw [pE_long (by rw [hlen]; exact h20)]; decide))
      subst e1
      subst e2
      clear h20 hlen HV HE
      go_wp2_with fail
      go_ret2
      exact ⟨rfl, (b0 w)⟩
    have v20 : decide ((20 : Int) < (s.size : Int)) = false := by simp; omega
    by_cases h3 : 3 < s.size
    · obtain ⟨q, hq⟩ : ∃ q, s.size = q + 3 := ⟨s.size - 3, by omega⟩
      have hq0 : 0 < q := by omega
      have hqi : (s.size : Int) - 3 = (q : Int) := by omega
      have hq0i : (0 : Int) < (q : Int) := by omega
      have kqn1 : q < s.size := by omega
      have kqn2 : q + 1 < s.size := by omega
      have kqn3 : q + 2 < s.size := by omega
      have hbq := byte_gB s q kqn1
      have hbq1 := byte_gB s (q + 1) kqn2
      have hbq2 := byte_gB s (q + 2) kqn3
      have hlq : (s.data.toList).length - 3 = q := by omega
      have hlq2 : (s.data.toList).length - 2 = q + 1 := by omega
      have hlq1 : (s.data.toList).length - 1 = q + 2 := by omega
      have hg1 := gB_bd s.data.toList (q + 1)
      have hg2 := gB_bd s.data.toList (q + 2)
      have kq1 : ((q : Int)).toNat = q := by omega
      have kq2 : ((q : Int) + 1).toNat = q + 1 := by omega
      have kq3 : ((q : Int) + 2).toNat = q + 2 := by omega
      have kq4 : (q : Int) < (s.size : Int) := by omega
      have kq5 : (q : Int) + 1 < (s.size : Int) := by omega
      have kq6 : (q : Int) + 2 < (s.size : Int) := by omega
      have kq7 : (0 : Int) ≤ (q : Int) + 1 := by omega
      have kq8 : (0 : Int) ≤ (q : Int) + 2 := by omega
      have kq9 : IntKind.i64.wrap ((q : Int) + 1) = (q : Int) + 1 := by rw [IntKind.wrap_i64]; omega
      have kq10 : IntKind.i64.wrap ((q : Int) + 2) = (q : Int) + 2 := by rw [IntKind.wrap_i64]; omega
      have kqs : (q : Int) ≤ (s.size : Int) := by omega
      have kqq : (q : Int) ≤ 20 := by omega
      by_cases hdot : gB s.data.toList q = 46
      · have hcut : pCut s.data.toList = true := by unfold pCut; rw [hlq, hdot]; simp; omega
        rw [hdot] at hbq
        have HCC : Hid (pCoins s.data.toList = (gB s.data.toList (q + 1) - 48) * 10 + (gB s.data.toList (q + 2) - 48)) := by unfold Hid pCoins; rw [if_pos hcut, hlq2, hlq1]
        have HND : Hid (¬ (dI (gB s.data.toList (q + 1)) = true ∧ dI (gB s.data.toList (q + 2)) = true) → pE false s.data.toList = 5) := fun h => pE_nd (by omega) hcut (by rw [hlq2, hlq1]; exact h)
        have HXX : Hid (dI (gB s.data.toList (q + 1)) = true ∧ dI (gB s.data.toList (q + 2)) = true → pX s.data.toList) := fun h => ⟨by omega, fun hc => hc.2 (by rw [hlq2, hlq1]; exact h)⟩
        have HRS0 : Hid (pRest s.data.toList = (s.extract 0 q).data.toList) := by unfold Hid pRest; rw [if_pos hcut, hlq, Lib.extract_data]; simp
        have hsz3 : (s.extract 0 q).size = q := by rw [ByteArray.size_extract]; omega
        generalize gB s.data.toList (q + 1) = c1 at *
        generalize gB s.data.toList (q + 2) = c2 at *
        have KD1 := Lib.hid (digit_c c1)
        have KD2 := Lib.hid (digit_c c2)
        obtain ⟨g10, g11⟩ := hg1
        obtain ⟨g20, g21⟩ := hg2
        clear hdot hcut hlq hlq1 hlq2 hlen h20 h3 hq
        cases hd1 : dI c1
        · have hpe := HND.out (fun h => by rw [hd1] at h; cases h.1)
          have e1 : re = 5 := HE.out.trans (hpe)
          have e2 : rv = 0 := HV.out.trans (pV_bad (by rw [hpe]; decide))
          subst e1
          subst e2
          rw [hd1] at KD1
          clear hd1 hpe HV HE hsz3
          go_wp2_with fail
          refine (KD1.out _).mono ?_
          rintro e w3 ⟨rfl, rfl⟩
          go_wp2_with fail
          go_ret2
          exact ⟨rfl, (b0 w)⟩
        cases hd2 : dI c2
        · have hpe := HND.out (fun h => by rw [hd2] at h; cases h.2)
          have e1 : re = 5 := HE.out.trans (hpe)
          have e2 : rv = 0 := HV.out.trans (pV_bad (by rw [hpe]; decide))
          subst e1
          subst e2
          rw [hd1] at KD1
          rw [hd2] at KD2
          clear hd1 hd2 hpe HV HE hsz3
          go_wp2_with fail
          refine (KD1.out _).mono ?_
          rintro e w3 ⟨rfl, rfl⟩
          go_wp2_with fail
          refine (KD2.out _).mono ?_
          rintro e w3 ⟨rfl, rfl⟩
          go_wp2_with fail
          go_ret2
          exact ⟨rfl, (b0 w)⟩
        have hX := HXX.out ⟨hd1, hd2⟩
        have d1 : 48 ≤ c1 ∧ c1 ≤ 57 := by unfold dI at hd1; simpa using hd1
        have d2 : 48 ≤ c2 ∧ c2 ≤ 57 := by unfold dI at hd2; simpa using hd2
        obtain ⟨d10, d11⟩ := d1
        obtain ⟨d20, d21⟩ := d2
        rw [hd1] at KD1
        rw [hd2] at KD2
        have HX := Lib.hid hX
        have HS3 := Lib.hid hsz3
        clear hd1 hd2 HND HXX hX hsz3
        have u1 : IntKind.u8.wrap (c1 - 48) = c1 - 48 := by rw [IntKind.wrap_u8]; omega
        have u2 : IntKind.u8.wrap (c2 - 48) = c2 - 48 := by rw [IntKind.wrap_u8]; omega
        have u3 : IntKind.i64.wrap (c1 - 48) = c1 - 48 := by rw [IntKind.wrap_i64]; omega
        have u4 : IntKind.i64.wrap (c2 - 48) = c2 - 48 := by rw [IntKind.wrap_i64]; omega
        have u5 : IntKind.i64.wrap ((c1 - 48) * 10) = (c1 - 48) * 10 := by rw [IntKind.wrap_i64]; omega
        have u6 : IntKind.i64.wrap ((c1 - 48) * 10 + (c2 - 48)) = (c1 - 48) * 10 + (c2 - 48) := by rw [IntKind.wrap_i64]; omega
        go_wp2_with fail
        refine (KD1.out _).mono ?_
        rintro e w3 ⟨rfl, rfl⟩
        go_wp2_with fail
        refine (KD2.out _).mono ?_
        rintro e w3 ⟨rfl, rfl⟩
        go_wp2_with fail
        go_quiet (fail)
        simp only [Exit.then]
        rename_i hK
        refine hK _ _ ?_
        clear hK
        have hcb : 0 ≤ (c1 - 48) * 10 + (c2 - 48) ∧ (c1 - 48) * 10 + (c2 - 48) ≤ 99 := by omega
        have HCV0 : Hid ((c1 - 48) * 10 + (c2 - 48) = pCoins s.data.toList) := HCC.out.symm
        clear u1 u2 u3 u4 u5 u6 HCC
        generalize (c1 - 48) * 10 + (c2 - 48) = cv at *
        have HCV : Hid (cv = pCoins s.data.toList) := HCV0
        have hsz3 := HS3.out
        have HRS := HRS0
        generalize s.extract 0 q = s3 at *
        obtain ⟨cb0, cb1⟩ := hcb
        have hs3 : s3.size ≤ 20 := by omega
        clear hsz3 HS3 HRS0 HCV0
        by_cases h12 : 12 < s3.size
        · have w12 : decide ((12 : Int) < (s3.size : Int)) = true := by simp; omega
          have h12' : 12 < (pRest s.data.toList).length := by rw [HRS.out, len_bytes]; exact h12
          obtain ⟨ov, hov⟩ : ∃ ov, ov = whV (s3.extract 0 12).data.toList := ⟨_, rfl⟩
          obtain ⟨ob, hob⟩ : ∃ ob, ob = whO (s3.extract 0 12).data.toList := ⟨_, rfl⟩
          have KW := Lib.hid (fun W => whole_c (s3.extract 0 12) W (by rw [ByteArray.size_extract]; omega) ov ob hov hob)
          have HOB : Hid (ob = whO ((pRest s.data.toList).take 12)) := by unfold Hid; rw [hob, HRS.out, Lib.extract_data]; simp
          have KDG := Lib.hid (fun W => digits_c s3 W (by omega))
          have HDG : Hid (dTo (pRest s.data.toList) (pRest s.data.toList).length = dTo s3.data.toList s3.size) := by unfold Hid; rw [HRS.out, len_bytes]
          have x12 : (12 : Int) ≤ (s3.size : Int) := by omega
          have x12n : 12 ≤ s3.size := by omega
          clear hov hob
          generalize dTo s3.data.toList s3.size = dd at *
          cases ob
          · have e1 : re = 5 := HE.out.trans ((pE_big1 HX.out h12' (fun h => by rw [← HOB.out] at h; cases h.1) : pE false s.data.toList = 5))
            have e2 : rv = 0 := HV.out.trans (pV_bad (by rw [(pE_big1 HX.out h12' (fun h => by rw [← HOB.out] at h; cases h.1) : pE false s.data.toList = 5)]; decide))
            subst e1
            subst e2
            clear h12 h12'
            go_wp2_with fail
            refine (KW.out _).mono ?_
            rintro e w5 ⟨rfl, hb5⟩
            go_wp2_with fail
            go_ret2
            exact ⟨rfl, bT (bD (b0 w) _) hb5⟩
          · cases dd
            · have e1 : re = 5 := HE.out.trans ((pE_big1 HX.out h12' (fun h => by rw [HDG.out] at h; cases h.2) : pE false s.data.toList = 5))
              have e2 : rv = 0 := HV.out.trans (pV_bad (by rw [(pE_big1 HX.out h12' (fun h => by rw [HDG.out] at h; cases h.2) : pE false s.data.toList = 5)]; decide))
              subst e1
              subst e2
              clear h12 h12'
              go_wp2_with fail
              refine (KW.out _).mono ?_
              rintro e w5 ⟨rfl, hb5⟩
              go_wp2_with fail
              refine (KDG.out _).mono ?_
              rintro e w6 ⟨rfl, rfl⟩
              go_wp2_with fail
              go_ret2
              exact ⟨rfl, bT (bD (b0 w) _) hb5⟩
            · have e1 : re = 10 := HE.out.trans ((pE_big2 HX.out h12' ⟨HOB.out.symm, HDG.out⟩ : pE false s.data.toList = 10))
              have e2 : rv = 0 := HV.out.trans (pV_bad (by rw [(pE_big2 HX.out h12' ⟨HOB.out.symm, HDG.out⟩ : pE false s.data.toList = 10)]; decide))
              subst e1
              subst e2
              clear h12 h12'
              go_wp2_with fail
              refine (KW.out _).mono ?_
              rintro e w5 ⟨rfl, hb5⟩
              go_wp2_with fail
              refine (KDG.out _).mono ?_
              rintro e w6 ⟨rfl, rfl⟩
              go_wp2_with fail
              go_ret2
              exact ⟨rfl, bT (bD (b0 w) _) hb5⟩
        have w12 : decide ((12 : Int) < (s3.size : Int)) = false := by simp; omega
        have h12' : ¬ 12 < (pRest s.data.toList).length := by rw [HRS.out, len_bytes]; exact h12
        obtain ⟨ov, hov⟩ : ∃ ov, ov = whV s3.data.toList := ⟨_, rfl⟩
        obtain ⟨ob, hob⟩ : ∃ ob, ob = whO s3.data.toList := ⟨_, rfl⟩
        have KW := Lib.hid (fun W => whole_c s3 W (by omega) ov ob hov hob)
        have HOB : Hid (ob = whO (pRest s.data.toList)) := by unfold Hid; rw [hob, HRS.out]
        have HOV : Hid (ov = whV (pRest s.data.toList)) := by unfold Hid; rw [hov, HRS.out]
        have hvb : 0 ≤ ov ∧ ov ≤ 1000000000000 := by rw [hov]; exact whV_bd _ (by rw [len_bytes]; omega)
        obtain ⟨hvb0, hvb1⟩ := hvb
        clear hov hob
        cases ob
        · have e1 : re = 5 := HE.out.trans ((pE_bad HX.out h12' (Or.inl (by rw [← HOB.out]; decide)) : pE false s.data.toList = 5))
          have e2 : rv = 0 := HV.out.trans (pV_bad (by rw [(pE_bad HX.out h12' (Or.inl (by rw [← HOB.out]; decide)) : pE false s.data.toList = 5)]; decide))
          subst e1
          subst e2
          clear h12 h12'
          go_wp2_with fail
          refine (KW.out _).mono ?_
          rintro e w5 ⟨rfl, hb5⟩
          go_wp2_with fail
          go_ret2
          exact ⟨rfl, bT (bD (b0 w) _) hb5⟩
        have h3 : ¬ (¬ (whO (pRest s.data.toList) = true) ∨ (false = true ∧ whV (pRest s.data.toList) = 0 ∧ pCoins s.data.toList = 0)) := by
          rw [← HOB.out]
          intro hh
          rcases hh with hh | hh
          · exact hh rfl
          · exact absurd hh.1 (by decide)
        have hx : (if false = true then (-1 : Int) else 1) * (ov * 100 + cv) = (ov * 100 + cv) := by simp
        have hpe : pE false s.data.toList = if mrB (ov * 100 + cv) = true then 0 else 10 := by rw [pE_chk HX.out h12' h3, ← HOV.out, ← HCV.out, hx]
        have hpv : pE false s.data.toList = 0 → pV false s.data.toList = (ov * 100 + cv) := fun h => by rw [pV_ok h, ← HOV.out, ← HCV.out, hx]
        cases hm : mrB (ov * 100 + cv)
        · have e1 : re = 10 := HE.out.trans (by rw [hpe, hm]; rfl)
          have e2 : rv = 0 := HV.out.trans (pV_bad (by rw [hpe, hm]; decide))
          subst e1
          subst e2
          have K2 := Lib.hid (check_f (ov * 100 + cv) · hm)
          clear h12 h12' h3 hpe hpv hm hx HV HE
          go_wp2_with fail
          refine (KW.out _).mono ?_
          rintro e w5 ⟨rfl, hb5⟩
          go_wp2_with fail
          refine (K2.out _).mono ?_
          rintro e w6 ⟨rfl, hb6⟩
          go_wp2_with fail
          go_ret2
          exact ⟨rfl, bT (bT (bD (b0 w) _) hb5) hb6⟩
        · have e1 : re = 0 := HE.out.trans (by rw [hpe, hm]; rfl)
          have e2 : rv = (ov * 100 + cv) := HV.out.trans (hpv (by rw [hpe, hm]; rfl))
          subst e1
          have K2 := Lib.hid (check_t (ov * 100 + cv) · hm)
          have E2 := Lib.hid e2
          clear h12 h12' h3 hpe hpv hm hx HV HE e2
          go_wp2_with fail
          refine (KW.out _).mono ?_
          rintro e w5 ⟨rfl, hb5⟩
          go_wp2_with fail
          refine (K2.out _).mono ?_
          rintro e w6 ⟨rfl, hb6⟩
          go_wp2_with fail
          go_ret2
          exact ⟨ret2_i E2.out.symm rfl, bT (bT (bD (b0 w) _) hb5) hb6⟩
      have hcut : pCut s.data.toList = false := by unfold pCut; rw [hlq]; simp [hdot]
      have hbn : (gB s.data.toList q == 46) = false := by simpa using hdot
      have hX : pX s.data.toList := ⟨by omega, fun hc => by rw [hcut] at hc; cases hc.1⟩
      have HX := Lib.hid hX
      have HRS : Hid (pRest s.data.toList = s.data.toList) := by unfold Hid pRest; rw [if_neg (by rw [hcut]; decide)]
      have HCV : Hid ((0 : Int) = pCoins s.data.toList) := by unfold Hid pCoins; rw [if_neg (by rw [hcut]; decide)]
      have hs20 : s.size ≤ 20 := by omega
      generalize gB s.data.toList q = c0 at *
      clear hdot hcut hlq hlq1 hlq2 hlen h20 h3 hq hX hbq1 hbq2 hg1 hg2 kq2 kq3 kq5 kq6 kq7 kq8 kq9 kq10 kqn2 kqn3
      by_cases h12 : 12 < s.size
      · have w12 : decide ((12 : Int) < (s.size : Int)) = true := by simp; omega
        have h12' : 12 < (pRest s.data.toList).length := by rw [HRS.out, len_bytes]; exact h12
        obtain ⟨ov, hov⟩ : ∃ ov, ov = whV (s.extract 0 12).data.toList := ⟨_, rfl⟩
        obtain ⟨ob, hob⟩ : ∃ ob, ob = whO (s.extract 0 12).data.toList := ⟨_, rfl⟩
        have KW := Lib.hid (fun W => whole_c (s.extract 0 12) W (by rw [ByteArray.size_extract]; omega) ov ob hov hob)
        have HOB : Hid (ob = whO ((pRest s.data.toList).take 12)) := by unfold Hid; rw [hob, HRS.out, Lib.extract_data]; simp
        have KDG := Lib.hid (fun W => digits_c s W (by omega))
        have HDG : Hid (dTo (pRest s.data.toList) (pRest s.data.toList).length = dTo s.data.toList s.size) := by unfold Hid; rw [HRS.out, len_bytes]
        have x12 : (12 : Int) ≤ (s.size : Int) := by omega
        have x12n : 12 ≤ s.size := by omega
        clear hov hob
        generalize dTo s.data.toList s.size = dd at *
        cases ob
        · have e1 : re = 5 := HE.out.trans ((pE_big1 HX.out h12' (fun h => by rw [← HOB.out] at h; cases h.1) : pE false s.data.toList = 5))
          have e2 : rv = 0 := HV.out.trans (pV_bad (by rw [(pE_big1 HX.out h12' (fun h => by rw [← HOB.out] at h; cases h.1) : pE false s.data.toList = 5)]; decide))
          subst e1
          subst e2
          clear h12 h12'
          go_wp2_with fail
          refine (KW.out _).mono ?_
          rintro e w5 ⟨rfl, hb5⟩
          go_wp2_with fail
          go_ret2
          exact ⟨rfl, bT (b0 w) hb5⟩
        · cases dd
          · have e1 : re = 5 := HE.out.trans ((pE_big1 HX.out h12' (fun h => by rw [HDG.out] at h; cases h.2) : pE false s.data.toList = 5))
            have e2 : rv = 0 := HV.out.trans (pV_bad (by rw [(pE_big1 HX.out h12' (fun h => by rw [HDG.out] at h; cases h.2) : pE false s.data.toList = 5)]; decide))
            subst e1
            subst e2
            clear h12 h12'
            go_wp2_with fail
            refine (KW.out _).mono ?_
            rintro e w5 ⟨rfl, hb5⟩
            go_wp2_with fail
            refine (KDG.out _).mono ?_
            rintro e w6 ⟨rfl, rfl⟩
            go_wp2_with fail
            go_ret2
            exact ⟨rfl, bT (b0 w) hb5⟩
          · have e1 : re = 10 := HE.out.trans ((pE_big2 HX.out h12' ⟨HOB.out.symm, HDG.out⟩ : pE false s.data.toList = 10))
            have e2 : rv = 0 := HV.out.trans (pV_bad (by rw [(pE_big2 HX.out h12' ⟨HOB.out.symm, HDG.out⟩ : pE false s.data.toList = 10)]; decide))
            subst e1
            subst e2
            clear h12 h12'
            go_wp2_with fail
            refine (KW.out _).mono ?_
            rintro e w5 ⟨rfl, hb5⟩
            go_wp2_with fail
            refine (KDG.out _).mono ?_
            rintro e w6 ⟨rfl, rfl⟩
            go_wp2_with fail
            go_ret2
            exact ⟨rfl, bT (b0 w) hb5⟩
      have w12 : decide ((12 : Int) < (s.size : Int)) = false := by simp; omega
      have h12' : ¬ 12 < (pRest s.data.toList).length := by rw [HRS.out, len_bytes]; exact h12
      obtain ⟨ov, hov⟩ : ∃ ov, ov = whV s.data.toList := ⟨_, rfl⟩
      obtain ⟨ob, hob⟩ : ∃ ob, ob = whO s.data.toList := ⟨_, rfl⟩
      have KW := Lib.hid (fun W => whole_c s W (by omega) ov ob hov hob)
      have HOB : Hid (ob = whO (pRest s.data.toList)) := by unfold Hid; rw [hob, HRS.out]
      have HOV : Hid (ov = whV (pRest s.data.toList)) := by unfold Hid; rw [hov, HRS.out]
      have hvb : 0 ≤ ov ∧ ov ≤ 1000000000000 := by rw [hov]; exact whV_bd _ (by rw [len_bytes]; omega)
      obtain ⟨hvb0, hvb1⟩ := hvb
      clear hov hob
      cases ob
      · have e1 : re = 5 := HE.out.trans ((pE_bad HX.out h12' (Or.inl (by rw [← HOB.out]; decide)) : pE false s.data.toList = 5))
        have e2 : rv = 0 := HV.out.trans (pV_bad (by rw [(pE_bad HX.out h12' (Or.inl (by rw [← HOB.out]; decide)) : pE false s.data.toList = 5)]; decide))
        subst e1
        subst e2
        clear h12 h12'
        go_wp2_with fail
        refine (KW.out _).mono ?_
        rintro e w5 ⟨rfl, hb5⟩
        go_wp2_with fail
        go_ret2
        exact ⟨rfl, bT (b0 w) hb5⟩
      have h3 : ¬ (¬ (whO (pRest s.data.toList) = true) ∨ (false = true ∧ whV (pRest s.data.toList) = 0 ∧ pCoins s.data.toList = 0)) := by
        rw [← HOB.out]
        intro hh
        rcases hh with hh | hh
        · exact hh rfl
        · exact absurd hh.1 (by decide)
      have hx : (if false = true then (-1 : Int) else 1) * (ov * 100 + 0) = (ov * 100) := by simp
      have hpe : pE false s.data.toList = if mrB (ov * 100) = true then 0 else 10 := by rw [pE_chk HX.out h12' h3, ← HOV.out, ← HCV.out, hx]
      have hpv : pE false s.data.toList = 0 → pV false s.data.toList = (ov * 100) := fun h => by rw [pV_ok h, ← HOV.out, ← HCV.out, hx]
      cases hm : mrB (ov * 100)
      · have e1 : re = 10 := HE.out.trans (by rw [hpe, hm]; rfl)
        have e2 : rv = 0 := HV.out.trans (pV_bad (by rw [hpe, hm]; decide))
        subst e1
        subst e2
        have K2 := Lib.hid (check_f (ov * 100) · hm)
        clear h12 h12' h3 hpe hpv hm hx HV HE
        go_wp2_with fail
        refine (KW.out _).mono ?_
        rintro e w5 ⟨rfl, hb5⟩
        go_wp2_with fail
        refine (K2.out _).mono ?_
        rintro e w6 ⟨rfl, hb6⟩
        go_wp2_with fail
        go_ret2
        exact ⟨rfl, bT (bT (b0 w) hb5) hb6⟩
      · have e1 : re = 0 := HE.out.trans (by rw [hpe, hm]; rfl)
        have e2 : rv = (ov * 100) := HV.out.trans (hpv (by rw [hpe, hm]; rfl))
        subst e1
        have K2 := Lib.hid (check_t (ov * 100) · hm)
        have E2 := Lib.hid e2
        clear h12 h12' h3 hpe hpv hm hx HV HE e2
        go_wp2_with fail
        refine (KW.out _).mono ?_
        rintro e w5 ⟨rfl, hb5⟩
        go_wp2_with fail
        refine (K2.out _).mono ?_
        rintro e w6 ⟨rfl, hb6⟩
        go_wp2_with fail
        go_ret2
        exact ⟨ret2_i E2.out.symm rfl, bT (bT (b0 w) hb5) hb6⟩
    have t3 : decide ((3 : Int) < (s.size : Int)) = false := by simp; omega
    have t3b : decide ((0 : Int) < (s.size : Int) - 3) = false := by simp; omega
    have t3c : decide (3 < s.size) = false := by simp; omega
    have t3d : IntKind.i64.wrap ((s.size : Int) - 3) = (s.size : Int) - 3 := by rw [IntKind.wrap_i64]; omega
    have hcut : pCut s.data.toList = false := by unfold pCut; rw [hlen]; simp [h3]
    have hX : pX s.data.toList := ⟨by omega, fun hc => by rw [hcut] at hc; cases hc.1⟩
    have HX := Lib.hid hX
    have HRS : Hid (pRest s.data.toList = s.data.toList) := by unfold Hid pRest; rw [if_neg (by rw [hcut]; decide)]
    have HCV : Hid ((0 : Int) = pCoins s.data.toList) := by unfold Hid pCoins; rw [if_neg (by rw [hcut]; decide)]
    have hs20 : s.size ≤ 20 := by omega
    clear hcut hlen h20 h3 hX
    by_cases h12 : 12 < s.size
    · have w12 : decide ((12 : Int) < (s.size : Int)) = true := by simp; omega
      have h12' : 12 < (pRest s.data.toList).length := by rw [HRS.out, len_bytes]; exact h12
      obtain ⟨ov, hov⟩ : ∃ ov, ov = whV (s.extract 0 12).data.toList := ⟨_, rfl⟩
      obtain ⟨ob, hob⟩ : ∃ ob, ob = whO (s.extract 0 12).data.toList := ⟨_, rfl⟩
      have KW := Lib.hid (fun W => whole_c (s.extract 0 12) W (by rw [ByteArray.size_extract]; omega) ov ob hov hob)
      have HOB : Hid (ob = whO ((pRest s.data.toList).take 12)) := by unfold Hid; rw [hob, HRS.out, Lib.extract_data]; simp
      have KDG := Lib.hid (fun W => digits_c s W (by omega))
      have HDG : Hid (dTo (pRest s.data.toList) (pRest s.data.toList).length = dTo s.data.toList s.size) := by unfold Hid; rw [HRS.out, len_bytes]
      have x12 : (12 : Int) ≤ (s.size : Int) := by omega
      have x12n : 12 ≤ s.size := by omega
      clear hov hob
      generalize dTo s.data.toList s.size = dd at *
      cases ob
      · have e1 : re = 5 := HE.out.trans ((pE_big1 HX.out h12' (fun h => by rw [← HOB.out] at h; cases h.1) : pE false s.data.toList = 5))
        have e2 : rv = 0 := HV.out.trans (pV_bad (by rw [(pE_big1 HX.out h12' (fun h => by rw [← HOB.out] at h; cases h.1) : pE false s.data.toList = 5)]; decide))
        subst e1
        subst e2
        clear h12 h12'
        go_wp2_with fail
        refine (KW.out _).mono ?_
        rintro e w5 ⟨rfl, hb5⟩
        go_wp2_with fail
        go_ret2
        exact ⟨rfl, bT (b0 w) hb5⟩
      · cases dd
        · have e1 : re = 5 := HE.out.trans ((pE_big1 HX.out h12' (fun h => by rw [HDG.out] at h; cases h.2) : pE false s.data.toList = 5))
          have e2 : rv = 0 := HV.out.trans (pV_bad (by rw [(pE_big1 HX.out h12' (fun h => by rw [HDG.out] at h; cases h.2) : pE false s.data.toList = 5)]; decide))
          subst e1
          subst e2
          clear h12 h12'
          go_wp2_with fail
          refine (KW.out _).mono ?_
          rintro e w5 ⟨rfl, hb5⟩
          go_wp2_with fail
          refine (KDG.out _).mono ?_
          rintro e w6 ⟨rfl, rfl⟩
          go_wp2_with fail
          go_ret2
          exact ⟨rfl, bT (b0 w) hb5⟩
        · have e1 : re = 10 := HE.out.trans ((pE_big2 HX.out h12' ⟨HOB.out.symm, HDG.out⟩ : pE false s.data.toList = 10))
          have e2 : rv = 0 := HV.out.trans (pV_bad (by rw [(pE_big2 HX.out h12' ⟨HOB.out.symm, HDG.out⟩ : pE false s.data.toList = 10)]; decide))
          subst e1
          subst e2
          clear h12 h12'
          go_wp2_with fail
          refine (KW.out _).mono ?_
          rintro e w5 ⟨rfl, hb5⟩
          go_wp2_with fail
          refine (KDG.out _).mono ?_
          rintro e w6 ⟨rfl, rfl⟩
          go_wp2_with fail
          go_ret2
          exact ⟨rfl, bT (b0 w) hb5⟩
    have w12 : decide ((12 : Int) < (s.size : Int)) = false := by simp; omega
    have h12' : ¬ 12 < (pRest s.data.toList).length := by rw [HRS.out, len_bytes]; exact h12
    obtain ⟨ov, hov⟩ : ∃ ov, ov = whV s.data.toList := ⟨_, rfl⟩
    obtain ⟨ob, hob⟩ : ∃ ob, ob = whO s.data.toList := ⟨_, rfl⟩
    have KW := Lib.hid (fun W => whole_c s W (by omega) ov ob hov hob)
    have HOB : Hid (ob = whO (pRest s.data.toList)) := by unfold Hid; rw [hob, HRS.out]
    have HOV : Hid (ov = whV (pRest s.data.toList)) := by unfold Hid; rw [hov, HRS.out]
    have hvb : 0 ≤ ov ∧ ov ≤ 1000000000000 := by rw [hov]; exact whV_bd _ (by rw [len_bytes]; omega)
    obtain ⟨hvb0, hvb1⟩ := hvb
    clear hov hob
    cases ob
    · have e1 : re = 5 := HE.out.trans ((pE_bad HX.out h12' (Or.inl (by rw [← HOB.out]; decide)) : pE false s.data.toList = 5))
      have e2 : rv = 0 := HV.out.trans (pV_bad (by rw [(pE_bad HX.out h12' (Or.inl (by rw [← HOB.out]; decide)) : pE false s.data.toList = 5)]; decide))
      subst e1
      subst e2
      clear h12 h12'
      go_wp2_with fail
      refine (KW.out _).mono ?_
      rintro e w5 ⟨rfl, hb5⟩
      go_wp2_with fail
      go_ret2
      exact ⟨rfl, bT (b0 w) hb5⟩
    have h3 : ¬ (¬ (whO (pRest s.data.toList) = true) ∨ (false = true ∧ whV (pRest s.data.toList) = 0 ∧ pCoins s.data.toList = 0)) := by
      rw [← HOB.out]
      intro hh
      rcases hh with hh | hh
      · exact hh rfl
      · exact absurd hh.1 (by decide)
    have hx : (if false = true then (-1 : Int) else 1) * (ov * 100 + 0) = (ov * 100) := by simp
    have hpe : pE false s.data.toList = if mrB (ov * 100) = true then 0 else 10 := by rw [pE_chk HX.out h12' h3, ← HOV.out, ← HCV.out, hx]
    have hpv : pE false s.data.toList = 0 → pV false s.data.toList = (ov * 100) := fun h => by rw [pV_ok h, ← HOV.out, ← HCV.out, hx]
    cases hm : mrB (ov * 100)
    · have e1 : re = 10 := HE.out.trans (by rw [hpe, hm]; rfl)
      have e2 : rv = 0 := HV.out.trans (pV_bad (by rw [hpe, hm]; decide))
      subst e1
      subst e2
      have K2 := Lib.hid (check_f (ov * 100) · hm)
      clear h12 h12' h3 hpe hpv hm hx HV HE
      go_wp2_with fail
      refine (KW.out _).mono ?_
      rintro e w5 ⟨rfl, hb5⟩
      go_wp2_with fail
      refine (K2.out _).mono ?_
      rintro e w6 ⟨rfl, hb6⟩
      go_wp2_with fail
      go_ret2
      exact ⟨rfl, bT (bT (b0 w) hb5) hb6⟩
    · have e1 : re = 0 := HE.out.trans (by rw [hpe, hm]; rfl)
      have e2 : rv = (ov * 100) := HV.out.trans (hpv (by rw [hpe, hm]; rfl))
      subst e1
      have K2 := Lib.hid (check_t (ov * 100) · hm)
      have E2 := Lib.hid e2
      clear h12 h12' h3 hpe hpv hm hx HV HE e2
      go_wp2_with fail
      refine (KW.out _).mono ?_
      rintro e w5 ⟨rfl, hb5⟩
      go_wp2_with fail
      refine (K2.out _).mono ?_
      rintro e w6 ⟨rfl, hb6⟩
      go_wp2_with fail
      go_ret2
      exact ⟨ret2_i E2.out.symm rfl, bT (bT (b0 w) hb5) hb6⟩
  have vz : decide ((0 : Int) < (s.size : Int)) = false := decide_eq_false (by omega)
  have vzn : decide (0 < s.size) = false := decide_eq_false hne
  have hpn : pNeg s.data.toList = false := by unfold pNeg; rw [len_bytes]; simp [hne]
  have hpb : pBody s.data.toList = s.data.toList := by unfold pBody; rw [if_neg (by rw [hpn]; decide)]
  have HE : Hid (re = pE false s.data.toList) := by have := HRE.out; unfold parseE at this; rw [hpn, hpb] at this; exact this
  have HV : Hid (rv = pV false s.data.toList) := by have := HRV.out; unfold parseV at this; rw [hpn, hpb] at this; exact this
  clear hpn hpb HRE HRV
  go_enter Tryz.func40, Tryz.ntmps40
  go_upto_region 4 with (fail)
  have hlen := len_bytes s
  by_cases h20 : 20 < s.size
  · have v20 : decide ((20 : Int) < (s.size : Int)) = true := by simp; omega
    have e1 : re = 5 := HE.out.trans (pE_long (by rw [hlen]; exact h20))
    have e2 : rv = 0 := HV.out.trans (pV_bad (by rw [pE_long (by rw [hlen]; exact h20)]; decide))
    subst e1
    subst e2
    clear h20 hlen HV HE
    go_wp2_with fail
    go_ret2
    exact ⟨rfl, (b0 w)⟩
  have v20 : decide ((20 : Int) < (s.size : Int)) = false := by simp; omega
  by_cases h3 : 3 < s.size
  · obtain ⟨q, hq⟩ : ∃ q, s.size = q + 3 := ⟨s.size - 3, by omega⟩
    have hq0 : 0 < q := by omega
    have hqi : (s.size : Int) - 3 = (q : Int) := by omega
    have hq0i : (0 : Int) < (q : Int) := by omega
    have kqn1 : q < s.size := by omega
    have kqn2 : q + 1 < s.size := by omega
    have kqn3 : q + 2 < s.size := by omega
    have hbq := byte_gB s q kqn1
    have hbq1 := byte_gB s (q + 1) kqn2
    have hbq2 := byte_gB s (q + 2) kqn3
    have hlq : (s.data.toList).length - 3 = q := by omega
    have hlq2 : (s.data.toList).length - 2 = q + 1 := by omega
    have hlq1 : (s.data.toList).length - 1 = q + 2 := by omega
    have hg1 := gB_bd s.data.toList (q + 1)
    have hg2 := gB_bd s.data.toList (q + 2)
    have kq1 : ((q : Int)).toNat = q := by omega
    have kq2 : ((q : Int) + 1).toNat = q + 1 := by omega
    have kq3 : ((q : Int) + 2).toNat = q + 2 := by omega
    have kq4 : (q : Int) < (s.size : Int) := by omega
    have kq5 : (q : Int) + 1 < (s.size : Int) := by omega
    have kq6 : (q : Int) + 2 < (s.size : Int) := by omega
    have kq7 : (0 : Int) ≤ (q : Int) + 1 := by omega
    have kq8 : (0 : Int) ≤ (q : Int) + 2 := by omega
    have kq9 : IntKind.i64.wrap ((q : Int) + 1) = (q : Int) + 1 := by rw [IntKind.wrap_i64]; omega
    have kq10 : IntKind.i64.wrap ((q : Int) + 2) = (q : Int) + 2 := by rw [IntKind.wrap_i64]; omega
    have kqs : (q : Int) ≤ (s.size : Int) := by omega
    have kqq : (q : Int) ≤ 20 := by omega
    by_cases hdot : gB s.data.toList q = 46
    · have hcut : pCut s.data.toList = true := by unfold pCut; rw [hlq, hdot]; simp; omega
      rw [hdot] at hbq
      have HCC : Hid (pCoins s.data.toList = (gB s.data.toList (q + 1) - 48) * 10 + (gB s.data.toList (q + 2) - 48)) := by unfold Hid pCoins; rw [if_pos hcut, hlq2, hlq1]
      have HND : Hid (¬ (dI (gB s.data.toList (q + 1)) = true ∧ dI (gB s.data.toList (q + 2)) = true) → pE false s.data.toList = 5) := fun h => pE_nd (by omega) hcut (by rw [hlq2, hlq1]; exact h)
      have HXX : Hid (dI (gB s.data.toList (q + 1)) = true ∧ dI (gB s.data.toList (q + 2)) = true → pX s.data.toList) := fun h => ⟨by omega, fun hc => hc.2 (by rw [hlq2, hlq1]; exact h)⟩
      have HRS0 : Hid (pRest s.data.toList = (s.extract 0 q).data.toList) := by unfold Hid pRest; rw [if_pos hcut, hlq, Lib.extract_data]; simp
      have hsz3 : (s.extract 0 q).size = q := by rw [ByteArray.size_extract]; omega
      generalize gB s.data.toList (q + 1) = c1 at *
      generalize gB s.data.toList (q + 2) = c2 at *
      have KD1 := Lib.hid (digit_c c1)
      have KD2 := Lib.hid (digit_c c2)
      obtain ⟨g10, g11⟩ := hg1
      obtain ⟨g20, g21⟩ := hg2
      clear hdot hcut hlq hlq1 hlq2 hlen h20 h3 hq
      cases hd1 : dI c1
      · have hpe := HND.out (fun h => by rw [hd1] at h; cases h.1)
        have e1 : re = 5 := HE.out.trans (hpe)
        have e2 : rv = 0 := HV.out.trans (pV_bad (by rw [hpe]; decide))
        subst e1
        subst e2
        rw [hd1] at KD1
        clear hd1 hpe HV HE hsz3
        go_wp2_with fail
        refine (KD1.out _).mono ?_
        rintro e w3 ⟨rfl, rfl⟩
        go_wp2_with fail
        go_ret2
        exact ⟨rfl, (b0 w)⟩
      cases hd2 : dI c2
      · have hpe := HND.out (fun h => by rw [hd2] at h; cases h.2)
        have e1 : re = 5 := HE.out.trans (hpe)
        have e2 : rv = 0 := HV.out.trans (pV_bad (by rw [hpe]; decide))
        subst e1
        subst e2
        rw [hd1] at KD1
        rw [hd2] at KD2
        clear hd1 hd2 hpe HV HE hsz3
        go_wp2_with fail
        refine (KD1.out _).mono ?_
        rintro e w3 ⟨rfl, rfl⟩
        go_wp2_with fail
        refine (KD2.out _).mono ?_
        rintro e w3 ⟨rfl, rfl⟩
        go_wp2_with fail
        go_ret2
        exact ⟨rfl, (b0 w)⟩
      have hX := HXX.out ⟨hd1, hd2⟩
      have d1 : 48 ≤ c1 ∧ c1 ≤ 57 := by unfold dI at hd1; simpa using hd1
      have d2 : 48 ≤ c2 ∧ c2 ≤ 57 := by unfold dI at hd2; simpa using hd2
      obtain ⟨d10, d11⟩ := d1
      obtain ⟨d20, d21⟩ := d2
      rw [hd1] at KD1
      rw [hd2] at KD2
      have HX := Lib.hid hX
      have HS3 := Lib.hid hsz3
      clear hd1 hd2 HND HXX hX hsz3
      have u1 : IntKind.u8.wrap (c1 - 48) = c1 - 48 := by rw [IntKind.wrap_u8]; omega
      have u2 : IntKind.u8.wrap (c2 - 48) = c2 - 48 := by rw [IntKind.wrap_u8]; omega
      have u3 : IntKind.i64.wrap (c1 - 48) = c1 - 48 := by rw [IntKind.wrap_i64]; omega
      have u4 : IntKind.i64.wrap (c2 - 48) = c2 - 48 := by rw [IntKind.wrap_i64]; omega
      have u5 : IntKind.i64.wrap ((c1 - 48) * 10) = (c1 - 48) * 10 := by rw [IntKind.wrap_i64]; omega
      have u6 : IntKind.i64.wrap ((c1 - 48) * 10 + (c2 - 48)) = (c1 - 48) * 10 + (c2 - 48) := by rw [IntKind.wrap_i64]; omega
      go_wp2_with fail
      refine (KD1.out _).mono ?_
      rintro e w3 ⟨rfl, rfl⟩
      go_wp2_with fail
      refine (KD2.out _).mono ?_
      rintro e w3 ⟨rfl, rfl⟩
      go_wp2_with fail
      go_quiet (fail)
      simp only [Exit.then]
      rename_i hK
      refine hK _ _ ?_
      clear hK
      have hcb : 0 ≤ (c1 - 48) * 10 + (c2 - 48) ∧ (c1 - 48) * 10 + (c2 - 48) ≤ 99 := by omega
      have HCV0 : Hid ((c1 - 48) * 10 + (c2 - 48) = pCoins s.data.toList) := HCC.out.symm
      clear u1 u2 u3 u4 u5 u6 HCC
      generalize (c1 - 48) * 10 + (c2 - 48) = cv at *
      have HCV : Hid (cv = pCoins s.data.toList) := HCV0
      have hsz3 := HS3.out
      have HRS := HRS0
      generalize s.extract 0 q = s3 at *
      obtain ⟨cb0, cb1⟩ := hcb
      have hs3 : s3.size ≤ 20 := by omega
      clear hsz3 HS3 HRS0 HCV0
      by_cases h12 : 12 < s3.size
      · have w12 : decide ((12 : Int) < (s3.size : Int)) = true := by simp; omega
        have h12' : 12 < (pRest s.data.toList).length := by rw [HRS.out, len_bytes]; exact h12
        obtain ⟨ov, hov⟩ : ∃ ov, ov = whV (s3.extract 0 12).data.toList := ⟨_, rfl⟩
        obtain ⟨ob, hob⟩ : ∃ ob, ob = whO (s3.extract 0 12).data.toList := ⟨_, rfl⟩
        have KW := Lib.hid (fun W => whole_c (s3.extract 0 12) W (by rw [ByteArray.size_extract]; omega) ov ob hov hob)
        have HOB : Hid (ob = whO ((pRest s.data.toList).take 12)) := by unfold Hid; rw [hob, HRS.out, Lib.extract_data]; simp
        have KDG := Lib.hid (fun W => digits_c s3 W (by omega))
        have HDG : Hid (dTo (pRest s.data.toList) (pRest s.data.toList).length = dTo s3.data.toList s3.size) := by unfold Hid; rw [HRS.out, len_bytes]
        have x12 : (12 : Int) ≤ (s3.size : Int) := by omega
        have x12n : 12 ≤ s3.size := by omega
        clear hov hob
        generalize dTo s3.data.toList s3.size = dd at *
        cases ob
        · have e1 : re = 5 := HE.out.trans ((pE_big1 HX.out h12' (fun h => by rw [← HOB.out] at h; cases h.1) : pE false s.data.toList = 5))
          have e2 : rv = 0 := HV.out.trans (pV_bad (by rw [(pE_big1 HX.out h12' (fun h => by rw [← HOB.out] at h; cases h.1) : pE false s.data.toList = 5)]; decide))
          subst e1
          subst e2
          clear h12 h12'
          go_wp2_with fail
          refine (KW.out _).mono ?_
          rintro e w5 ⟨rfl, hb5⟩
          go_wp2_with fail
          go_ret2
          exact ⟨rfl, bT (bD (b0 w) _) hb5⟩
        · cases dd
          · have e1 : re = 5 := HE.out.trans ((pE_big1 HX.out h12' (fun h => by rw [HDG.out] at h; cases h.2) : pE false s.data.toList = 5))
            have e2 : rv = 0 := HV.out.trans (pV_bad (by rw [(pE_big1 HX.out h12' (fun h => by rw [HDG.out] at h; cases h.2) : pE false s.data.toList = 5)]; decide))
            subst e1
            subst e2
            clear h12 h12'
            go_wp2_with fail
            refine (KW.out _).mono ?_
            rintro e w5 ⟨rfl, hb5⟩
            go_wp2_with fail
            refine (KDG.out _).mono ?_
            rintro e w6 ⟨rfl, rfl⟩
            go_wp2_with fail
            go_ret2
            exact ⟨rfl, bT (bD (b0 w) _) hb5⟩
          · have e1 : re = 10 := HE.out.trans ((pE_big2 HX.out h12' ⟨HOB.out.symm, HDG.out⟩ : pE false s.data.toList = 10))
            have e2 : rv = 0 := HV.out.trans (pV_bad (by rw [(pE_big2 HX.out h12' ⟨HOB.out.symm, HDG.out⟩ : pE false s.data.toList = 10)]; decide))
            subst e1
            subst e2
            clear h12 h12'
            go_wp2_with fail
            refine (KW.out _).mono ?_
            rintro e w5 ⟨rfl, hb5⟩
            go_wp2_with fail
            refine (KDG.out _).mono ?_
            rintro e w6 ⟨rfl, rfl⟩
            go_wp2_with fail
            go_ret2
            exact ⟨rfl, bT (bD (b0 w) _) hb5⟩
      have w12 : decide ((12 : Int) < (s3.size : Int)) = false := by simp; omega
      have h12' : ¬ 12 < (pRest s.data.toList).length := by rw [HRS.out, len_bytes]; exact h12
      obtain ⟨ov, hov⟩ : ∃ ov, ov = whV s3.data.toList := ⟨_, rfl⟩
      obtain ⟨ob, hob⟩ : ∃ ob, ob = whO s3.data.toList := ⟨_, rfl⟩
      have KW := Lib.hid (fun W => whole_c s3 W (by omega) ov ob hov hob)
      have HOB : Hid (ob = whO (pRest s.data.toList)) := by unfold Hid; rw [hob, HRS.out]
      have HOV : Hid (ov = whV (pRest s.data.toList)) := by unfold Hid; rw [hov, HRS.out]
      have hvb : 0 ≤ ov ∧ ov ≤ 1000000000000 := by rw [hov]; exact whV_bd _ (by rw [len_bytes]; omega)
      obtain ⟨hvb0, hvb1⟩ := hvb
      clear hov hob
      cases ob
      · have e1 : re = 5 := HE.out.trans ((pE_bad HX.out h12' (Or.inl (by rw [← HOB.out]; decide)) : pE false s.data.toList = 5))
        have e2 : rv = 0 := HV.out.trans (pV_bad (by rw [(pE_bad HX.out h12' (Or.inl (by rw [← HOB.out]; decide)) : pE false s.data.toList = 5)]; decide))
        subst e1
        subst e2
        clear h12 h12'
        go_wp2_with fail
        refine (KW.out _).mono ?_
        rintro e w5 ⟨rfl, hb5⟩
        go_wp2_with fail
        go_ret2
        exact ⟨rfl, bT (bD (b0 w) _) hb5⟩
      have h3 : ¬ (¬ (whO (pRest s.data.toList) = true) ∨ (false = true ∧ whV (pRest s.data.toList) = 0 ∧ pCoins s.data.toList = 0)) := by
        rw [← HOB.out]
        intro hh
        rcases hh with hh | hh
        · exact hh rfl
        · exact absurd hh.1 (by decide)
      have hx : (if false = true then (-1 : Int) else 1) * (ov * 100 + cv) = (ov * 100 + cv) := by simp
      have hpe : pE false s.data.toList = if mrB (ov * 100 + cv) = true then 0 else 10 := by rw [pE_chk HX.out h12' h3, ← HOV.out, ← HCV.out, hx]
      have hpv : pE false s.data.toList = 0 → pV false s.data.toList = (ov * 100 + cv) := fun h => by rw [pV_ok h, ← HOV.out, ← HCV.out, hx]
      cases hm : mrB (ov * 100 + cv)
      · have e1 : re = 10 := HE.out.trans (by rw [hpe, hm]; rfl)
        have e2 : rv = 0 := HV.out.trans (pV_bad (by rw [hpe, hm]; decide))
        subst e1
        subst e2
        have K2 := Lib.hid (check_f (ov * 100 + cv) · hm)
        clear h12 h12' h3 hpe hpv hm hx HV HE
        go_wp2_with fail
        refine (KW.out _).mono ?_
        rintro e w5 ⟨rfl, hb5⟩
        go_wp2_with fail
        refine (K2.out _).mono ?_
        rintro e w6 ⟨rfl, hb6⟩
        go_wp2_with fail
        go_ret2
        exact ⟨rfl, bT (bT (bD (b0 w) _) hb5) hb6⟩
      · have e1 : re = 0 := HE.out.trans (by rw [hpe, hm]; rfl)
        have e2 : rv = (ov * 100 + cv) := HV.out.trans (hpv (by rw [hpe, hm]; rfl))
        subst e1
        have K2 := Lib.hid (check_t (ov * 100 + cv) · hm)
        have E2 := Lib.hid e2
        clear h12 h12' h3 hpe hpv hm hx HV HE e2
        go_wp2_with fail
        refine (KW.out _).mono ?_
        rintro e w5 ⟨rfl, hb5⟩
        go_wp2_with fail
        refine (K2.out _).mono ?_
        rintro e w6 ⟨rfl, hb6⟩
        go_wp2_with fail
        go_ret2
        exact ⟨ret2_i E2.out.symm rfl, bT (bT (bD (b0 w) _) hb5) hb6⟩
    have hcut : pCut s.data.toList = false := by unfold pCut; rw [hlq]; simp [hdot]
    have hbn : (gB s.data.toList q == 46) = false := by simpa using hdot
    have hX : pX s.data.toList := ⟨by omega, fun hc => by rw [hcut] at hc; cases hc.1⟩
    have HX := Lib.hid hX
    have HRS : Hid (pRest s.data.toList = s.data.toList) := by unfold Hid pRest; rw [if_neg (by rw [hcut]; decide)]
    have HCV : Hid ((0 : Int) = pCoins s.data.toList) := by unfold Hid pCoins; rw [if_neg (by rw [hcut]; decide)]
    have hs20 : s.size ≤ 20 := by omega
    generalize gB s.data.toList q = c0 at *
    clear hdot hcut hlq hlq1 hlq2 hlen h20 h3 hq hX hbq1 hbq2 hg1 hg2 kq2 kq3 kq5 kq6 kq7 kq8 kq9 kq10 kqn2 kqn3
    by_cases h12 : 12 < s.size
    · have w12 : decide ((12 : Int) < (s.size : Int)) = true := by simp; omega
      have h12' : 12 < (pRest s.data.toList).length := by rw [HRS.out, len_bytes]; exact h12
      obtain ⟨ov, hov⟩ : ∃ ov, ov = whV (s.extract 0 12).data.toList := ⟨_, rfl⟩
      obtain ⟨ob, hob⟩ : ∃ ob, ob = whO (s.extract 0 12).data.toList := ⟨_, rfl⟩
      have KW := Lib.hid (fun W => whole_c (s.extract 0 12) W (by rw [ByteArray.size_extract]; omega) ov ob hov hob)
      have HOB : Hid (ob = whO ((pRest s.data.toList).take 12)) := by unfold Hid; rw [hob, HRS.out, Lib.extract_data]; simp
      have KDG := Lib.hid (fun W => digits_c s W (by omega))
      have HDG : Hid (dTo (pRest s.data.toList) (pRest s.data.toList).length = dTo s.data.toList s.size) := by unfold Hid; rw [HRS.out, len_bytes]
      have x12 : (12 : Int) ≤ (s.size : Int) := by omega
      have x12n : 12 ≤ s.size := by omega
      clear hov hob
      generalize dTo s.data.toList s.size = dd at *
      cases ob
      · have e1 : re = 5 := HE.out.trans ((pE_big1 HX.out h12' (fun h => by rw [← HOB.out] at h; cases h.1) : pE false s.data.toList = 5))
        have e2 : rv = 0 := HV.out.trans (pV_bad (by rw [(pE_big1 HX.out h12' (fun h => by rw [← HOB.out] at h; cases h.1) : pE false s.data.toList = 5)]; decide))
        subst e1
        subst e2
        clear h12 h12'
        go_wp2_with fail
        refine (KW.out _).mono ?_
        rintro e w5 ⟨rfl, hb5⟩
        go_wp2_with fail
        go_ret2
        exact ⟨rfl, bT (b0 w) hb5⟩
      · cases dd
        · have e1 : re = 5 := HE.out.trans ((pE_big1 HX.out h12' (fun h => by rw [HDG.out] at h; cases h.2) : pE false s.data.toList = 5))
          have e2 : rv = 0 := HV.out.trans (pV_bad (by rw [(pE_big1 HX.out h12' (fun h => by rw [HDG.out] at h; cases h.2) : pE false s.data.toList = 5)]; decide))
          subst e1
          subst e2
          clear h12 h12'
          go_wp2_with fail
          refine (KW.out _).mono ?_
          rintro e w5 ⟨rfl, hb5⟩
          go_wp2_with fail
          refine (KDG.out _).mono ?_
          rintro e w6 ⟨rfl, rfl⟩
          go_wp2_with fail
          go_ret2
          exact ⟨rfl, bT (b0 w) hb5⟩
        · have e1 : re = 10 := HE.out.trans ((pE_big2 HX.out h12' ⟨HOB.out.symm, HDG.out⟩ : pE false s.data.toList = 10))
          have e2 : rv = 0 := HV.out.trans (pV_bad (by rw [(pE_big2 HX.out h12' ⟨HOB.out.symm, HDG.out⟩ : pE false s.data.toList = 10)]; decide))
          subst e1
          subst e2
          clear h12 h12'
          go_wp2_with fail
          refine (KW.out _).mono ?_
          rintro e w5 ⟨rfl, hb5⟩
          go_wp2_with fail
          refine (KDG.out _).mono ?_
          rintro e w6 ⟨rfl, rfl⟩
          go_wp2_with fail
          go_ret2
          exact ⟨rfl, bT (b0 w) hb5⟩
    have w12 : decide ((12 : Int) < (s.size : Int)) = false := by simp; omega
    have h12' : ¬ 12 < (pRest s.data.toList).length := by rw [HRS.out, len_bytes]; exact h12
    obtain ⟨ov, hov⟩ : ∃ ov, ov = whV s.data.toList := ⟨_, rfl⟩
    obtain ⟨ob, hob⟩ : ∃ ob, ob = whO s.data.toList := ⟨_, rfl⟩
    have KW := Lib.hid (fun W => whole_c s W (by omega) ov ob hov hob)
    have HOB : Hid (ob = whO (pRest s.data.toList)) := by unfold Hid; rw [hob, HRS.out]
    have HOV : Hid (ov = whV (pRest s.data.toList)) := by unfold Hid; rw [hov, HRS.out]
    have hvb : 0 ≤ ov ∧ ov ≤ 1000000000000 := by rw [hov]; exact whV_bd _ (by rw [len_bytes]; omega)
    obtain ⟨hvb0, hvb1⟩ := hvb
    clear hov hob
    cases ob
    · have e1 : re = 5 := HE.out.trans ((pE_bad HX.out h12' (Or.inl (by rw [← HOB.out]; decide)) : pE false s.data.toList = 5))
      have e2 : rv = 0 := HV.out.trans (pV_bad (by rw [(pE_bad HX.out h12' (Or.inl (by rw [← HOB.out]; decide)) : pE false s.data.toList = 5)]; decide))
      subst e1
      subst e2
      clear h12 h12'
      go_wp2_with fail
      refine (KW.out _).mono ?_
      rintro e w5 ⟨rfl, hb5⟩
      go_wp2_with fail
      go_ret2
      exact ⟨rfl, bT (b0 w) hb5⟩
    have h3 : ¬ (¬ (whO (pRest s.data.toList) = true) ∨ (false = true ∧ whV (pRest s.data.toList) = 0 ∧ pCoins s.data.toList = 0)) := by
      rw [← HOB.out]
      intro hh
      rcases hh with hh | hh
      · exact hh rfl
      · exact absurd hh.1 (by decide)
    have hx : (if false = true then (-1 : Int) else 1) * (ov * 100 + 0) = (ov * 100) := by simp
    have hpe : pE false s.data.toList = if mrB (ov * 100) = true then 0 else 10 := by rw [pE_chk HX.out h12' h3, ← HOV.out, ← HCV.out, hx]
    have hpv : pE false s.data.toList = 0 → pV false s.data.toList = (ov * 100) := fun h => by rw [pV_ok h, ← HOV.out, ← HCV.out, hx]
    cases hm : mrB (ov * 100)
    · have e1 : re = 10 := HE.out.trans (by rw [hpe, hm]; rfl)
      have e2 : rv = 0 := HV.out.trans (pV_bad (by rw [hpe, hm]; decide))
      subst e1
      subst e2
      have K2 := Lib.hid (check_f (ov * 100) · hm)
      clear h12 h12' h3 hpe hpv hm hx HV HE
      go_wp2_with fail
      refine (KW.out _).mono ?_
      rintro e w5 ⟨rfl, hb5⟩
      go_wp2_with fail
      refine (K2.out _).mono ?_
      rintro e w6 ⟨rfl, hb6⟩
      go_wp2_with fail
      go_ret2
      exact ⟨rfl, bT (bT (b0 w) hb5) hb6⟩
    · have e1 : re = 0 := HE.out.trans (by rw [hpe, hm]; rfl)
      have e2 : rv = (ov * 100) := HV.out.trans (hpv (by rw [hpe, hm]; rfl))
      subst e1
      have K2 := Lib.hid (check_t (ov * 100) · hm)
      have E2 := Lib.hid e2
      clear h12 h12' h3 hpe hpv hm hx HV HE e2
      go_wp2_with fail
      refine (KW.out _).mono ?_
      rintro e w5 ⟨rfl, hb5⟩
      go_wp2_with fail
      refine (K2.out _).mono ?_
      rintro e w6 ⟨rfl, hb6⟩
      go_wp2_with fail
      go_ret2
      exact ⟨ret2_i E2.out.symm rfl, bT (bT (b0 w) hb5) hb6⟩
  have t3 : decide ((3 : Int) < (s.size : Int)) = false := by simp; omega
  have t3b : decide ((0 : Int) < (s.size : Int) - 3) = false := by simp; omega
  have t3c : decide (3 < s.size) = false := by simp; omega
  have t3d : IntKind.i64.wrap ((s.size : Int) - 3) = (s.size : Int) - 3 := by rw [IntKind.wrap_i64]; omega
  have hcut : pCut s.data.toList = false := by unfold pCut; rw [hlen]; simp [h3]
  have hX : pX s.data.toList := ⟨by omega, fun hc => by rw [hcut] at hc; cases hc.1⟩
  have HX := Lib.hid hX
  have HRS : Hid (pRest s.data.toList = s.data.toList) := by unfold Hid pRest; rw [if_neg (by rw [hcut]; decide)]
  have HCV : Hid ((0 : Int) = pCoins s.data.toList) := by unfold Hid pCoins; rw [if_neg (by rw [hcut]; decide)]
  have hs20 : s.size ≤ 20 := by omega
  clear hcut hlen h20 h3 hX
  by_cases h12 : 12 < s.size
  · have w12 : decide ((12 : Int) < (s.size : Int)) = true := by simp; omega
    have h12' : 12 < (pRest s.data.toList).length := by rw [HRS.out, len_bytes]; exact h12
    obtain ⟨ov, hov⟩ : ∃ ov, ov = whV (s.extract 0 12).data.toList := ⟨_, rfl⟩
    obtain ⟨ob, hob⟩ : ∃ ob, ob = whO (s.extract 0 12).data.toList := ⟨_, rfl⟩
    have KW := Lib.hid (fun W => whole_c (s.extract 0 12) W (by rw [ByteArray.size_extract]; omega) ov ob hov hob)
    have HOB : Hid (ob = whO ((pRest s.data.toList).take 12)) := by unfold Hid; rw [hob, HRS.out, Lib.extract_data]; simp
    have KDG := Lib.hid (fun W => digits_c s W (by omega))
    have HDG : Hid (dTo (pRest s.data.toList) (pRest s.data.toList).length = dTo s.data.toList s.size) := by unfold Hid; rw [HRS.out, len_bytes]
    have x12 : (12 : Int) ≤ (s.size : Int) := by omega
    have x12n : 12 ≤ s.size := by omega
    clear hov hob
    generalize dTo s.data.toList s.size = dd at *
    cases ob
    · have e1 : re = 5 := HE.out.trans ((pE_big1 HX.out h12' (fun h => by rw [← HOB.out] at h; cases h.1) : pE false s.data.toList = 5))
      have e2 : rv = 0 := HV.out.trans (pV_bad (by rw [(pE_big1 HX.out h12' (fun h => by rw [← HOB.out] at h; cases h.1) : pE false s.data.toList = 5)]; decide))
      subst e1
      subst e2
      clear h12 h12'
      go_wp2_with fail
      refine (KW.out _).mono ?_
      rintro e w5 ⟨rfl, hb5⟩
      go_wp2_with fail
      go_ret2
      exact ⟨rfl, bT (b0 w) hb5⟩
    · cases dd
      · have e1 : re = 5 := HE.out.trans ((pE_big1 HX.out h12' (fun h => by rw [HDG.out] at h; cases h.2) : pE false s.data.toList = 5))
        have e2 : rv = 0 := HV.out.trans (pV_bad (by rw [(pE_big1 HX.out h12' (fun h => by rw [HDG.out] at h; cases h.2) : pE false s.data.toList = 5)]; decide))
        subst e1
        subst e2
        clear h12 h12'
        go_wp2_with fail
        refine (KW.out _).mono ?_
        rintro e w5 ⟨rfl, hb5⟩
        go_wp2_with fail
        refine (KDG.out _).mono ?_
        rintro e w6 ⟨rfl, rfl⟩
        go_wp2_with fail
        go_ret2
        exact ⟨rfl, bT (b0 w) hb5⟩
      · have e1 : re = 10 := HE.out.trans ((pE_big2 HX.out h12' ⟨HOB.out.symm, HDG.out⟩ : pE false s.data.toList = 10))
        have e2 : rv = 0 := HV.out.trans (pV_bad (by rw [(pE_big2 HX.out h12' ⟨HOB.out.symm, HDG.out⟩ : pE false s.data.toList = 10)]; decide))
        subst e1
        subst e2
        clear h12 h12'
        go_wp2_with fail
        refine (KW.out _).mono ?_
        rintro e w5 ⟨rfl, hb5⟩
        go_wp2_with fail
        refine (KDG.out _).mono ?_
        rintro e w6 ⟨rfl, rfl⟩
        go_wp2_with fail
        go_ret2
        exact ⟨rfl, bT (b0 w) hb5⟩
  have w12 : decide ((12 : Int) < (s.size : Int)) = false := by simp; omega
  have h12' : ¬ 12 < (pRest s.data.toList).length := by rw [HRS.out, len_bytes]; exact h12
  obtain ⟨ov, hov⟩ : ∃ ov, ov = whV s.data.toList := ⟨_, rfl⟩
  obtain ⟨ob, hob⟩ : ∃ ob, ob = whO s.data.toList := ⟨_, rfl⟩
  have KW := Lib.hid (fun W => whole_c s W (by omega) ov ob hov hob)
  have HOB : Hid (ob = whO (pRest s.data.toList)) := by unfold Hid; rw [hob, HRS.out]
  have HOV : Hid (ov = whV (pRest s.data.toList)) := by unfold Hid; rw [hov, HRS.out]
  have hvb : 0 ≤ ov ∧ ov ≤ 1000000000000 := by rw [hov]; exact whV_bd _ (by rw [len_bytes]; omega)
  obtain ⟨hvb0, hvb1⟩ := hvb
  clear hov hob
  cases ob
  · have e1 : re = 5 := HE.out.trans ((pE_bad HX.out h12' (Or.inl (by rw [← HOB.out]; decide)) : pE false s.data.toList = 5))
    have e2 : rv = 0 := HV.out.trans (pV_bad (by rw [(pE_bad HX.out h12' (Or.inl (by rw [← HOB.out]; decide)) : pE false s.data.toList = 5)]; decide))
    subst e1
    subst e2
    clear h12 h12'
    go_wp2_with fail
    refine (KW.out _).mono ?_
    rintro e w5 ⟨rfl, hb5⟩
    go_wp2_with fail
    go_ret2
    exact ⟨rfl, bT (b0 w) hb5⟩
  have h3 : ¬ (¬ (whO (pRest s.data.toList) = true) ∨ (false = true ∧ whV (pRest s.data.toList) = 0 ∧ pCoins s.data.toList = 0)) := by
    rw [← HOB.out]
    intro hh
    rcases hh with hh | hh
    · exact hh rfl
    · exact absurd hh.1 (by decide)
  have hx : (if false = true then (-1 : Int) else 1) * (ov * 100 + 0) = (ov * 100) := by simp
  have hpe : pE false s.data.toList = if mrB (ov * 100) = true then 0 else 10 := by rw [pE_chk HX.out h12' h3, ← HOV.out, ← HCV.out, hx]
  have hpv : pE false s.data.toList = 0 → pV false s.data.toList = (ov * 100) := fun h => by rw [pV_ok h, ← HOV.out, ← HCV.out, hx]
  cases hm : mrB (ov * 100)
  · have e1 : re = 10 := HE.out.trans (by rw [hpe, hm]; rfl)
    have e2 : rv = 0 := HV.out.trans (pV_bad (by rw [hpe, hm]; decide))
    subst e1
    subst e2
    have K2 := Lib.hid (check_f (ov * 100) · hm)
    clear h12 h12' h3 hpe hpv hm hx HV HE
    go_wp2_with fail
    refine (KW.out _).mono ?_
    rintro e w5 ⟨rfl, hb5⟩
    go_wp2_with fail
    refine (K2.out _).mono ?_
    rintro e w6 ⟨rfl, hb6⟩
    go_wp2_with fail
    go_ret2
    exact ⟨rfl, bT (bT (b0 w) hb5) hb6⟩
  · have e1 : re = 0 := HE.out.trans (by rw [hpe, hm]; rfl)
    have e2 : rv = (ov * 100) := HV.out.trans (hpv (by rw [hpe, hm]; rfl))
    subst e1
    have K2 := Lib.hid (check_t (ov * 100) · hm)
    have E2 := Lib.hid e2
    clear h12 h12' h3 hpe hpv hm hx HV HE e2
    go_wp2_with fail
    refine (KW.out _).mono ?_
    rintro e w5 ⟨rfl, hb5⟩
    go_wp2_with fail
    refine (K2.out _).mono ?_
    rintro e w6 ⟨rfl, hb6⟩
    go_wp2_with fail
    go_ret2
    exact ⟨ret2_i E2.out.symm rfl, bT (bT (b0 w) hb5) hb6⟩
--%%
end Go.Proofs.YtcngmajkkhipoaaGreatDoor
