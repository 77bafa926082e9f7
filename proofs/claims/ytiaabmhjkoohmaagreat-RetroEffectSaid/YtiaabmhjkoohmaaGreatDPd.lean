/-
 A desk that a law has: Fix, Run, As, Change. Conditions as named.
-/
import Derived.Test.YtiaabmhjkoohmaaGreatDAs
import Derived.Test.YtiaabmhjkoohmaaGreatDRun
import Derived.Test.YtiaabmhjkoohmaaGreatDEff
namespace Go.Proofs.YtiaabmhjkoohmaaGreat
set_option maxRecDepth 100000
set_option maxHeartbeats 25600000
set_option linter.unusedVariables false
set_option linter.unusedSimpArgs false
open Go.RowKit Tryz
open Lib (hid)
section
variable {w0 W W' : World} {fq days : Int} {s : DkS} {D D' : Dk}
theorem pd_fix (h : PD w0 fq days W s D) (k : Int) {A : Option Addr} {m c : Nat} {l : List El} (hl : ∀ W', Kp W.heap.size s.mt W W' → ElSl W' A m l) (hm : m ≤ 1000) (re : Int) (he : Hid (re = dfixE D (nomI fq) (cntI fq days) k l)) (h1 : Hid (re = 0 → D' = dfixV D k l)) (h2 : Hid (re ≠ 0 → D' = D)) :
  Calls prog 24 #[.pointer (some ⟨s.d, 0, none⟩), .int .i64 k, .slice A m c] W fun e W' => e = .returned (.int .i64 re) ∧ DMut w0 D' fq days s W W' := by
 obtain ⟨lo, h0, hD⟩ := h.ex
 refine (dfix_c fq days lo s D k A m c l W hD h.ok hl hm re D' he h1 h2).mono ?_
 rintro e W' ⟨e1, hm⟩
 refine ⟨e1, h.mut h0 hm ?_⟩
 by_cases hr : re = 0
 ·
  rw [h1.out hr]; exact h.ok.fix (he.out.symm.trans hr)
 ·
  rw [h2.out hr]; exact h.ok
theorem pd_run (h : PD w0 fq days W s D) (re : Int) (z : Sp) (he : Hid (re = runE D.e (nomI fq) (cntI fq days))) (hz : Hid (z = runS D.e (nomI fq))) (h1 : Hid (re = 0 → D' = drunV D (nomI fq))) (h2 : Hid (re ≠ 0 → D' = D)) :
  Calls prog 36 #[.pointer (some ⟨s.d, 0, none⟩)] W fun e W' => SlipE re z W e W' ∧ DMut w0 D' fq days s W W' := by
 obtain ⟨lo, h0, hD⟩ := h.ex
 refine (drun_c fq days lo s D W hD h.ok re z D' he hz h1 h2).mono ?_
 rintro e W' ⟨e1, hm⟩
 refine ⟨e1, h.mut h0 hm ?_⟩
 by_cases hr : re = 0
 ·
  rw [h1.out hr]; exact h.ok.run (he.out.symm.trans hr)
 ·
  rw [h2.out hr]; exact h.ok
theorem pd_as (h : PD w0 fq days W s D) (p : Int) (re : Int) (he : Hid (re = asE D p)) :
  Calls prog 19 #[.pointer (some ⟨s.d, 0, none⟩), .int .i64 p] W (AsR re (asL D p) W) := by
 obtain ⟨lo, h0, hD⟩ := h.ex
 exact das_c fq days lo s D p W hD h.ok re he
theorem PD.els (h : PD w0 fq days W s D) {A : Option Addr} {m : Nat} {l : List El} (hl : ElSl w0 A m l) : ∀ W', Kp W.heap.size s.mt W W' → ElSl W' A m l := fun W' hk => hl.below (h.kp hk)
theorem PD.elo (h : PD w0 fq days W s D) {A : Option Addr} {m c base : Nat} {l : List El} (hl : W.ownsRow base 98 3 (.slice A m c) m (l.flatMap elC)) (hm : m = l.length) : ∀ W', Kp W.heap.size s.mt W W' → ElSl W' A m l := fun W' hk => el_row (h.own hk hl (by decide)) hm
theorem PD.mutB (h : PD w0 fq days W s D) (hb : Below W.heap.size W W') : DMut w0 D fq days s W W' := by
 obtain ⟨lo, h0, hD⟩ := h.ex
 exact ⟨s, ⟨rfl, rfl, rfl⟩, h.below hb, fun g hg => Or.inl hg, fun g hg => Or.inl hg, Kp.below hb (Nat.le_refl _), fun g hg hs => hs.same (hb.cell (p := ⟨s.y, 1, none⟩) hD.em.lt.2.1)⟩
theorem DMut.pre {W1 : World} (hp : PD w0 fq days W s D) (hb : Below W.heap.size W W1) (h : DMut w0 D' fq days s W1 W') : DMut w0 D' fq days s W W' := by
 obtain ⟨s', e, a, r, m, k, y⟩ := h
 obtain ⟨lo, h0, hD⟩ := hp.ex
 exact ⟨s', e, a, fun g hg => (r g hg).imp id (Nat.le_trans hb.size), fun g hg => (m g hg).imp id (Nat.le_trans hb.size), kK (Kp.below hb (Nat.le_refl _)) k (fun g _ hg => hg), fun g hg hs => y g (Nat.lt_of_lt_of_le hg hb.size) (hs.same (hb.cell (p := ⟨s.y, 1, none⟩) hD.em.lt.2.1))⟩
end
def chgL (D : Dk) (k : Int) (kd : ByteArray) (am : Int) : List El := chL kd am (D.e.ins.getD (k.toNat - 1) in0).l (D.e.ins.getD (k.toNat - 1) in0).l.length
def chgE (D : Dk) (nom cnt k : Int) (kd : ByteArray) (am : Int) : Int := if k < 1 ∨ (D.e.ins.length : Int) < k then 230 else dfixE D nom cnt k (chgL D k kd am)
theorem pd_change {w0 W : World} {fq days : Int} {s : DkS} {D D' : Dk} (h : PD w0 fq days W s D) (k : Int) (kd : ByteArray) (am : Int) (hc : (chgL D k kd am).length ≤ 1000) (re : Int) (he : Hid (re = chgE D (nomI fq) (cntI fq days) k kd am)) (h1 : Hid (re = 0 → D' = dfixV D k (chgL D k kd am))) (h2 : Hid (re ≠ 0 → D' = D)) :
  Calls prog 37 #[.pointer (some ⟨s.d, 0, none⟩), .int .i64 k, .string kd, .int .i64 am] W fun e W' => e = .returned (.int .i64 re) ∧ DMut w0 D' fq days s W W' := by
 have HP := hid h
 obtain ⟨c1, c2, hB⟩ := h.desk
 have d0 := hB.cv 0 (.pointer (some ⟨s.p, 0, none⟩)) rfl
 have KI := hid (pe_inputs h.pe)
 have HIL := hid h.ok.e.il
 have HI53 := hid h.ok.e.ins53
 obtain ⟨ni, hni⟩ : ∃ n, n = D.e.ins.length := ⟨_, rfl⟩
 have HNI := hid hni
 unfold InsR at KI
 rw [← hni] at KI
 clear hB h
 go_enter func37, ntmps37
 go_wp2_with fail
 refine KI.out.mono ?_
 rintro e W1 ⟨⟨A9, c9, rfl, hin⟩, hb⟩
 clear d0 KI
 have HIN := hid hin
 have HB1 := hid hb
 clear hin hb
 by_cases hk1 : k < 1
 case pos =>
  have t1 : decide (k < 1) = true := by simpa using hk1
  have HE : Hid (re = 230) := he.out.trans (by unfold chgE; rw [if_pos (Or.inl hk1)])
  go_wp2_with fail
  refine bodyPost_ret (v := .int .i64 230) (by simp [results, results37, go_sem]) rfl ⟨by rw [HE.out], ?_⟩
  rw [h2.out (by rw [HE.out]; decide)]
  exact HP.out.mutB HB1.out
 have t1 : decide (k < 1) = false := by simpa using hk1
 by_cases hk2 : (ni : Int) < k
 case pos =>
  have t2 : decide ((ni : Int) < k) = true := by simpa using hk2
  have t3 : decide (k > (ni : Int)) = true := by simpa using hk2
  have HE : Hid (re = 230) := he.out.trans (by unfold chgE; rw [if_pos (Or.inr (by rw [← hni]; exact hk2))])
  go_wp2_with fail
  refine bodyPost_ret (v := .int .i64 230) (by simp [results, results37, go_sem]) rfl ⟨by rw [HE.out], ?_⟩
  rw [h2.out (by rw [HE.out]; decide)]
  exact HP.out.mutB HB1.out
 have t2 : decide ((ni : Int) < k) = false := by simpa using hk2
 have t3 : decide (k > (ni : Int)) = false := by simpa using hk2
 have HE : Hid (re = dfixE D (nomI fq) (cntI fq days) k (chgL D k kd am)) := he.out.trans (by unfold chgE; rw [if_neg (by rw [← hni]; omega)])
 obtain ⟨kn, rfl⟩ : ∃ kn : Nat, k = (kn : Int) + 1 := ⟨(k - 1).toNat, by omega⟩
 have hkn : kn < ni := by omega
 have e1 : IntKind.i64.wrap (kn : Int) = (kn : Int) := IntWalk.i64_in _ (by have := HI53.out; omega)
 have e2 : (0 : Int) ≤ (kn : Int) := by omega
 have e3 : (kn : Int) < (ni : Int) := by omega
 have e4 : ((kn : Int)).toNat = kn := by omega
 have e5 : (kn : Int) + 1 - 1 = (kn : Int) := by omega
 obtain ⟨L9, q1, ⟨q2, q3, q4⟩, q5⟩ := HIN.out.view.ex
 obtain ⟨b, off, rfl, hlt, hat⟩ := q4 (by omega)
 have hc9 := hat kn hkn 5 _ rfl
 have hq9 := q5 _ (getD_mem' inp0 (l := L9) (k := kn) (by omega))
 have hz9 : (L9.getD kn inp0).z = D.e.ins.getD kn in0 := by rw [← q1]; exact (getD_map' InP.z L9 kn inp0 (by omega)).symm
 have hm9 : D.e.ins.getD kn in0 ∈ D.e.ins := getD_mem' in0 (by omega)
 have hl9 := HIL.out _ hm9
 have HCH : Hid (chgL D ((kn : Int) + 1) kd am = chL kd am (L9.getD kn inp0).z.l (L9.getD kn inp0).n) := by
  unfold Hid chgL
  have e : ((kn : Int) + 1).toNat - 1 = kn := by omega
  rw [e, hq9.1, hz9]
 rw [← hz9] at hl9
 have hn9 : (L9.getD kn inp0).n ≤ 1000 := by rw [hq9.1]; exact hl9
 generalize L9.getD kn inp0 = q at *
 obtain ⟨qz, A2, m2, c2'⟩ := q
 dsimp only at hc9 hq9 hz9 hl9 hn9 HCH
 have KC := hid (echange_c kd am A2 m2 c2' qz.l W1 hq9 hn9)
 have HX := hid hc9
 clear q1 q2 q3 q4 q5 hat hlt hq9 hz9 hm9 hl9 hn9 hk1 hk2 hkn hni
 go_wp2_with fail
 refine KC.out.mono ?_
 rintro e W2 ⟨⟨v, rfl, hov⟩, hb2⟩
 obtain ⟨A3, c3, rfl⟩ := oL9 hov.2
 have HLN := hid hov.1
 have HB2 := hid (bT HB1.out hb2)
 rw [← HCH.out] at hov
 have hp2 := HP.out.below HB2.out
 have KF := hid (pd_fix (c := c3) hp2 ((kn : Int) + 1) (hp2.elo hov.2 hov.1) (by rw [hov.1]; exact hc) re HE h1 h2)
 rw [HCH.out] at KF
 clear hc9 KC hov hp2 HX
 go_wp2_with fail
 refine KF.out.mono ?_
 rintro e W3 ⟨rfl, hd⟩
 have hfin := DMut.pre HP.out HB2.out hd
 go_wp2_with fail
 exact bodyPost_ret (v := .int .i64 re) (by simp [results, results37, go_sem]) rfl ⟨rfl, hfin⟩
end Go.Proofs.YtiaabmhjkoohmaaGreat
