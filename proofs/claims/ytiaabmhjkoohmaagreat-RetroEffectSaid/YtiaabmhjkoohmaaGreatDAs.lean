/-
 Contract of a desk's As. Conditions as named.
-/
import Derived.Test.YtiaabmhjkoohmaaGreatM10
namespace Go.Proofs.YtiaabmhjkoohmaaGreat
set_option maxRecDepth 100000
set_option maxHeartbeats 25600000
set_option linter.unusedVariables false
set_option linter.unusedSimpArgs false
open Go.RowKit Tryz
open Lib (hid)
theorem InsIn.take {w : World} {A : Option Addr} {n : Nat} {l : List In} (h : InsIn w A n l) {p : Nat} (hp : p ≤ n) : InsIn w A p (l.take p) := by
 obtain ⟨L, h1, ⟨h2, h3, h4⟩, h5⟩ := h.ex
 refine ⟨L.take p, by rw [List.map_take, h1], ⟨by rw [List.length_take]; omega, by omega, fun h0 => ?_⟩, fun q hq => h5 q (List.mem_of_mem_take hq)⟩
 obtain ⟨b, off, hA, hlt, hat⟩ := h4 (by omega)
 refine ⟨b, off, hA, hlt, fun k hk => ?_⟩
 have h6 := hat k (by omega)
 have e : (L.take p).getD k inp0 = L.getD k inp0 := by
  rw [List.getD_eq_getElem?_getD, List.getD_eq_getElem?_getD, List.getElem?_take, if_pos hk]
 rw [e]
 exact h6
def AsR (re : Int) (l : List In) (w : World) (e : Ending) (w' : World) : Prop :=
 ((re = 0 ∧ ∃ A c, e = .returned (.tuple #[.slice A l.length c, .int .i64 0]) ∧ Iw9 w' w.heap.size w.heap.size A l.length c l) ∨ (re ≠ 0 ∧ e = .returned (.tuple #[.slice none 0 0, .int .i64 re]))) ∧ Below w.heap.size w w'
--%
theorem das_c (fq days : Int) (lo : Nat) (s : DkS) (D : Dk) (p : Int) (w : World) (h : DkAt w lo fq days s D) (hk : DkOK fq days D) (re : Int) (he : Hid (re = asE D p)) :
  Calls prog 19 #[.pointer (some ⟨s.d, 0, none⟩), .int .i64 p] w (AsR re (asL D p) w) := by
 obtain ⟨c1, c2, c3, hB, _, hFx, hFs⟩ := h.ex
 obtain ⟨L2, hL1, hL2, hL3⟩ := hFx.view.ex
 obtain ⟨n1, hn1⟩ : ∃ n, n = D.fs.length := ⟨_, rfl⟩
 obtain ⟨nx, hnx⟩ : ∃ n, n = D.fx.length := ⟨_, rfl⟩
 have hl := hk.fx
 have hf53 : n1 ≤ 53 := by have h4 := hk.fs; have h5 := hk.e.ins53; omega
 have hcap : n1 ≤ c1 := by
  obtain ⟨_, _, h2, h3, _⟩ := hFs.ex
  rw [hn1]
  exact own_cap h3
 rw [← hn1, ← hnx] at hB
 rw [← hnx] at hL2 hl
 unfold AsR
 have d1 := hB.cv 1 (.slice s.A2 nx c2) rfl
 have d2 := hB.cv 2 (.slice s.A1 n1 c1) rfl
 by_cases hp0 : p < 0
 case pos =>
  have HE : Hid (re = 230) := he.out.trans (by unfold asE; rw [if_pos (Or.inl hp0)])
  have t1 : decide (p < 0) = true := by simpa using hp0
  clear hB hFx hFs hL1 hL2 hL3 hk h hcap
  generalize asL D p = l9
  go_enter func19, ntmps19
  go_wp2_with fail
  refine bodyPost_ret (v := .tuple #[.slice none 0 0, .int .i64 230]) (by simp [results, results19, go_sem]) rfl ⟨Or.inr ⟨by rw [HE.out]; decide, by rw [HE.out]⟩, b0 w⟩
 by_cases hp1 : (n1 : Int) < p
 case pos =>
  have HE : Hid (re = 230) := he.out.trans (by unfold asE; rw [if_pos (Or.inr (by rw [← hn1]; exact hp1))])
  have t1 : decide (p < 0) = false := by simpa using hp0
  have t2 : decide ((n1 : Int) < p) = true := by simpa using hp1
  have t3 : decide (p > (n1 : Int)) = true := by simpa using hp1
  clear hB hFx hFs hL1 hL2 hL3 hk h hcap
  generalize asL D p = l9
  go_enter func19, ntmps19
  go_wp2_with fail
  refine bodyPost_ret (v := .tuple #[.slice none 0 0, .int .i64 230]) (by simp [results, results19, go_sem]) rfl ⟨Or.inr ⟨by rw [HE.out]; decide, by rw [HE.out]⟩, b0 w⟩
 obtain ⟨pn, rfl⟩ : ∃ k : Nat, p = (k : Int) := ⟨p.toNat, by omega⟩
 have HE : Hid (re = 0) := he.out.trans (by unfold asE; rw [if_neg (by rw [← hn1]; omega)])
 have t1 : decide ((pn : Int) < 0) = false := by simp
 have t2 : decide ((n1 : Int) < (pn : Int)) = false := by simpa using hp1
 have t3 : decide ((pn : Int) > (n1 : Int)) = false := by simpa using hp1
 have hpn : pn ≤ n1 := by omega
 have e1 : (0 : Int) ≤ (pn : Int) := by omega
 have e2 : (pn : Int) ≤ (c1 : Int) := by omega
 have e3 : ((pn : Int)).toNat = pn := by omega
 have HLN : Hid (∀ k, (asN D (pn : Int) k).length = pn) := fun k => by rw [asN_len, List.length_take]; have := hk.fs; omega
 have KK := hid (dcopied_c s.A1 pn c1 (D.fs.take pn) w ((by rw [hn1]; exact hFs.view : InsIn w s.A1 n1 D.fs).take hpn) (by omega) (fun z hz => hk.fl z (List.mem_of_mem_take hz)))
 have HTL : Hid ((D.fs.take pn).length = pn) := by unfold Hid; rw [List.length_take]; omega
 unfold InsR at KK
 rw [HTL.out] at KK
 have HA0 : Hid (asN D (pn : Int) 0 = D.fs.take pn) := rfl
 have HAS : Hid (∀ k, k < nx → asN D (pn : Int) (k + 1) = asStep (pn : Int) (asN D (pn : Int) k) (D.fx.getD k fx0)) := fun k hk' => asN_next D pn k (by omega)
 have HAL : Hid (asL D (pn : Int) = asN D (pn : Int) nx) := by unfold Hid asL; rw [hnx]
 have HEA : Hid (∀ f ∈ D.fx, 1 ≤ f.k) := fun f hf => (hk.each f hf).1.1
 have HMZ : Hid (∀ k, k < nx → (L2.getD k fxp0).z = D.fx.getD k fx0) := fun k hk' => by
  rw [← hL1]
  exact (getD_map' FxP.z L2 k fxp0 (by have := hL2.1; omega)).symm
 have HMF : Hid (∀ k, k < nx → D.fx.getD k fx0 ∈ D.fx) := fun k hk' => getD_mem' fx0 (by omega)
 have KC : Hid (∀ q ∈ L2, ∀ W, Below w.heap.size w W → Calls prog 47 #[.slice q.A q.n q.c] W (CloneV 98 3 q.n (q.z.l.flatMap elC) W)) := fun q hq W hW => by
  have hq2 := (hk.each q.z (by rw [← hL1]; exact List.mem_map_of_mem hq)).2.2
  have h3 := hL3 q hq
  exact clone_el q.A q.n q.c q.z.l W (h3.below hW) (by have := h3.1; omega)
 have HQN : Hid (∀ q ∈ L2, q.n = q.z.l.length) := fun q hq => (hL3 q hq).1
 have HR := hid hL2
 have HB := hid hB
 have hn9 : nx ≤ 9223372036854775807 := by omega
 clear hB hFx hFs hL1 hL2 hL3 hk h hp0 hp1 he hn1 hnx
 go_enter func19, ntmps19
 go_wp2_with fail
 refine KK.out.mono ?_
 rintro e W1 ⟨⟨A9, c9, rfl, hin⟩, hb⟩
 clear t1 t2 t3 d1 d2 KK
 have d1 := (HB.out.t hb).cv 1 (.slice s.A2 nx c2) rfl
 have HIN := hid hin
 have HB1 := hid hb
 clear hin hb
 go_wp2_with fail
 go_loopw [32] (fun i wr => ∃ k : Nat, k ≤ nx ∧ i = .int .i64 k ∧ Hid (Iw9 wr w.heap.size w.heap.size A9 pn c9 (asN D (pn : Int) k)) ∧ Below w.heap.size w wr) (fun i _ => nx - (intOf i).toNat)
 case atStart => exact ⟨0, Nat.zero_le _, rfl, hid (by rw [HA0.out]; exact HIN.out), HB1.out⟩
 case round =>
  obtain ⟨k, hk', rfl, HO, hbl⟩ := hrel
  by_cases hk : k < nx
  case neg =>
   obtain rfl : k = nx := by omega
   go_wp2_with fail
   refine bodyPost_ret (v := .tuple #[.slice A9 pn c9, .int .i64 0]) (by simp [results, results19, go_sem]) rfl ⟨Or.inl ⟨HE.out, A9, c9, ?_, ?_⟩, hbl⟩
   ·
    rw [HAL.out, HLN.out]
   ·
    rw [HAL.out, HLN.out]; exact HO.out
  obtain ⟨b, off, hA, hlt, hat⟩ := (HR.out.below hbl).2.2 (by omega)
  rw [hA]
  have hc := hat k hk
  have hqm := getD_mem' fxp0 (l := L2) (k := k) (by have := HR.out.1; omega)
  have HST := hid (HAS.out k hk)
  have HEK := hid (HEA.out _ (HMF.out k hk))
  rw [← HMZ.out k hk] at HST HEK
  have KC1 := hid (KC.out _ hqm)
  have HM := hid (HQN.out _ hqm)
  clear hat hqm hA
  generalize L2.getD k fxp0 = q at *
  obtain ⟨⟨fk, fl, fa⟩, A2, m2, c2'⟩ := q
  obtain ⟨x0, x1, x2⟩ : wr.cell? ⟨b, off + k * 3, none⟩ = some (.int .i64 fk) ∧ wr.cell? ⟨b, off + k * 3 + 1, none⟩ = some (.slice A2 m2 c2') ∧ wr.cell? ⟨b, off + k * 3 + 2, none⟩ = some (.int .i64 fa) := ⟨hc 0 _ rfl, hc 1 _ rfl, hc 2 _ rfl⟩
  dsimp only at KC1 HM HST HEK
  unfold CloneV at KC1
  unfold asStep at HST
  dsimp only at HST
  have hb1 := below1 wr (.cells #[.int .i64 fk, .slice A2 m2 c2', .int .i64 fa] 62)
  have HY := hid (Blk.mk wr 62 #[.int .i64 fk, .slice A2 m2 c2', .int .i64 fa])
  have y0 := HY.out.cv 0 (.int .i64 fk) rfl
  have y2 := HY.out.cv 2 (.int .i64 fa) rfl
  have HO1 := hid (HO.out.below hb1)
  have HBL := hid (bT hbl hb1)
  clear hc HO
  by_cases ha : fa < (pn : Int)
  case neg =>
   have u1 : decide (fa < (pn : Int)) = false := by simpa using ha
   rw [if_neg (fun h => ha h.1)] at HST
   go_wp2_with fail
   go_roundw
   case rel => exact ⟨k + 1, by omega, by go_num, hid (by rw [HST.out]; exact HO1.out), HBL.out⟩
   case measure => simp [intOf]; omega
  have u1 : decide (fa < (pn : Int)) = true := by simpa using ha
  by_cases hp : fk ≤ (pn : Int)
  case neg =>
   have u2 : decide (fk ≤ (pn : Int)) = false := by simpa using hp
   rw [if_neg (fun h => hp h.2)] at HST
   go_wp2_with fail
   go_roundw
   case rel => exact ⟨k + 1, by omega, by go_num, hid (by rw [HST.out]; exact HO1.out), HBL.out⟩
   case measure => simp [intOf]; omega
  have u2 : decide (fk ≤ (pn : Int)) = true := by simpa using hp
  rw [if_pos ⟨ha, hp⟩] at HST
  obtain ⟨kn, hkn⟩ : ∃ kn : Nat, fk = (kn : Int) + 1 := ⟨(fk - 1).toNat, by have := HEK.out; omega⟩
  subst hkn
  have hknp : kn < pn := by omega
  have g1 : IntKind.i64.wrap (kn : Int) = (kn : Int) := IntWalk.i64_in _ (by omega)
  have g2 : (0 : Int) ≤ (kn : Int) := by omega
  have g3 : (kn : Int) < (pn : Int) := by omega
  have g4 : ((kn : Int)).toNat = kn := by omega
  go_upto_region 8 with fail
  generalize hwn : wr.alloc (.cells #[.int .i64 ((kn : Int) + 1), .slice A2 m2 c2', .int .i64 fa] 62) = v1 at *
  clear hwn x0 x1 x2 y0 y2 u1 u2
  obtain ⟨L9, q1, q2, q3, q4⟩ := HO1.out.ex
  obtain ⟨g9, rfl, hg9, _, hf9, cs9, hb9⟩ := own_some q3 (by omega)
  have HG9 : Hid (w.heap.size ≤ g9) := hg9
  have HB9 := hid hb9
  clear q1 q2 q3 q4 hg9 hf9 hb9
  have G : Hid (∀ W, Below v1.heap.size v1 W → W.cell? ⟨wr.heap.size, 0, none⟩ = some (.int .i64 ((kn : Int) + 1)) ∧ W.cell? ⟨wr.heap.size, 1, none⟩ = some (.slice A2 m2 c2')) := fun W hW => ⟨(HY.out.t hW).cv 0 _ rfl, (HY.out.t hW).cv 1 _ rfl⟩
  refine wp_region_E (fun W => W.cell? ⟨wr.heap.size, 0, none⟩ = some (.int .i64 ((kn : Int) + 1)) ∧ W.cell? ⟨wr.heap.size, 1, none⟩ = some (.slice A2 m2 c2')) 9 (by kernel_rfl) (G.out _ (b0 v1).drew) (fun hH9 => ?_)
  refine tkG 0 (h := ?_)
  refine tkG 1 (h := ?_)
  refine tkG 2 (h := ?_)
  refine tkG 3 (h := ?_)
  refine tkG 4 (h := ?_)
  refine tkG 5 (h := ?_)
  refine tkO 6 (h := fun K hK => ?_)
  go_simp
  go_at_call 47
  refine (KC1.out _ (bT HBL.out (b0 v1).drew)).mono ?_
  rintro e w5 ⟨⟨A5, c5, rfl, hoc⟩, hb5⟩
  have hB5 : Below v1.heap.size v1 w5 := bT (b0 _).drew hb5
  have HOC := hid hoc
  clear hoc
  have hB95 := HB9.out.t hB5
  obtain ⟨L5, r1, r2, r3, r4⟩ := (HO1.out.below hB5).ex
  obtain ⟨g8, hg8, _, hc8, hf8, _⟩ := own_some r3 (by omega)
  injection hg8 with hg8
  injection hg8 with hg8
  subst hg8
  have f9 := hf8 (kn * 6 + 5)
  have x9 := (hc8 (kn * 6 + 5) (by omega)).trans (flat_key inPC 6 inp0 inPC_len L5 kn 5 _ (by omega) (by decide) rfl)
  have HL5 := hid (⟨r1, r2, r3, r4⟩ : _ ∧ _ ∧ _ ∧ _)
  clear r1 r2 r3 r4 hc8 hf8
  refine shG hK (G.out _ hB5) (h := fun hH9 => ?_)
  clear hK K
  refine tkG 7 (h := ?_)
  refine tkG 8 (h := ?_)
  refine wL9 (i := 9) (by kernel_rfl) rfl (by decide) (fun K hK => ?_)
  go_simp
  refine hK.out _ _ (wD9 (by kernel_rfl) ?_ _)
  clear hK K
  clear G hH9 KC1
  try simp only [Exit.then]
  have hown := oM9 HOC.out (Nat.le_trans HBL.out.size (b0 v1).drew.size)
  obtain ⟨r1, r2, r3, r4⟩ := HL5.out
  have HFIN := hid (Iw9.putEl (k := kn) (m := m2) (d := c5) (B := A5) (els := fl) r1 r2 r3 r4 (by omega) HM.out hown)
  have HBF := hid (bSg (bT HBL.out hB5) HG9.out (kn * 6 + 5) (.slice A5 m2 c5))
  clear r1 r2 r3 r4 HL5 hown hB95 hb5 hB5 f9 x9
  go_wp2_with fail
  go_roundw
  case rel => exact ⟨k + 1, by omega, by go_num, hid (by rw [HST.out]; exact HFIN.out), HBF.out⟩
  case measure => simp [intOf]; omega
end Go.Proofs.YtiaabmhjkoohmaaGreat
