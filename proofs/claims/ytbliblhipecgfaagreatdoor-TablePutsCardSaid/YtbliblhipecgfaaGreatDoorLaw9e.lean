/-
  The walk of TablePuts. Conditions as named.
-/
import Derived.Test.YtbliblhipecgfaaGreatDoorTStep
import Derived.Test.YtbliblhipecgfaaGreatDoorTSmall
import Derived.Test.YtbliblhipecgfaaGreatDoorSame2
import Derived.Deep.QuietTactic
import Derived.BigQuiet
namespace Go.Proofs.YtbliblhipecgfaaGreatDoor
set_option linter.unusedVariables false
open Go.RowKit
theorem put_cases {n : Nat} {L : List ByteArray} (hn : n = L.length) (h : putE n L = 0) (t : Tb) : 2 ≤ n ∧
    ((L.getD 0 st0 = ⟨#[108, 105, 109, 105, 116]⟩ ∧ n = 2 ∧ putV t L = { t with lim := inV (L.getD 1 st0).data.toList }) ∨
     (L.getD 0 st0 = ⟨#[114, 111, 117, 110, 100]⟩ ∧ n = 2 ∧ putV t L = { t with rnd := modeV (L.getD 1 st0) }) ∨
     (L.getD 0 st0 = ⟨#[115, 99, 104, 101, 109, 101]⟩ ∧ ∃ l, l.length = n - 1 ∧ putV t L = { t with sch := t.sch ++ [l] }) ∨
     (L.getD 0 st0 = ⟨#[99, 111, 110, 116, 114, 105, 98]⟩ ∧ ∃ x, x.nm = L.getD 1 st0 ∧ putV t L = { t with cts := t.cts ++ [x] }) ∨
     (L.getD 0 st0 = ⟨#[107, 105, 110, 100]⟩ ∧ n = 5 ∧ ∃ x, x.nm = L.getD 1 st0 ∧ putV t L = { t with kds := t.kds ++ [x] })) := by
  have hg : (L.drop 1).getD 0 st0 = L.getD 1 st0 := by rw [getD_drop]
  unfold putE at h
  split at h
  · cases h
  rename_i h2
  refine ⟨by omega, ?_⟩
  unfold putV
  split at h
  · rename_i e
    rw [if_pos e]
    split at h
    · rename_i e2; exact Or.inl ⟨e, e2, rfl⟩
    · cases h
  rename_i n1
  rw [if_neg n1]
  split at h
  · rename_i e
    rw [if_pos e]
    split at h
    · rename_i e2; exact Or.inr (Or.inl ⟨e, e2, rfl⟩)
    · cases h
  rename_i n2
  rw [if_neg n2]
  split at h
  · rename_i e
    rw [if_pos e]
    exact Or.inr (Or.inr (Or.inl ⟨e, _, by unfold rdL; rw [List.length_map, List.length_drop, hn], rfl⟩))
  rename_i n3
  rw [if_neg n3]
  split at h
  · rename_i e
    rw [if_pos e]
    exact Or.inr (Or.inr (Or.inr (Or.inl ⟨e, _, hg, rfl⟩)))
  rename_i n4
  rw [if_neg n4]
  split at h
  · rename_i e
    refine Or.inr (Or.inr (Or.inr (Or.inr ⟨e, ?_, _, hg, rfl⟩)))
    unfold kwE at h
    split at h
    · rename_i e2; omega
    · cases h
  · cases h
theorem below1d (w : World) (o : Obj) : Below w.heap.size w (w.alloc o).drew := (below1 w o).drew
theorem last_get {α : Type} (l : List α) (x d : α) : (l ++ [x]).getD l.length d = x := by
  rw [getD_get (by simp)]; simp
--%%
set_option maxRecDepth 100000 in
set_option maxHeartbeats 12800000 in
theorem tablePuts_row (sch : List (List Bd)) (cts : List Ct) (kds : List Kd) (As Ac Ak : Option Addr) (ns cs nc cc nk ck : Nat) (lim rnd : Int) (A : Option Addr) (n c : Nat) (L : List ByteArray) (w : World) (h : TbIn w sch cts kds As Ac Ak ns cs nc cc nk ck) (hl : StSl w A n L ∧ n ≤ c ∧ ∀ k, k < n → (L.getD k st0).size ≤ 9223372036854775807) (htab : Tab w) (htab2 : TabS w) (hml : ML w) :
    Calls Tryz.prog 8 #[.agg #[.slice As ns cs, .slice Ac nc cc, .slice Ak nk ck, .int .i64 lim, .int .i64 rnd], .slice A n c] w fun e w' => e = .returned (.bool true) ∧ Below w.heap.size w w' := by
  have hb0 := below1 w (.cells #[.slice As ns cs, .slice Ac nc cc, .slice Ak nk ck, .int .i64 lim, .int .i64 rnd] 26)
  have HB0 := Lib.hid hb0
  have HZ := Lib.hid (Blk.mk w 26 #[.slice As ns cs, .slice Ac nc cc, .slice Ak nk ck, .int .i64 lim, .int .i64 rnd])
  have HH := Lib.hid h
  have HT := Lib.hid htab
  have HT2 := Lib.hid htab2
  have HM := Lib.hid hml
  have HL := Lib.hid hl.1
  have hcap := hl.2.1
  have HNL := Lib.hid hl.1.1
  have HSZ := Lib.hid hl.2.2
  have hn9 := hl.1.2.1
  have KB := Lib.hid (builds_c _ (hml.t hb0) (htab2.t hb0) (htab.t hb0))
  have KS : Hid (∀ W, Below w.heap.size w W → Calls Tryz.prog 12 #[.agg #[.slice As ns cs, .slice Ac nc cc, .slice Ak nk ck, .int .i64 lim, .int .i64 rnd]] W (SmallR sch cts kds W)) := fun W hW => small_c sch cts kds As Ac Ak ns cs nc cc nk ck lim rnd W (h.s.below hW) (h.c.below hW) (h.k.below hW)
  clear hb0 h htab htab2 hml hl
  go_enter Tryz.func8, Tryz.ntmps8
  go_wp2_with fail
  refine KB.out.mono ?_
  rintro e w1 ⟨⟨Bs, ds, Bc, dc, Bk, dk, rfl, _⟩, hb1⟩
  simp only [tbV]
  have HB1 := Lib.hid (bA (bT HB0.out hb1) (.cells #[.slice Bs 1 ds, .slice Bc 1 dc, .slice Bk 2 dk, .int .i64 5000, .int .i64 1] 26))
  have HZ1 := Lib.hid ((HZ.out.t hb1).alloc (.cells #[.slice Bs 1 ds, .slice Bc 1 dc, .slice Bk 2 dk, .int .i64 5000, .int .i64 1] 26))
  obtain ⟨p0, p1, p2, p3, p4⟩ := HZ1.out.all5
  clear KB HZ hb1
  go_wp2_with fail
  refine (KS.out _ HB1.out).mono ?_
  rintro e w2 ⟨b, ⟨rfl, hsm⟩, hb2⟩
  have HSM := Lib.hid hsm
  have HB2 := Lib.hid (bT HB1.out hb2)
  have HZ2 := Lib.hid (HZ1.out.t hb2)
  clear hb2 p0 p1 p2 p3 p4 KS hsm
  cases b
  · go_wp2_with fail
    go_ret
    exact ⟨rfl, HB2.out⟩
  by_cases h40 : 40 < n
  · have v : decide ((40 : Int) < (n : Int)) = true := by simp; omega
    clear h40
    go_wp2_with fail
    go_ret
    exact ⟨rfl, HB2.out⟩
  have v : decide ((40 : Int) < (n : Int)) = false := by simp; omega
  have hsm := HSM.out (by first | trivial | rfl)
  clear HSM
  go_wp2_with fail
  go_loopw [30] (fun i wr => ∃ k : Nat, k ≤ n ∧ i = .int .i64 k ∧ Hid (∀ j, j < k → (L.getD j st0).size ≤ 200) ∧ Hid (w2 = wr)) (fun i _ => n - (intOf i).toNat)
  case atStart => exact ⟨0, Nat.zero_le _, rfl, fun j hj => absurd hj (Nat.not_lt_zero _), rfl⟩
  case round =>
    obtain ⟨k, hk', rfl, HW, hww⟩ := hrel
    obtain rfl := hww.out
    by_cases hk : k < n
    case pos =>
      obtain ⟨b, off, rfl, hlt, hat⟩ := (HL.out.below HB2.out).2.2 (by omega)
      have q := hat k hk 0 _ rfl
      have hz := HSZ.out k hk
      have HA2 : Hid ((L.getD k st0).size ≤ 200 → ∀ j, j < k + 1 → (L.getD j st0).size ≤ 200) := fun h j hj => by
        rcases (by omega : j = k ∨ j < k) with rfl | hj
        · exact h
        · exact HW.out j hj
      generalize L.getD k st0 = s at *
      simp only [Nat.mul_one, Nat.add_zero] at q
      clear hat
      by_cases h5 : 200 < s.size
      · have v5 : decide ((200 : Int) < (s.size : Int)) = true := by simp; omega
        clear h5
        go_wp2_with fail
        go_ret
        exact ⟨rfl, HB2.out⟩
      have v5 : decide ((200 : Int) < (s.size : Int)) = false := by simp; omega
      have HA3 := Lib.hid (HA2.out (by omega))
      clear h5 HA2
      go_wp2_with fail
      go_roundw
      case rel => exact ⟨k + 1, by omega, by go_num, HA3.out, (by first | exact trivial | rfl)⟩
      case measure => simp [intOf]; omega
    obtain rfl : n = k := by omega
    have HWD := Lib.hid HW.out
    have e1 := HH.out.s.1
    have e2 := HH.out.c.1
    have e3 := HH.out.k.1
    have g1 := hsm.s
    have g2 := hsm.c
    have g3 := hsm.k
    have HEN : Hid (ns = sch.length ∧ nc = cts.length ∧ nk = kds.length) := ⟨e1, e2, e3⟩
    have ns3 : ns ≤ 30 := by omega
    have nc3 : nc ≤ 30 := by omega
    have nk3 : nk ≤ 40 := by omega
    have HSZT : Hid (SzT ⟨sch, cts, kds, lim, rnd⟩ 40) := ⟨by dsimp only; omega, by dsimp only; omega, by dsimp only; omega, fun x hx => by
      obtain ⟨j, hj, rfl⟩ := List.getElem_of_mem hx
      have := hsm.sl j hj
      rw [getD_get hj] at this
      omega, fun x hx => by
      obtain ⟨j, hj, rfl⟩ := List.getElem_of_mem hx
      have := (hsm.cl j hj).1
      rw [getD_get hj] at this
      omega⟩
    have KClone : Hid (∀ W, Below w.heap.size w W → Calls Tryz.prog 25 #[.agg #[.slice As ns cs, .slice Ac nc cc, .slice Ak nk ck, .int .i64 lim, .int .i64 rnd]] W (CloneR sch cts kds ns nc nk lim rnd W)) := fun W hb => by
      have h := HH.out
      exact tclone_c sch cts kds As Ac Ak ns cs nc cc nk ck lim rnd W (h.s.below hb) (h.c.below hb) (h.k.below hb) ⟨by omega, by omega, by omega⟩ ⟨fun j hj => by have := hsm.sl j (by omega); omega, fun j hj => by have := (hsm.cl j (by omega)).1; omega⟩
    have KPut : Hid (∀ W, Below w.heap.size w W → Calls Tryz.prog 23 #[.agg #[.slice As ns cs, .slice Ac nc cc, .slice Ak nk ck, .int .i64 lim, .int .i64 rnd], .slice A n c] W (StepR ⟨sch, cts, kds, lim, rnd⟩ L n (.agg #[.slice As ns cs, .slice Ac nc cc, .slice Ak nk ck, .int .i64 lim, .int .i64 rnd]) W)) := fun W hb => by
      have h := HH.out
      exact tstep_c ⟨sch, cts, kds, lim, rnd⟩ 40 HSZT.out (by decide) As Ac Ak ns cs nc cc nk ck lim rnd ⟨rfl, rfl⟩ A n c L W ⟨h.s.below hb, h.c.below hb, h.k.below hb, h.cs, h.cc, h.ck⟩ (RowSl.below HL.out hb) hcap (by omega) (fun k hk => by have := HWD.out k hk; omega) (HM.out.t hb) (HT2.out.t hb)
    clear e1 e2 e3 g1 g2 g3 hsm HW hk hk' hww
    obtain ⟨p0, p1, p2, p3, p4⟩ := HZ2.out.all5
    go_wp2_with fail
    refine (KClone.out _ HB2.out).mono ?_
    rintro e w3 ⟨⟨Ds, es, Dc, ec, Dk, ek, rfl, ho3⟩, hb3⟩
    have HO3 := Lib.hid (ho3.below (below1 w3 (.cells #[.slice Ds ns es, .slice Dc nc ec, .slice Dk nk ek, .int .i64 lim, .int .i64 rnd] 26)))
    have HB3 := Lib.hid (bA (bT HB2.out hb3) (.cells #[.slice Ds ns es, .slice Dc nc ec, .slice Dk nk ek, .int .i64 lim, .int .i64 rnd] 26))
    have HZ3 := Lib.hid ((HZ2.out.t hb3).alloc (.cells #[.slice Ds ns es, .slice Dc nc ec, .slice Dk nk ek, .int .i64 lim, .int .i64 rnd] 26))
    have HW3 := Lib.hid (Blk.mk w3 26 #[.slice Ds ns es, .slice Dc nc ec, .slice Dk nk ek, .int .i64 lim, .int .i64 rnd])
    clear hb3 ho3 p0 p1 p2 p3 p4
    obtain ⟨p0, p1, p2, p3, p4⟩ := HZ3.out.all5
    go_wp2_with fail
    refine (KPut.out _ HB3.out).mono ?_
    rintro e w4 ⟨hp, hb4⟩
    have HO4 := Lib.hid (HO3.out.below hb4)
    have HB4 := Lib.hid (bT HB3.out hb4)
    have HZ4 := Lib.hid (HZ3.out.t hb4)
    have HW4 := Lib.hid (HW3.out.t hb4)
    have hszp := HB3.out.size
    clear hb4 p0 p1 p2 p3 p4 KPut HO3 HB3 HZ3 HW3
    have KSame : Hid (∀ W, Below w4.heap.size w4 W → Calls Tryz.prog 24 #[.agg #[.slice As ns cs, .slice Ac nc cc, .slice Ak nk ck, .int .i64 lim, .int .i64 rnd], .agg #[.slice Ds ns es, .slice Dc nc ec, .slice Dk nk ek, .int .i64 lim, .int .i64 rnd]] W fun e w' => e = .returned (.bool true) ∧ Below W.heap.size W w') := fun W hW => by
      have v := (HO4.out.below hW).view
      have h := HH.out
      have hb := bT HB4.out hW
      refine (tsame_p sch sch cts cts kds kds lim rnd lim rnd As Ac Ak Ds Dc Dk ns cs nc cc nk ck ns es nc ec nk ek W (h.s.below hb) (h.c.below hb) (h.k.below hb) v.s v.c v.k).mono ?_
      rintro e w' ⟨r, ⟨rfl, hr⟩, hb⟩
      exact ⟨by rw [hr.2 rfl], hb⟩
    rcases hp with ⟨h0, Us, Uc, Uk, us, vs, uc, vc, uk, vk, ul, ur, rfl, hlr, ho⟩ | ⟨h0, rfl⟩
    case inr =>
      have v0 : (putE n L != 0) = true := by simpa using h0
      generalize putE n L = pe at *
      have HB5 := Lib.hid (bA HB4.out (.cells #[.slice As ns cs, .slice Ac nc cc, .slice Ak nk ck, .int .i64 lim, .int .i64 rnd] 26))
      have HZ5 := Lib.hid (HZ4.out.alloc (.cells #[.slice As ns cs, .slice Ac nc cc, .slice Ak nk ck, .int .i64 lim, .int .i64 rnd] 26))
      have HW5 := Lib.hid (HW4.out.alloc (.cells #[.slice As ns cs, .slice Ac nc cc, .slice Ak nk ck, .int .i64 lim, .int .i64 rnd] 26))
      have HU5 := Lib.hid (Blk.mk w4 26 #[.slice As ns cs, .slice Ac nc cc, .slice Ak nk ck, .int .i64 lim, .int .i64 rnd])
      obtain ⟨p0, p1, p2, p3, p4⟩ := HZ5.out.all5
      obtain ⟨q0, q1, q2, q3, q4⟩ := HW5.out.all5
      have KSelf : Hid (∀ W, Below w.heap.size w W → Calls Tryz.prog 24 #[.agg #[.slice As ns cs, .slice Ac nc cc, .slice Ak nk ck, .int .i64 lim, .int .i64 rnd], .agg #[.slice As ns cs, .slice Ac nc cc, .slice Ak nk ck, .int .i64 lim, .int .i64 rnd]] W fun e w' => e = .returned (.bool true) ∧ Below W.heap.size W w') := fun W hb => by
        have h := HH.out
        refine (tsame_p sch sch cts cts kds kds lim rnd lim rnd As Ac Ak As Ac Ak ns cs nc cc nk ck ns cs nc cc nk ck W (h.s.below hb) (h.c.below hb) (h.k.below hb) (h.s.below hb) (h.c.below hb) (h.k.below hb)).mono ?_
        rintro e w' ⟨r, ⟨rfl, hr⟩, hb⟩
        exact ⟨by rw [hr.2 rfl], hb⟩
      clear h0
      go_wp2_with fail
      refine (KSame.out _ (below1 _ _)).mono ?_
      rintro e w6 ⟨rfl, hb6⟩
      have HB6 := Lib.hid (bT HB5.out hb6)
      have HU6 := Lib.hid (HU5.out.t hb6)
      have HZ6 := Lib.hid (HZ5.out.t hb6)
      clear hb6 p0 p1 p2 p3 p4 q0 q1 q2 q3 q4
      obtain ⟨p0, p1, p2, p3, p4⟩ := HU6.out.all5
      obtain ⟨q0, q1, q2, q3, q4⟩ := HZ6.out.all5
      go_wp2_with fail
      refine (KSelf.out _ HB6.out).mono ?_
      rintro e w7 ⟨rfl, hb7⟩
      have HB7 := Lib.hid (bT HB6.out hb7)
      clear hb7
      go_wp2_with fail
      go_ret
      exact ⟨rfl, HB7.out⟩
    obtain ⟨n2, hcase⟩ := put_cases HNL.out h0 ⟨sch, cts, kds, lim, rnd⟩
    have HU := Lib.hid (ho.below (below1 w4 (.cells #[.slice Us us vs, .slice Uc uc vc, .slice Uk uk vk, .int .i64 ul, .int .i64 ur] 26)))
    have HCASE := Lib.hid hcase
    have HUL := Lib.hid ho.len
    have HLRX := Lib.hid hlr
    have HB5 := Lib.hid (bA HB4.out (.cells #[.slice Us us vs, .slice Uc uc vc, .slice Uk uk vk, .int .i64 ul, .int .i64 ur] 26))
    have HZ5 := Lib.hid (HZ4.out.alloc (.cells #[.slice Us us vs, .slice Uc uc vc, .slice Uk uk vk, .int .i64 ul, .int .i64 ur] 26))
    have HW5 := Lib.hid (HW4.out.alloc (.cells #[.slice Us us vs, .slice Uc uc vc, .slice Uk uk vk, .int .i64 ul, .int .i64 ur] 26))
    have HU5 := Lib.hid (Blk.mk w4 26 #[.slice Us us vs, .slice Uc uc vc, .slice Uk uk vk, .int .i64 ul, .int .i64 ur])
    obtain ⟨p0, p1, p2, p3, p4⟩ := HZ5.out.all5
    obtain ⟨q0, q1, q2, q3, q4⟩ := HW5.out.all5
    clear h0 ho hcase hlr HO4 HB4 HZ4 HW4
    go_wp2_with fail
    refine (KSame.out _ (below1 _ _)).mono ?_
    rintro e w6 ⟨rfl, hb6⟩
    have HB6 := Lib.hid (bT HB5.out hb6)
    have HU6 := Lib.hid (HU5.out.t hb6)
    have HZ6 := Lib.hid (HZ5.out.t hb6)
    have HV6 := Lib.hid (HU.out.below hb6)
    clear hb6 p0 p1 p2 p3 p4 q0 q1 q2 q3 q4 KSame HB5 HZ5 HW5 HU5 HU
    obtain ⟨p0, p1, p2, p3, p4⟩ := HU6.out.all5
    obtain ⟨q0, q1, q2, q3, q4⟩ := HZ6.out.all5
    have hsl := (HL.out.below HB6.out).2.2 (by omega)
    obtain ⟨b, off, rfl, hlt, hat⟩ := hsl
    have a0 := hat 0 (by omega) 0 _ rfl
    have a1 := hat 1 (by omega) 0 _ rfl
    simp only [Nat.zero_mul, Nat.one_mul, Nat.mul_one, Nat.add_zero] at a0 a1
    have hcase := HCASE.out
    have hul := HUL.out
    have hlr := HLRX.out
    clear HCASE HUL HLRX hat
    generalize L.getD 0 st0 = k0 at *
    generalize L.getD 1 st0 = k1 at *
    rcases hcase with ⟨rfl, rfl, hv⟩ | ⟨rfl, rfl, hv⟩ | ⟨rfl, l, hll, hv⟩ | ⟨rfl, x, hx, hv⟩ | ⟨rfl, rfl, x, hx, hv⟩
    all_goals
      rw [hv] at hul hlr HV6
      obtain ⟨u1, u2, u3⟩ := hul
      obtain ⟨l1, l2⟩ := hlr
      dsimp only at u1 u2 u3 l1 l2 HV6
      obtain ⟨e1, e2, e3⟩ := HEN.out
      clear hv
    · have hq1 : us = ns := by omega
      have hq2 : uc = nc := by omega
      have hq3 : uk = nk := by omega
      subst hq1; subst hq2; subst hq3
      clear u1 u2 u3 e1 e2 e3
      have HLR := Lib.hid l1
      have HLR2 := Lib.hid l2
      clear l1 l2
      go_wp2_with fail
      refine (KClone.out _ HB6.out).mono ?_
      rintro e w7 ⟨⟨Os, ps, Oc, pc, Ok, pk, rfl, ho7⟩, hb7⟩
      have HB7 := Lib.hid (bT HB6.out hb7)
      have u7 := HU6.out.t hb7
      have pp0 : ∀ o, (w7.alloc o).cell? ⟨w4.heap.size, 0, none⟩ = some (.slice Us us vs) := fun o => (u7.alloc o).cell 0
      have pp1 : ∀ o, (w7.alloc o).cell? ⟨w4.heap.size, 1, none⟩ = some (.slice Uc uc vc) := fun o => (u7.alloc o).cell 1
      have pp2 : ∀ o, (w7.alloc o).cell? ⟨w4.heap.size, 2, none⟩ = some (.slice Uk uk vk) := fun o => (u7.alloc o).cell 2
      have pp3 : ∀ o, (w7.alloc o).cell? ⟨w4.heap.size, 3, none⟩ = some (.int .i64 ul) := fun o => (u7.alloc o).cell 3
      have pp4 : ∀ o, (w7.alloc o).cell? ⟨w4.heap.size, 4, none⟩ = some (.int .i64 ur) := fun o => (u7.alloc o).cell 4
      have KSO : Hid (∀ W, Below w7.heap.size w7 W → Calls Tryz.prog 24 #[.agg #[.slice Us us vs, .slice Uc uc vc, .slice Uk uk vk, .int .i64 ul, .int .i64 ur], .agg #[.slice Os us ps, .slice Oc uc pc, .slice Ok uk pk, .int .i64 ul, .int .i64 ur]] W fun e w' => e = .returned (.bool true) ∧ Below W.heap.size W w') := fun W hW => by
        have v := ((HV6.out.below hb7).below hW).view
        have u := (ho7.below hW).view
        refine (tsame_p sch sch cts cts kds kds ul ur ul ur Us Uc Uk Os Oc Ok us vs uc vc uk vk us ps uc pc uk pk W v.s v.c v.k u.s u.c u.k).mono ?_
        rintro e w' ⟨r, ⟨rfl, hr⟩, hb⟩
        exact ⟨by rw [hr.2 rfl], hb⟩
      clear p0 p1 p2 p3 p4 q0 q1 q2 q3 q4 ho7 hb7 u7
      go_wp2_with fail
      go_region
      go_wp2_with fail
      refine (KSO.out _ (below1d _ _)).mono ?_
      rintro e w8 ⟨rfl, hb8⟩
      have hb9 := bT (bT HB7.out (below1d _ _)) hb8
      go_wp2_with fail
      go_ret
      exact ⟨rfl, hb9⟩
    · have hq1 : us = ns := by omega
      have hq2 : uc = nc := by omega
      have hq3 : uk = nk := by omega
      subst hq1; subst hq2; subst hq3
      clear u1 u2 u3 e1 e2 e3
      have HLR := Lib.hid l1
      have HLR2 := Lib.hid l2
      clear l1 l2
      go_wp2_with fail
      refine (KClone.out _ HB6.out).mono ?_
      rintro e w7 ⟨⟨Os, ps, Oc, pc, Ok, pk, rfl, ho7⟩, hb7⟩
      have HB7 := Lib.hid (bT HB6.out hb7)
      have u7 := HU6.out.t hb7
      have pp0 : ∀ o, (w7.alloc o).cell? ⟨w4.heap.size, 0, none⟩ = some (.slice Us us vs) := fun o => (u7.alloc o).cell 0
      have pp1 : ∀ o, (w7.alloc o).cell? ⟨w4.heap.size, 1, none⟩ = some (.slice Uc uc vc) := fun o => (u7.alloc o).cell 1
      have pp2 : ∀ o, (w7.alloc o).cell? ⟨w4.heap.size, 2, none⟩ = some (.slice Uk uk vk) := fun o => (u7.alloc o).cell 2
      have pp3 : ∀ o, (w7.alloc o).cell? ⟨w4.heap.size, 3, none⟩ = some (.int .i64 ul) := fun o => (u7.alloc o).cell 3
      have pp4 : ∀ o, (w7.alloc o).cell? ⟨w4.heap.size, 4, none⟩ = some (.int .i64 ur) := fun o => (u7.alloc o).cell 4
      have KSO : Hid (∀ W, Below w7.heap.size w7 W → Calls Tryz.prog 24 #[.agg #[.slice Us us vs, .slice Uc uc vc, .slice Uk uk vk, .int .i64 ul, .int .i64 ur], .agg #[.slice Os us ps, .slice Oc uc pc, .slice Ok uk pk, .int .i64 ul, .int .i64 ur]] W fun e w' => e = .returned (.bool true) ∧ Below W.heap.size W w') := fun W hW => by
        have v := ((HV6.out.below hb7).below hW).view
        have u := (ho7.below hW).view
        refine (tsame_p sch sch cts cts kds kds ul ur ul ur Us Uc Uk Os Oc Ok us vs uc vc uk vk us ps uc pc uk pk W v.s v.c v.k u.s u.c u.k).mono ?_
        rintro e w' ⟨r, ⟨rfl, hr⟩, hb⟩
        exact ⟨by rw [hr.2 rfl], hb⟩
      clear p0 p1 p2 p3 p4 q0 q1 q2 q3 q4 ho7 hb7 u7
      go_wp2_with fail
      go_region
      go_wp2_with fail
      refine (KSO.out _ (below1d _ _)).mono ?_
      rintro e w8 ⟨rfl, hb8⟩
      have hb9 := bT (bT HB7.out (below1d _ _)) hb8
      go_wp2_with fail
      go_ret
      exact ⟨rfl, hb9⟩
    · obtain rfl : uc = nc := by omega
      obtain rfl : uk = nk := by omega
      have hus : us = ns + 1 := by rw [u1, e1]; simp
      subst hus
      have HLR := Lib.hid l1
      have HLR2 := Lib.hid l2
      have hv := HV6.out.view.s
      obtain ⟨b2, off2, rfl, hlt2, hat2⟩ := hv.2.2 (by omega)
      obtain ⟨A3, n3, c3, cc0, hb3⟩ := hat2 ns (by omega)
      rw [show (sch ++ [l]).getD ns [] = l by rw [e1]; exact last_get sch l []] at hb3
      have hn3 : n3 = n - 1 := hb3.1.trans hll
      simp only [Nat.mul_one] at cc0
      subst hn3
      clear u1 u2 u3 e1 e2 e3 l1 l2 hv hat2 hb3 hll
      have HG := Lib.hid hlt2
      go_wp2_with fail
      go_ret
      exact ⟨ret_bool (by simp; omega), HB6.out⟩
    · obtain rfl : us = ns := by omega
      obtain rfl : uk = nk := by omega
      have huc : uc = nc + 1 := by rw [u2, e2]; simp
      subst huc
      have HLR := Lib.hid l1
      have HLR2 := Lib.hid l2
      have hv := HV6.out.view.c
      obtain ⟨b2, off2, rfl, hlt2, hat2⟩ := hv.2.2 (by omega)
      have hx0 := (hat2 nc (by omega)).1
      have vm : ((us : Int) + ((nc : Int) + 1) + (uk : Int) - (us : Int) - (nc : Int) - (uk : Int)) = 1 := by omega
      rw [show (cts ++ [x]).getD nc ct0 = x by rw [e2]; exact last_get cts x ct0, hx] at hx0
      clear u1 u2 u3 e1 e2 e3 l1 l2 hv hat2 hx
      go_wp2_with fail
      go_quiet (fail)
      go_wp2_with fail
      go_ret
      exact ⟨ret_bool (by simp), bD HB6.out _⟩
    · obtain rfl : us = ns := by omega
      obtain rfl : uc = nc := by omega
      have huk : uk = nk + 1 := by rw [u3, e3]; simp
      subst huk
      have HLR := Lib.hid l1
      have HLR2 := Lib.hid l2
      have hv := HV6.out.view.k
      obtain ⟨b2, off2, rfl, hlt2, hat2⟩ := hv.2.2 (by omega)
      have hx0 := (hat2 nk (by omega)).1
      have vm : ((us : Int) + (uc : Int) + ((nk : Int) + 1) - (us : Int) - (uc : Int) - (nk : Int)) = 1 := by omega
      rw [show (kds ++ [x]).getD nk kd0 = x by rw [e3]; exact last_get kds x kd0, hx] at hx0
      clear u1 u2 u3 e1 e2 e3 l1 l2 hv hat2 hx
      go_wp2_with fail
      go_quiet (fail)
      go_wp2_with fail
      go_ret
      exact ⟨ret_bool (by simp), bD HB6.out _⟩
--%%
end Go.Proofs.YtbliblhipecgfaaGreatDoor
