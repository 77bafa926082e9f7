/-
  Layer 7's law WordJoins: its walk. Conditions as named.
-/
import Derived.Test.YtohdmfedappenaaDoorLaw07
import Derived.Test.YtohdmfedappenaaDoorOpenZ
import Derived.Deep.QuietTactic
import Derived.BigQuiet
namespace Go.Proofs.YtohdmfedappenaaDoor
set_option linter.unusedVariables false
open Go.RowKit
--%%
/-- a slice of strings, none heavier than what is reached -/
theorem open_stsz {H : Type} {enc : TypeId × Value → H} {w : World} {r : Reach} {b0 : Nat} {v : Value} {d : DataW H} {p : List MemPlace} (hv : Value.okWide Tryd.prog w r b0 22 v) (h : DataW.Trod enc Tryd.prog w 0 (fun _ => true) true 22 v d p) (hz : ∀ n ∈ d.weights Tryd.prog 22, n ≤ 140737488351232) :
    ∃ A n c l, v = .slice A n c ∧ StSl w A n l ∧ ∀ k, k < n → (l.getD k st0).size ≤ 140737488351232 := by
  obtain ⟨m, hm⟩ := trod_slice_arg Tryd.underlying22 hv h
  obtain ⟨A, n, c, l, rfl, _, _, _, h1, h2, h3⟩ := open_sl_z (fun w b off s => RowAt stC w b off s ∧ s.size ≤ 140737488351232) 1 140737488351232 st0 (by decide) Tryd.underlying22 (by kernel_rfl) (fun b off cs m x hb hl hc hx hzx => by
    match cs, hl with
    | [a0], _ =>
      obtain ⟨s, rfl, _, hs⟩ := cell_string_z Tryd.underlying9 hx hzx
      exact ⟨s, hc, hs⟩) hm hz
  refine ⟨A, n, c, l, rfl, ⟨h1, h2, fun hn => ?_⟩, fun k hk => ?_⟩
  · obtain ⟨b, off, hA, hlt, hat⟩ := h3 hn
    exact ⟨b, off, hA, hlt, fun k hk => (hat k hk).1⟩
  · obtain ⟨b, off, hA, hlt, hat⟩ := h3 (by omega)
    exact (hat k hk).2
theorem qT_length {l : List UInt8} (h : allB shB l = true) : (qT l).length = l.length + (if bareB l = true then 0 else 2) := by
  cases hb : bareB l
  · rw [(qT_quoted h hb).2]; simp
  · rw [(qT_bare hb).2]; simp
theorem joinT_step (ws : List (List UInt8)) (k : Nat) (h : (joinT ws k).1 = 0) : joinT ws (k + 1) = if qE (ws.getD k []) ≠ 0 then (5, []) else if 512 < ((joinT ws k).2 ++ ((if k = 0 then [] else [32]) ++ qT (ws.getD k []))).length then (2, []) else (0, (joinT ws k).2 ++ ((if k = 0 then [] else [32]) ++ qT (ws.getD k []))) := by
  rw [joinT, if_neg (by simp [h])]
set_option maxRecDepth 100000 in
set_option maxHeartbeats 12800000 in
theorem wordJoins_walk (A : Option Addr) (n c : Nat) (L : List ByteArray) (w : World) (hl : StSl w A n L ∧ ∀ k, k < n → (L.getD k st0).size ≤ 140737488351232) (hm : ML w) :
    Calls Tryd.prog 3 #[.slice A n c] w fun e w' => e = .returned (.bool true) ∧ Below w.heap.size w w' := by
  have HM := Lib.hid hm
  clear hm
  obtain ⟨hl, hsz⟩ := hl
  have hn9 := hl.2.1
  by_cases h60 : 60 < n
  · have v : decide ((60 : Int) < (n : Int)) = true := by simp; omega
    clear hl hsz
    go_enter Tryd.func3, Tryd.ntmps3
    go_wp2_with fail
    refine (reads_c _ HM.out).mono ?_
    rintro e w1 ⟨rfl, hb1⟩
    go_wp2_with fail
    go_ret
    exact ⟨rfl, hb1⟩
  have v : decide ((60 : Int) < (n : Int)) = false := by simp; omega
  obtain ⟨ws, hws⟩ : ∃ ws, ws = L.map fun s => s.data.toList := ⟨_, rfl⟩
  obtain ⟨re, rt, HR⟩ : ∃ (re : Int) (rt : List UInt8), Hid ((re, rt) = joinR ws) := ⟨(joinR ws).1, (joinR ws).2, rfl⟩
  have HR0 : Hid ((re, rt) = joinR (L.map fun s => s.data.toList)) := by rw [← hws]; exact HR
  have hn : n = ws.length := by rw [hws, List.length_map]; exact hl.1
  have HW : Hid (∀ k, k < n → ws.getD k [] = (L.getD k st0).data.toList) := fun k hk => by
    have h1 : k < L.length := by rw [← hl.1]; exact hk
    rw [hws]; simp [List.getD, h1]
  have HSL := Lib.hid hl
  have HSZ := Lib.hid hsz
  have KJ := Lib.hid (fun W h => join_c A n c L W h hsz (re, rt) HR0)
  have HN := Lib.hid hn
  clear hsz hws hn HR0
  by_cases h32 : 32 < n
  · have v2 : decide ((32 : Int) < (n : Int)) = true := by simp; omega
    have e : (re, rt) = (2, []) := by rw [HR.out]; unfold joinR; rw [if_pos (by rw [← HN.out]; exact h32)]
    injection e with e1 e2
    subst e1; subst e2
    clear HR hl
    go_enter Tryd.func3, Tryd.ntmps3
    go_wp2_with fail
    refine (reads_c _ HM.out).mono ?_
    rintro e w1 ⟨rfl, hb1⟩
    go_wp2_with fail
    refine (KJ.out _ (HSL.out.below hb1)).mono ?_
    rintro e w2 ⟨rfl, hb2⟩
    go_wp2_with fail
    go_ret
    exact ⟨rfl, bT hb1 hb2⟩
  have v2 : decide ((32 : Int) < (n : Int)) = false := by simp; omega
  have HR2 : Hid ((re, rt) = joinT ws n) := by unfold Hid; rw [HR.out]; unfold joinR; rw [if_neg (by rw [← HN.out]; exact h32), ← HN.out]
  have HST : Hid (∀ k, k ≤ n → (joinT ws k).1 ≠ 0 → (re, rt) = joinT ws k) := fun k hk h => by rw [HR2.out]; exact joinT_stick ws k h n hk
  have HJS := Lib.hid (joinT_step ws)
  have HJO : Hid (∀ k, k ≤ n → (joinT ws k).1 = 0 → (joinT ws k).2.length ≤ 512) := fun k hk h => (joinT_ok ws k (by rw [← HN.out]; exact hk) h).2.2
  have HCJ : Hid ((joinT ws n).1 = 0 → cutR (joinT ws n).2 = (0, ws)) := fun h => by
    have := cut_joined ws (by rw [← HN.out]; omega) (by rw [← HN.out]; exact h)
    rwa [← HN.out] at this
  clear HR hl
  go_enter Tryd.func3, Tryd.ntmps3
  go_wp2_with fail
  refine (reads_c _ HM.out).mono ?_
  rintro e w1 ⟨rfl, hb1⟩
  go_wp2_with fail
  refine (KJ.out _ (HSL.out.below hb1)).mono ?_
  rintro e w2 ⟨rfl, hb2⟩
  have hB2 := bT hb1 hb2
  have HSL2 := Lib.hid (HSL.out.below hB2)
  clear KJ HSL
  go_wp2_with fail
  go_loop [5, 34] (fun z i => ∃ k : Nat, k ≤ n ∧ i = .int .i64 k ∧ z = .int .i64 ((joinT ws k).2.length : Nat) ∧ Hid ((joinT ws k).1 = 0)) (fun _ i => n - (intOf i).toNat)
  case atStart => exact ⟨0, Nat.zero_le _, rfl, rfl, rfl⟩
  case round =>
    obtain ⟨k, hk', rfl, rfl, HA⟩ := hrel
    by_cases hk : k < n
    case neg =>
      obtain rfl : k = n := by omega
      have hJn := HR2.out
      have hA0 := HA.out
      have ere : re = 0 := by rw [← hA0, ← hJn]
      have ert : (joinT ws k).2 = rt := by rw [← hJn]
      have hlo := HJO.out k (Nat.le_refl _) hA0
      have hcj := HCJ.out hA0
      rw [ert] at hlo hcj ⊢
      subst ere
      have hrz : (⟨rt.toArray⟩ : ByteArray).size = rt.length := by show rt.toArray.size = _; simp
      have KC := Lib.hid (fun W => cut_c (⟨rt.toArray⟩ : ByteArray) W (by omega) (0, ws) (Lib.hid (by show _ = cutR (rt.toArray.toList); rw [List.toList_toArray, hcj])))
      have HRZ := Lib.hid hrz
      clear hJn hA0 ert hlo hcj HA HR2 HCJ hrz
      generalize (⟨rt.toArray⟩ : ByteArray) = sb at *
      have hrz := HRZ.out
      go_wp2_with fail
      refine (KC.out _).mono ?_
      rintro e w4 ⟨⟨_, v4, rfl, ho⟩ | ⟨hc, _⟩, hb4⟩
      case inr => exact absurd rfl hc
      have ho2 : OwnSt w4 w2.heap.size v4 k (ws.map mkB) := by
        have := ho
        rwa [show ((0, ws) : Int × List (List UInt8)).2.length = k from HN.out.symm] at this
      obtain ⟨A4, c4, rfl, hs4⟩ := OwnSt.sl ho2
      have hB4 := bT hB2 hb4
      have HS4 := Lib.hid hs4
      have HSL4 := Lib.hid (HSL2.out.below hb4)
      have HWE : Hid (∀ j, j < k → (ws.map mkB).getD j st0 = L.getD j st0) := fun j hj => by
        have h1 : j < ws.length := by rw [← HN.out]; exact hj
        have h2 := HW.out j hj
        rw [show ws.getD j [] = ws[j] by simp [List.getD, h1]] at h2
        rw [show (ws.map mkB).getD j st0 = mkB ws[j] by simp [List.getD, h1], h2]
        rfl
      clear ho ho2 hs4 HSL2 HW HN KC
      go_wp2_with fail
      go_loopw [114] (fun i wr => ∃ j : Nat, j ≤ k ∧ i = .int .i64 j ∧ Below w4.heap.size w4 wr) (fun i _ => k - (intOf i).toNat)
      case atStart => exact ⟨0, Nat.zero_le _, rfl, b0 _⟩
      case round =>
        obtain ⟨j, hj', rfl, hbl⟩ := hrel
        by_cases hj : j < k
        case neg =>
          obtain rfl : j = k := by omega
          go_wp2_with fail
          go_ret
          exact ⟨rfl, bT hB4 hbl⟩
        obtain ⟨b, off, rfl, hlt, hat⟩ := (HSL4.out.below hbl).2.2 (by omega)
        obtain ⟨b4, off4, rfl, hlt4, hat4⟩ := (HS4.out.below hbl).2.2 (by omega)
        have c0 : wr.cell? ⟨b, off + j, none⟩ = some (.string (L.getD j st0)) := by
          have := hat j hj 0 _ rfl
          simpa using this
        have c4 : wr.cell? ⟨b4, off4 + j, none⟩ = some (.string (L.getD j st0)) := by
          have := hat4 j hj 0 _ rfl
          rw [HWE.out j hj] at this
          simpa using this
        generalize L.getD j st0 = x at *
        have xx : x.toList = x.toList := rfl
        clear hat hat4
        go_wp2_with fail
        go_quiet (fail)
        go_wp2_with fail
        go_roundw
        case rel => exact ⟨j + 1, by omega, by go_num, bD hbl _⟩
        case measure => simp [intOf]; omega
    obtain ⟨b, off, rfl, hlt, hat⟩ := HSL2.out.2.2 (by omega)
    have c0 : w2.cell? ⟨b, off + k, none⟩ = some (.string (L.getD k st0)) := by
      have := hat k hk 0 _ rfl
      simpa using this
    have hz := HSZ.out k hk
    have hj1 := HJO.out k hk' HA.out
    have HJ1 := Lib.hid (HJS.out k HA.out)
    rw [HW.out k hk] at HJ1
    have HS1 := Lib.hid (HST.out (k + 1) (by omega))
    have HGX : Hid (∀ i (h : i < (L.getD k st0).size), (((L.getD k st0)[i]).toNat : Int) = gB (L.getD k st0).data.toList i) := fun i h => byte_gB _ i h
    generalize L.getD k st0 = x at *
    by_cases h600 : 600 < x.size
    · have v3 : decide ((600 : Int) < (x.size : Int)) = true := by simp; omega
      clear hat h600
      go_wp2_with fail
      go_ret
      exact ⟨rfl, hB2⟩
    have v3 : decide ((600 : Int) < (x.size : Int)) = false := by simp; omega
    obtain ⟨l, hl⟩ : ∃ l, l = x.data.toList := ⟨_, rfl⟩
    have hlx : l.length = x.size := by rw [hl]; simp
    rw [← hl] at HJ1 HGX
    obtain ⟨mk, hmk, hmk1⟩ : ∃ mk : Nat, (if k = 0 then [] else [32] : List UInt8).length = mk ∧ min (k : Int) 1 = (mk : Int) := by
      by_cases h : k = 0
      · exact ⟨0, by rw [if_pos h]; rfl, by omega⟩
      · exact ⟨1, by rw [if_neg h]; rfl, by omega⟩
    have hmk2 : mk ≤ 1 := by rw [← hmk]; split <;> simp
    obtain ⟨bs, hbs⟩ : ∃ bs, bs = (joinT ws k).2 := ⟨_, rfl⟩
    rw [← hbs] at HJ1 hj1 ⊢
    have HYES : Hid (allB shB l = true → ∀ N : Nat, N = bs.length + (x.size + mk) + (if bareB l = true then 0 else 2) → (512 < N → (re, rt) = (2, [])) ∧ (¬ 512 < N → (joinT ws (k + 1)).1 = 0 ∧ (joinT ws (k + 1)).2.length = N)) := fun hsh N hN => by
      have e0 : qE l = 0 := by unfold qE; rw [if_pos hsh]
      have hJ := HJ1.out
      rw [if_neg (by rw [e0]; simp)] at hJ
      have hlen : (bs ++ ((if k = 0 then [] else [32]) ++ qT l)).length = N := by
        rw [List.length_append, List.length_append, hmk, qT_length hsh, hlx, hN]; omega
      rw [hlen] at hJ
      constructor
      · intro h; rw [if_pos h] at hJ; exact (HS1.out (by rw [hJ]; decide)).trans hJ
      · intro h; rw [if_neg h] at hJ; rw [hJ]; exact ⟨rfl, hlen⟩
    have HNO : Hid (∀ j, j < x.size → shB (gB l j) = false → (re, rt) = (5, [])) := fun j hj h => by
      have hn := allB_no (l := l) (by omega) h
      have hJ := HJ1.out
      rw [if_pos (by unfold qE; rw [if_neg (by simp [hn])]; decide)] at hJ
      exact (HS1.out (by rw [hJ]; decide)).trans hJ
    have HSP : Hid (∀ j, j < x.size → allB plB (l.take (j + 1)) = (allB plB (l.take j) && plB (gB l j))) := fun j hj => allB_succ plB l j (by omega)
    have HSS : Hid (∀ j, j < x.size → allB shB (l.take (j + 1)) = (allB shB (l.take j) && shB (gB l j))) := fun j hj => allB_succ shB l j (by omega)
    have HLX := Lib.hid hlx
    have HBS := Lib.hid hbs
    have HMK := Lib.hid hmk1
    clear hat hl hlx hbs hmk hmk1 HJ1 HS1 h600
    by_cases h0 : x.size = 0
    · obtain ⟨f1, f2⟩ := str_none x h0
      have hl0 : l = [] := List.length_eq_zero_iff.1 (by rw [HLX.out]; exact h0)
      have HSH : Hid (allB shB l = true) := by rw [hl0]; rfl
      have HBB : Hid (bareB l = false) := by rw [hl0]; rfl
      have v0 : (x.size : Int) = 0 := by omega
      clear hl0
      go_wp2_with fail
      go_loop [8, 46] (fun b i => i = .int .i64 0 ∧ b = .bool false) (fun _ _ => 0)
      case atStart => exact ⟨rfl, rfl⟩
      case round =>
        obtain ⟨rfl, rfl⟩ := hrel
        have hmin := HMK.out
        have HY := Lib.hid (HYES.out HSH.out (bs.length + (x.size + mk) + 2) (by rw [HBB.out, if_neg (by decide)]))
        by_cases h512 : 512 < bs.length + (x.size + mk) + 2
        · have e := HY.out.1 h512
          injection e with e1 e2
          subst e1; subst e2
          have v5 : decide ((512 : Int) < (bs.length : Int) + (mk : Int) + 2) = true := by simp; omega
          clear h512
          go_wp2_with fail
          go_ret
          exact ⟨rfl, hB2⟩
        · obtain ⟨e1, e2⟩ := HY.out.2 h512
          have HE1 := Lib.hid e1
          have HE2 := Lib.hid e2
          have v5 : decide ((512 : Int) < (bs.length : Int) + (mk : Int) + 2) = false := by simp; omega
          clear e1 e2 h512
          go_wp2_with fail
          go_round
          case rel => exact ⟨k + 1, by omega, by go_num, by rw [HE2.out]; go_num, HE1.out⟩
          case measure => simp [intOf]; omega
    obtain ⟨f1, f2⟩ := str_facts x h0
    have HBR : Hid (bareB l = allB plB l) := by
      have : l ≠ [] := by rintro rfl; exact h0 (by rw [← HLX.out]; rfl)
      unfold Hid bareB; simp [this]
    go_wp2_with fail
    go_loop [8, 46] (fun b i => ∃ j : Nat, j ≤ x.size ∧ i = .int .i64 j ∧ b = .bool (allB plB (l.take j)) ∧ Hid (allB shB (l.take j) = true)) (fun _ i => x.size - (intOf i).toNat)
    case atStart => exact ⟨0, Nat.zero_le _, rfl, rfl, rfl⟩
    case round =>
      obtain ⟨j, hj', rfl, rfl, HAJ⟩ := hrel
      by_cases hj : j < x.size
      · have hbg := HGX.out j hj
        have HSS1 := Lib.hid (HSS.out j hj)
        have HSP1 := Lib.hid (HSP.out j hj)
        have HNO1 := Lib.hid (HNO.out j hj)
        have KS := Lib.hid (rshown_c (gB l j))
        have KP := Lib.hid (rplain_c (gB l j))
        generalize gB l j = cb at *
        cases hc : shB cb
        · have e := HNO1.out hc
          injection e with e1 e2
          subst e1; subst e2
          rw [hc] at KS
          clear hc HSS1 HSP1 HNO1
          go_wp2_with fail
          refine (KS.out _).mono ?_
          rintro e w3 ⟨rfl, rfl⟩
          go_wp2_with fail
          go_ret
          exact ⟨rfl, hB2⟩
        rw [hc] at KS HSS1
        have HA2 : Hid (allB shB (l.take (j + 1)) = true) := by unfold Hid; rw [HSS1.out, HAJ.out]; rfl
        generalize allB plB (l.take j) = bv at *
        clear hc HSS1 HAJ HNO1
        cases bv
        · have HP2 : Hid (allB plB (l.take (j + 1)) = false) := HSP1.out
          go_wp2_with fail
          refine (KS.out _).mono ?_
          rintro e w3 ⟨rfl, rfl⟩
          go_wp2_with fail
          go_round
          case rel => exact ⟨j + 1, by omega, by go_num, by rw [HP2.out], HA2.out⟩
          case measure => simp [intOf]; omega
        · have HP2 : Hid (allB plB (l.take (j + 1)) = plB cb) := HSP1.out
          generalize plB cb = pb at *
          go_wp2_with fail
          refine (KS.out _).mono ?_
          rintro e w3 ⟨rfl, rfl⟩
          go_wp2_with fail
          refine (KP.out _).mono ?_
          rintro e w3 ⟨rfl, rfl⟩
          go_wp2_with fail
          go_round
          case rel => exact ⟨j + 1, by omega, by go_num, by rw [HP2.out], HA2.out⟩
          case measure => simp [intOf]; omega
      obtain rfl : j = x.size := by omega
      have ht : l.take x.size = l := by rw [← HLX.out]; exact List.take_length
      rw [ht] at HAJ ⊢
      have HSH := HAJ
      have hmin := HMK.out
      have hbb := HBR.out
      cases hp : allB plB l
      · have HBB : Hid (bareB l = false) := hbb.trans hp
        clear hp hbb ht HAJ
        have HY := Lib.hid (HYES.out HSH.out (bs.length + (x.size + mk) + 2) (by rw [HBB.out, if_neg (by decide)]))
        by_cases h512 : 512 < bs.length + (x.size + mk) + 2
        · have e := HY.out.1 h512
          injection e with e1 e2
          subst e1; subst e2
          have v5 : decide ((512 : Int) < (bs.length : Int) + ((x.size : Int) + (mk : Int)) + 2) = true := by simp; omega
          clear h512
          go_wp2_with fail
          go_ret
          exact ⟨rfl, hB2⟩
        · obtain ⟨e1, e2⟩ := HY.out.2 h512
          have HE1 := Lib.hid e1
          have HE2 := Lib.hid e2
          have v5 : decide ((512 : Int) < (bs.length : Int) + ((x.size : Int) + (mk : Int)) + 2) = false := by simp; omega
          clear e1 e2 h512
          go_wp2_with fail
          go_round
          case rel => exact ⟨k + 1, by omega, by go_num, by rw [HE2.out]; go_num, HE1.out⟩
          case measure => simp [intOf]; omega
      · have HBB : Hid (bareB l = true) := hbb.trans hp
        clear hp hbb ht HAJ
        have HY := Lib.hid (HYES.out HSH.out (bs.length + (x.size + mk) + 0) (by rw [HBB.out, if_pos rfl]))
        by_cases h512 : 512 < bs.length + (x.size + mk) + 0
        · have e := HY.out.1 h512
          injection e with e1 e2
          subst e1; subst e2
          have v5 : decide ((512 : Int) < (bs.length : Int) + ((x.size : Int) + (mk : Int))) = true := by simp; omega
          clear h512
          go_wp2_with fail
          go_ret
          exact ⟨rfl, hB2⟩
        · obtain ⟨e1, e2⟩ := HY.out.2 h512
          have HE1 := Lib.hid e1
          have HE2 := Lib.hid e2
          have v5 : decide ((512 : Int) < (bs.length : Int) + ((x.size : Int) + (mk : Int))) = false := by simp; omega
          clear e1 e2 h512
          go_wp2_with fail
          go_round
          case rel => exact ⟨k + 1, by omega, by go_num, by rw [HE2.out]; go_num, HE1.out⟩
          case measure => simp [intOf]; omega
--%%
end Go.Proofs.YtohdmfedappenaaDoor
