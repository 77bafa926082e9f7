/-
  Layer 11's law ElementSums: its walk. Conditions as named.
-/
import Derived.Test.YtbpdgkaohfmabaaDoorLaw11
namespace Go.Proofs.YtbpdgkaohfmabaaDoor
set_option linter.unusedVariables false
open Go.RowKit
/-- no two of one kind -/
def Uq (S : List Sm) : Prop := ∀ i j, i < S.length → j < S.length → (S.getD i sm0).k = (S.getD j sm0).k → i = j
theorem sFind_lt {S : List Sm} {zk : ByteArray} (h : sFind S zk < S.length) : (S.getD (sFind S zk) sm0).k = zk := by
  unfold sFind at h ⊢
  have := List.findIdx_getElem (w := h)
  simp [List.getD, List.getElem?_eq_getElem h] at this ⊢
  exact this
theorem sFind_ge {S : List Sm} {zk : ByteArray} (h : ¬ sFind S zk < S.length) : ∀ j, j < S.length → (S.getD j sm0).k ≠ zk := by
  intro j hj e
  apply h
  unfold sFind
  refine List.findIdx_lt_length.2 ⟨S[j], List.getElem_mem hj, ?_⟩
  simpa [List.getD, List.getElem?_eq_getElem hj] using e
theorem uq_put {S : List Sm} (h : Uq S) (zk : ByteArray) (v : Int) : Uq (smPut S zk v) := by
  unfold smPut
  split
  · rename_i hlt
    have hk := sFind_lt hlt
    have e : ∀ i, i < S.length → ((S.set (sFind S zk) ⟨zk, v⟩).getD i sm0).k = (S.getD i sm0).k := by
      intro i hi
      by_cases hq : i = sFind S zk
      · subst hq; rw [hk]; simp [List.getD, hlt]
      · simp [List.getD, Ne.symm hq]
    intro i j hi hj hij
    rw [List.length_set] at hi hj
    rw [e i hi, e j hj] at hij
    exact h i j hi hj hij
  · rename_i hge
    have hno := sFind_ge hge
    have e : ∀ i, i < S.length → ((S ++ [Sm.mk zk v]).getD i sm0) = (S.getD i sm0) := by
      intro i hi; simp [List.getD, List.getElem?_append_left hi]
    have e2 : ((S ++ [Sm.mk zk v]).getD S.length sm0) = Sm.mk zk v := by simp [List.getD]
    intro i j hi hj hij
    simp at hi hj
    rcases (by omega : i < S.length ∨ i = S.length) with hi | rfl
    · rcases (by omega : j < S.length ∨ j = S.length) with hj | rfl
      · rw [e i hi, e j hj] at hij; exact h i j hi hj hij
      · rw [e i hi, e2] at hij; exact absurd hij (hno i hi)
    · rcases (by omega : j < S.length ∨ j = S.length) with hj | rfl
      · rw [e j hj, e2] at hij; exact absurd hij.symm (hno j hj)
      · rfl
theorem uq_T (L : List El) : ∀ k, Uq (smT L k) := by
  intro k
  induction k with
  | zero => intro i j hi; simp [smT] at hi
  | succ k ih => exact uq_put ih _ _
/-- the last of a kind among the first j -/
def atV (S : List Sm) (zk : ByteArray) : Nat → Int
  | 0 => -1
  | j + 1 => if (S.getD j sm0).k = zk then (j : Int) else atV S zk j
theorem atV_all {S : List Sm} (h : Uq S) (zk : ByteArray) : atV S zk S.length = if sFind S zk < S.length then (sFind S zk : Int) else -1 := by
  by_cases hf : sFind S zk < S.length
  · rw [if_pos hf]
    have hk := sFind_lt hf
    have key : ∀ j, j ≤ S.length → atV S zk j = if sFind S zk < j then (sFind S zk : Int) else -1 := by
      intro j
      induction j with
      | zero => intro _; simp [atV]
      | succ j ih =>
        intro hj
        rw [atV, ih (by omega)]
        by_cases e : (S.getD j sm0).k = zk
        · have := h j _ (by omega) hf (by rw [e, hk])
          rw [if_pos e, if_pos (by omega), this]
        · rw [if_neg e]
          have : sFind S zk ≠ j := by rintro rfl; exact e hk
          by_cases h2 : sFind S zk < j
          · rw [if_pos h2, if_pos (by omega)]
          · rw [if_neg h2, if_neg (by omega)]
    rw [key _ (Nat.le_refl _), if_pos hf]
  · rw [if_neg hf]
    have hno := sFind_ge hf
    have key : ∀ j, j ≤ S.length → atV S zk j = -1 := by
      intro j
      induction j with
      | zero => intro _; rfl
      | succ j ih => intro hj; rw [atV, if_neg (hno j (by omega)), ih (by omega)]
    exact key _ (Nat.le_refl _)
theorem sums_x {L : List El} {n : Nat} {w w' : World} {e : Ending} (h : SumsR L n w e w') : ∃ (B : Option Addr) (m c : Nat) (ee : Int), e = .returned (.tuple #[.slice B m c, .int .i64 ee]) ∧
    (∀ k, k < n → (∀ j, j < k → smE L j = 0) → smE L k ≠ 0 → ee = smE L k ∧ m = 0) ∧ ((∀ k, k < n → smE L k = 0) → ee = 0 ∧ m = (smT L n).length ∧ SmSl w' B m (smT L n)) ∧ Below w.heap.size w w' := by
  obtain ⟨⟨h0, v, rfl, ho⟩ | ⟨k, hk, hj, hne, rfl⟩, hb⟩ := h
  · obtain ⟨B, c, rfl⟩ := own_slice ho.2
    exact ⟨B, _, c, 0, rfl, fun k hk _ hn => absurd (h0 k hk) hn, fun _ => ⟨rfl, rfl, OwnSm.rows ho⟩, hb⟩
  · refine ⟨none, 0, 0, smE L k, rfl, fun q hq hqj hqn => ⟨?_, rfl⟩, fun h => absurd (h k hk) hne, hb⟩
    rcases (by omega : q < k ∨ q = k ∨ k < q) with h | rfl | h
    · exact absurd (hj q h) hqn
    · rfl
    · exact absurd (hqj k h) hne
--%%
set_option maxRecDepth 100000 in
set_option maxHeartbeats 12800000 in
theorem elementSums_walk (A : Option Addr) (n c : Nat) (L : List El) (w : World) (hl : ElSl w A n L) (htab : Tab w) :
    Calls Tryd.prog 5 #[.slice A n c] w fun e w' => e = .returned (.bool true) ∧ Below w.heap.size w w' := by
  have HT := Lib.hid htab
  have HL := Lib.hid hl
  have hn9 := hl.2.1
  clear htab hl
  by_cases hn40 : 40 < n
  · have v1 : decide ((40 : Int) < (n : Int)) = true := by simp; omega
    go_enter Tryd.func5, Tryd.ntmps5
    go_wp2_with fail
    refine (worths_c _ HT.out).mono ?_
    rintro e w1 ⟨rfl, hb1⟩
    go_wp2_with fail
    go_ret
    exact ⟨rfl, hb1⟩
  have v1 : decide ((40 : Int) < (n : Int)) = false := by simp; omega
  have KC := Lib.hid (fun W h => (esums_c A n c L W h (by omega)).mono fun _ _ h => sums_x h)
  have H0 : Hid (smT L 0 = []) := rfl
  go_enter Tryd.func5, Tryd.ntmps5
  go_wp2_with fail
  refine (worths_c _ HT.out).mono ?_
  rintro e w1 ⟨rfl, hb1⟩
  go_wp2_with fail
  refine (KC.out _ (HL.out.below hb1)).mono ?_
  rintro e w2 ⟨B, m, c', ee, rfl, hE1, hE2, hb2⟩
  have HE1 := Lib.hid hE1
  have HE2 := Lib.hid hE2
  have hB2 := bT hb1 hb2
  clear hE1 hE2 KC
  go_wp2_with fail
  go_loopw [5, 26] (fun v i wr => ∃ k : Nat, k ≤ n ∧ i = .int .i64 k ∧ OwnSm wr w2.heap.size v (smT L k).length (smT L k) ∧ Hid (∀ j, j < k → smE L j = 0) ∧ Hid (∀ q, mrB ((smT L k).getD q sm0).v = true) ∧ Below w2.heap.size w2 wr) (fun _ i _ => n - (intOf i).toNat)
  case atStart => exact ⟨0, Nat.zero_le _, rfl, by rw [H0.out]; exact ⟨rfl, World.ownsRow_nil _ _ _ _⟩, fun j hj => absurd hj (by omega), fun q => by rw [H0.out]; rfl, b0 _⟩
  case round =>
    obtain ⟨k, hk', rfl, ho, HE, HM, hbl⟩ := hrel
    have hBl := bT hB2 hbl
    have hsz := hBl.size
    have HOL := Lib.hid (smT_len L k)
    have HUQ := Lib.hid (uq_T L k)
    obtain ⟨Bo, co, rfl⟩ := own_slice ho.2
    by_cases hk : k < n
    case neg =>
      obtain rfl : k = n := by omega
      obtain ⟨rfl, rfl, hs⟩ := HE2.out HE.out
      have HS := Lib.hid hs
      have HSO := Lib.hid (OwnSm.rows ho)
      have hcl := HOL.out
      generalize smT L k = S at *
      have v3 : ((S.length : Int) != (S.length : Int)) = false := by simp
      clear ho hs
      go_wp2_with fail
      obtain ⟨wo, hwo⟩ : ∃ wo : World, wo = wr := ⟨_, rfl⟩
      subst hwo
      go_loopw [111] (fun i wr => ∃ j : Nat, j ≤ S.length ∧ i = .int .i64 j ∧ Below wo.heap.size wo wr) (fun i _ => S.length - (intOf i).toNat)
      case atStart => exact ⟨0, Nat.zero_le _, rfl, b0 _⟩
      case round =>
        obtain ⟨j, hj', rfl, hbl2⟩ := hrel
        by_cases hj : j < S.length
        · obtain ⟨b, off, rfl, hlt, hat⟩ := (HS.out.below (bT hbl hbl2)).2.2 (by omega)
          obtain ⟨b2, off2, rfl, hlt2, hat2⟩ := (HSO.out.below hbl2).2.2 (by omega)
          have hc := hat j hj
          have hc2 := hat2 j hj
          generalize S.getD j sm0 = zz at *
          obtain ⟨zk, zv⟩ := zz
          obtain ⟨c0, c1⟩ : wr.cell? ⟨b, off + j * 2, none⟩ = some (.string zk) ∧ wr.cell? ⟨b, off + j * 2 + 1, none⟩ = some (.int .i64 zv) := ⟨hc 0 _ rfl, hc 1 _ rfl⟩
          obtain ⟨d0, d1⟩ : wr.cell? ⟨b2, off2 + j * 2, none⟩ = some (.string zk) ∧ wr.cell? ⟨b2, off2 + j * 2 + 1, none⟩ = some (.int .i64 zv) := ⟨hc2 0 _ rfl, hc2 1 _ rfl⟩
          have kk0 : (0 : Int) ≤ (j : Int) := by omega
          have kk1 : (j : Int) < (S.length : Int) := by omega
          have kk2 : ((j : Int)).toNat = j := by omega
          clear hc hc2 hat hat2
          go_wp2_with fail
          go_quiet (fail)
          go_wp2_with fail
          go_roundw
          case rel => exact ⟨j + 1, by omega, by go_num, bD hbl2 _⟩
          case measure => simp [intOf]; omega
        obtain rfl : j = S.length := by omega
        go_wp2_with fail
        go_ret
        exact ⟨rfl, bT hBl hbl2⟩
    obtain ⟨b, off, rfl, hlt, hat⟩ := (HL.out.below hBl).2.2 (by omega)
    have hc := hat k hk
    have HS : Hid (smT L (k + 1) = smPut (smT L k) (L.getD k el0).k (smAt (smT L k) (L.getD k el0).k + elV (L.getD k el0).a (L.getD k el0).u)) := rfl
    have HEK : Hid (smE L k = if elE (L.getD k el0).a (L.getD k el0).u ≠ 0 then elE (L.getD k el0).a (L.getD k el0).u else if mrB (smAt (smT L k) (L.getD k el0).k + elV (L.getD k el0).a (L.getD k el0).u) = true then 0 else 10) := rfl
    have HN : Hid (smE L k = 0 → ∀ j, j < k + 1 → smE L j = 0) := fun h j hj => by
      rcases (by omega : j = k ∨ j < k) with rfl | hj
      · exact h
      · exact HE.out j hj
    have HX : Hid (smE L k ≠ 0 → ee = smE L k ∧ m = 0) := fun h => HE1.out k hk HE.out h
    have hcl := HOL.out
    have HAV := Lib.hid (fun zk => atV_all HUQ.out zk)
    generalize smT L k = S at *
    generalize L.getD k el0 = zz at *
    obtain ⟨zk, za, zu⟩ := zz
    dsimp only at HS HEK
    obtain ⟨c0, c1, c2⟩ : wr.cell? ⟨b, off + k * 3, none⟩ = some (.string zk) ∧ wr.cell? ⟨b, off + k * 3 + 1, none⟩ = some (.int .i64 za) ∧ wr.cell? ⟨b, off + k * 3 + 2, none⟩ = some (.int .i64 zu) := ⟨hc 0 _ rfl, hc 1 _ rfl, hc 2 _ rfl⟩
    have hbx := bA hBl (.cells #[.string zk, .int .i64 za, .int .i64 zu] 23)
    have hbx2 := bA hbl (.cells #[.string zk, .int .i64 za, .int .i64 zu] 23)
    have y := Blk.mk wr 23 #[.string zk, .int .i64 za, .int .i64 zu]
    have HO := Lib.hid (show OwnSm (wr.alloc (.cells #[.string zk, .int .i64 za, .int .i64 zu] 23)) w2.heap.size (.slice Bo S.length co) S.length S from ⟨rfl, ho.2.alloc _⟩)
    have HMV : Hid (elE za zu = 0 → mrB (elV za zu) = true) := fun h => by
      unfold elV; rw [if_pos h]; unfold elE at h
      split at h
      · cases h
      · split at h
        · cases h
        · split at h
          · assumption
          · cases h
    have KV := Lib.hid (fun W => evalue_c zk za zu W _ _ rfl rfl)
    generalize elE za zu = fe at *
    generalize elV za zu = ev at *
    obtain ⟨⟨q0, q1, q2⟩, f0, f1, f2⟩ := y.a3f
    clear ho hc hat HOL
    by_cases h1 : fe = 0
    case neg =>
      have v4 : (fe != 0) = true := by simpa using h1
      have e1 : smE L k = fe := HEK.out.trans (if_pos h1)
      obtain ⟨rfl, rfl⟩ := HX.out (by rw [e1]; exact h1)
      subst e1
      clear h1 HE1 HE2 HEK HN HX
      go_wp2_with fail
      refine (KV.out _).mono ?_
      rintro e w3 ⟨rfl, hb3⟩
      go_wp2_with fail
      go_ret
      exact ⟨rfl, bT hbx hb3⟩
    subst h1
    have hmv := HMV.out rfl
    have HEK2 : Hid (smE L k = if mrB (smAt S zk + ev) = true then 0 else 10) := HEK.out.trans (if_neg (by simp))
    clear HMV HEK
    go_wp2_with fail
    refine (KV.out _).mono ?_
    rintro e w3 ⟨rfl, hb3⟩
    have hby := bT hbx hb3
    have hby2 := bT hbx2 hb3
    have HO2 := Lib.hid (show OwnSm w3 w2.heap.size (.slice Bo S.length co) S.length S from ⟨rfl, own_below HO.out.2 hb3⟩)
    have HSR := Lib.hid (OwnSm.rows HO2.out)
    have y3 := y.t hb3
    clear HO q0 q1 q2 f0 f1 f2 c0 c1 c2
    go_wp2_with fail
    obtain ⟨wo, hwo⟩ : ∃ wo : World, wo = wr := ⟨_, rfl⟩
    subst hwo
    go_loopw [10, 47] (fun at' i wr => ∃ j : Nat, j ≤ S.length ∧ i = .int .i64 j ∧ at' = .int .i64 (atV S zk j) ∧ Below w3.heap.size w3 wr) (fun _ i _ => S.length - (intOf i).toNat)
    case atStart => exact ⟨0, Nat.zero_le _, rfl, rfl, b0 _⟩
    case round =>
      obtain ⟨j, hj', rfl, rfl, hbl2⟩ := hrel
      by_cases hj : j < S.length
      · obtain ⟨b, off, rfl, hlt, hat⟩ := (HSR.out.below hbl2).2.2 (by omega)
        have hc := hat j hj
        have HAS : Hid (atV S zk (j + 1) = if (S.getD j sm0).k = zk then (j : Int) else atV S zk j) := rfl
        generalize S.getD j sm0 = zz at *
        obtain ⟨sk, sv⟩ := zz
        dsimp only at HAS
        obtain ⟨c0, c1⟩ : wr.cell? ⟨b, off + j * 2, none⟩ = some (.string sk) ∧ wr.cell? ⟨b, off + j * 2 + 1, none⟩ = some (.int .i64 sv) := ⟨hc 0 _ rfl, hc 1 _ rfl⟩
        have hbx3 := bA hbl2 (.cells #[.string sk, .int .i64 sv] 41)
        have y4 := (y3.t hbl2).alloc (.cells #[.string sk, .int .i64 sv] 41)
        have q0 := y4.cell 0
        generalize atV S zk j = av at *
        clear hc hat
        by_cases he : sk = zk
        · subst he
          have v4 : (sk.toList == sk.toList) = true := by simp
          have HA2 : Hid (atV S sk (j + 1) = (j : Int)) := HAS.out.trans (if_pos rfl)
          clear HAS
          go_wp2_with fail
          go_roundw
          case rel => exact ⟨j + 1, by omega, by go_num, by rw [HA2.out], hbx3⟩
          case measure => simp [intOf]; omega
        · have v4 := str_neq he
          have HA2 : Hid (atV S zk (j + 1) = av) := HAS.out.trans (if_neg he)
          clear HAS he
          go_wp2_with fail
          go_roundw
          case rel => exact ⟨j + 1, by omega, by go_num, by rw [HA2.out], hbx3⟩
          case measure => simp [intOf]; omega
      obtain rfl : j = S.length := by omega
      have hav := HAV.out zk
      generalize hat0 : atV S zk S.length = av at *
      clear hat0 HAV
      have hbz := bT hby hbl2
      have hbz2 := bT hby2 hbl2
      have y4 := y3.t hbl2
      have HO3 := Lib.hid (show OwnSm wr w2.heap.size (.slice Bo S.length co) S.length S from ⟨rfl, own_below HO2.out.2 hbl2⟩)
      have q0 := y4.cell 0
      clear HO2 HSR hj' hj
      by_cases hf : sFind S zk < S.length
      · have e : av = (sFind S zk : Int) := hav.trans (if_pos hf)
        have hk1 := sFind_lt hf
        have hsa : smAt S zk = (S.getD (sFind S zk) sm0).v := rfl
        have HPT := Lib.hid (show ∀ v, smPut S zk v = S.set (sFind S zk) ⟨zk, v⟩ from fun v => by unfold smPut; rw [if_pos hf])
        have HFS := Lib.hid (fun v => flat_set S (sFind S zk) hf zk v hk1)
        have HMP := Lib.hid (fun v hv => put_v S zk v HM.out hv)
        have HFA := Lib.hid (flat_at S (sFind S zk) hf)
        have hms := HM.out (sFind S zk)
        rw [hsa] at HEK2 HS
        generalize sFind S zk = q at *
        obtain ⟨g, cap, hv, hgb, hgl, hgc, hown2⟩ := own_form HO3.out.2 (by omega)
        injection hv with hB _ hcc
        subst hB
        subst hcc
        subst e
        have r1 := ((own_rowE hown2).1 (q * 2 + 1) (by omega)).trans HFA.out
        have f1 := (own_rowE hown2).2 (q * 2 + 1)
        have HOW := Lib.hid hown2
        generalize (S.getD q sm0).v = sv at *
        have qq0 : (0 : Int) ≤ (q : Int) := by omega
        have qq1 : (q : Int) < (S.length : Int) := by omega
        have qq2 : ((q : Int)).toNat = q := by omega
        have b1 := mr_iff.1 hms
        have b2 := mr_iff.1 hmv
        obtain ⟨b10, b11⟩ := b1
        obtain ⟨b20, b21⟩ := b2
        clear hk1 hsa hown2 HO3 hav
        by_cases h2 : mrB (sv + ev) = true
        · have b3 := mr_iff.1 h2
          have v5 : decide (100000000000 < sv + ev) = false := by simp; omega
          have v6 : decide (sv + ev < -100000000000) = false := by simp; omega
          have e1 := Lib.hid (HN.out (HEK2.out.trans (if_pos h2)))
          have HMN := Lib.hid (HMP.out _ h2)
          clear h2 hms hmv b3
          go_wp2_with fail
          go_roundw
          case rel =>
            refine ⟨k + 1, by omega, by go_num, ?_, e1.out, by rw [HS.out]; exact HMN.out, bS hbz2 hgb _⟩
            rw [HS.out, HPT.out, List.length_set]
            refine ⟨by simp, ?_⟩
            rw [← HFS.out]
            exact own_setE HOW.out (q * 2 + 1) (by omega) _
          case measure => simp [intOf]; omega
        · have e1 : smE L k = 10 := HEK2.out.trans (if_neg h2)
          obtain ⟨rfl, rfl⟩ := HX.out (by rw [e1]; decide)
          rw [e1]
          have hnb : ¬ (-100000000000 ≤ sv + ev ∧ sv + ev ≤ 100000000000) := fun h => h2 (mr_iff.2 h)
          clear h2 hms hmv HX HEK2 e1 HE1 HE2
          by_cases h3 : 100000000000 < sv + ev
          · have v5 : decide (100000000000 < sv + ev) = true := by simpa using h3
            clear hnb h3
            go_wp2_with fail
            go_ret
            exact ⟨rfl, bS hbz (Nat.le_trans hB2.size hgb) _⟩
          · have v5 : decide (100000000000 < sv + ev) = false := by simpa using h3
            have v6 : decide (sv + ev < -100000000000) = true := by simp; omega
            clear hnb h3
            go_wp2_with fail
            go_ret
            exact ⟨rfl, bS hbz (Nat.le_trans hB2.size hgb) _⟩
      · have e : av = -1 := hav.trans (if_neg hf)
        have hno := sFind_ge hf
        have hfi := sFind_none S zk hno
        have hsa : smAt S zk = 0 := by unfold smAt; rw [hfi]; simp [List.getD]; rfl
        have HPT := Lib.hid (show ∀ v, smPut S zk v = S ++ [⟨zk, v⟩] from fun v => by unfold smPut; rw [hfi, if_neg (by omega)])
        have HFA : Hid ((S.flatMap smC ++ #[Value.string zk, .int .i64 0].toList)[S.length * 2 + 1]? = some (.int .i64 0)) := by
          have := flat_at (S ++ [Sm.mk zk 0]) S.length (by simp)
          unfold Hid
          simpa [smC, List.flatMap_append, List.getD] using this
        have HFS : Hid (∀ v, (S.flatMap smC ++ #[Value.string zk, .int .i64 0].toList).set (S.length * 2 + 1) (.int .i64 v) = (S ++ [Sm.mk zk v]).flatMap smC) := fun v => by
          have := flat_set (S ++ [Sm.mk zk 0]) S.length (by simp) zk v (by simp [List.getD])
          rw [List.flatMap_append] at this
          simpa [smC] using this
        have HMP := Lib.hid (fun v hv => put_v S zk v HM.out hv)
        have hsz3 := hbz.size
        have hsz4 := hbz2.size
        rw [hsa, Int.zero_add] at HEK2 HS
        have qq0 : (0 : Int) ≤ (S.length : Int) := by omega
        have qq1 : (S.length : Int) < (S.length : Int) + 1 := by omega
        have qq2 : ((S.length : Int)).toNat = S.length := by omega
        have b2 := mr_iff.1 hmv
        obtain ⟨b20, b21⟩ := b2
        have v5 : decide (100000000000 < ev) = false := by simp; omega
        have v6 : decide (ev < -100000000000) = false := by simp; omega
        have e1 := Lib.hid (HN.out (HEK2.out.trans (if_pos hmv)))
        have HMN := Lib.hid (HMP.out _ hmv)
        subst e
        clear hmv hno hfi hsa hav hf
        go_wp2_with (at_builtin; refine wpList_app1 _ rfl _ _ 37 rfl 41 _ 2 24 Tryd.underlying37 info_sm rfl (by decide) rfl HO3.out.2 _ rfl (by first | rfl | simp) rfl (by simp [Value.oneCell']) (by omega) (by omega) (by first | omega | (simp; omega)) ?_; intro v' w6 ho' hg; obtain ⟨g, cap, rfl, hgb, hgl, hgc, ho2⟩ := own_form ho' (by omega); have HOV := Lib.hid ho2; have r1 := ((own_rowE ho2).1 (S.length * 2 + 1) (by omega)).trans HFA.out; have f1 := (own_rowE ho2).2 (S.length * 2 + 1); have hb6 := bP hbz2 HO3.out.2 hg (Nat.le_refl _); clear ho' ho2)
        go_roundw
        case rel =>
          refine ⟨k + 1, by omega, by go_num, ?_, e1.out, by rw [HS.out]; exact HMN.out, bS hb6 hgb _⟩
          rw [HS.out, HPT.out, List.length_append]
          refine ⟨by simp, ?_⟩
          rw [← HFS.out]
          exact own_setE HOV.out (S.length * 2 + 1) (by omega) _
        case measure => simp [intOf]; omega
--%%
end Go.Proofs.YtbpdgkaohfmabaaDoor
