/-
  Contract of element.Sums. Conditions as named.
-/
import Derived.Test.YtbpdgkaohfmabaaDoorElemC
namespace Go.Proofs.YtbpdgkaohfmabaaDoor
set_option linter.unusedVariables false
open Go.RowKit
/-- a kind and what it comes to -/
structure Sm where
  k : ByteArray
  v : Int
def sm0 : Sm := ⟨⟨#[]⟩, 0⟩
def smC (z : Sm) : List Value := [.string z.k, .int .i64 z.v]
theorem smC_len (z : Sm) : (smC z).length = 2 := rfl
abbrev SmSl := RowSl smC 2 sm0
--%%
theorem same_c (sk : ByteArray) (v : Int) (g : Nat) (zk : ByteArray) (W : World) (hz : W.cell? ⟨g, 0, none⟩ = some (.string zk)) (hg : g < W.heap.size) (r : Bool) (hr : (sk.toList == zk.toList) = r) :
    Calls Tryd.prog 34 #[.agg #[.string sk, .int .i64 v], .pointer (some ⟨g, 0, none⟩)] W fun e w' => e = .returned (.bool r) ∧ Below W.heap.size W w' := by
  have hb0 := below1 W (.cells #[.string sk, .int .i64 v] 41)
  have d0 := (hb0.cell (p := ⟨g, _, none⟩) hg).trans hz
  go_enter Tryd.func34, Tryd.ntmps34
  go_wp2_with fail
  go_ret
  exact ⟨ret_bool (by simp), hb0⟩
def IdxR (S : List Sm) (m : Nat) (zk : ByteArray) (W : World) (e : Ending) (w' : World) : Prop :=
  ((∃ q : Nat, q < m ∧ e = .returned (.int .i64 q) ∧ (S.getD q sm0).k = zk ∧ ∀ j, j < q → (S.getD j sm0).k ≠ zk) ∨ (e = .returned (.int .i64 (-1)) ∧ ∀ j, j < m → (S.getD j sm0).k ≠ zk)) ∧ Below W.heap.size W w'
set_option maxHeartbeats 1600000 in
theorem idx_c (B : Option Addr) (m c : Nat) (S : List Sm) (g : Nat) (zk : ByteArray) (W : World) (hs : SmSl W B m S) (hz : W.cell? ⟨g, 0, none⟩ = some (.string zk)) (hg : g < W.heap.size) :
    Calls Tryd.prog 33 #[.slice B m c, .func (Fn.func 34) #[] #[.pointer (some ⟨g, 0, none⟩)]] W (IdxR S m zk W) := by
  have HS := Lib.hid hs
  have HZ := Lib.hid hz
  have hm9 := hs.2.1
  clear hs hz
  go_enter Tryd.func33, Tryd.ntmps33
  go_wp2_with fail
  go_loopw [5, 8] (fun _ i wr => ∃ k : Nat, k ≤ m ∧ i = .int .i64 k ∧ Hid (∀ j, j < k → (S.getD j sm0).k ≠ zk) ∧ Below W.heap.size W wr) (fun _ i _ => m - (intOf i).toNat)
  case atStart => exact ⟨0, Nat.zero_le _, rfl, fun j hj => absurd hj (by omega), b0 _⟩
  case round =>
    obtain ⟨k, hk', rfl, HN, hbl⟩ := hrel
    by_cases hk : k < m
    case neg =>
      obtain rfl : k = m := by omega
      go_wp2_with fail
      go_ret
      exact ⟨Or.inr ⟨rfl, HN.out⟩, hbl⟩
    obtain ⟨b, off, rfl, hlt, hat⟩ := (HS.out.below hbl).2.2 (by omega)
    have hc := hat k hk
    have hgz := (hbl.cell (p := ⟨g, _, none⟩) hg).trans HZ.out
    have hsz := hbl.size
    generalize hzz : S.getD k sm0 = zz at *
    obtain ⟨sk, sv⟩ := zz
    have HK : Hid ((S.getD k sm0).k = sk) := by unfold Hid; rw [hzz]
    obtain ⟨c0, c1⟩ : wr.cell? ⟨b, off + k * 2, none⟩ = some (.string sk) ∧ wr.cell? ⟨b, off + k * 2 + 1, none⟩ = some (.int .i64 sv) := ⟨hc 0 _ rfl, hc 1 _ rfl⟩
    clear hc hat hzz
    by_cases he : sk = zk
    · have KS := Lib.hid (same_c sk sv g zk wr hgz (by omega) true (by rw [he]; simp))
      have HE := Lib.hid he
      clear hgz he
      go_wp2_with fail
      refine KS.out.mono ?_
      rintro e w2 ⟨rfl, hb2⟩
      go_wp2_with fail
      go_ret
      exact ⟨Or.inl ⟨k, hk, rfl, HK.out.trans HE.out, HN.out⟩, bT hbl hb2⟩
    · have KS := Lib.hid (same_c sk sv g zk wr hgz (by omega) false (str_neq he))
      have HN2 : Hid (∀ j, j < k + 1 → (S.getD j sm0).k ≠ zk) := fun j hj => by
        rcases (by omega : j = k ∨ j < k) with rfl | hj
        · rw [HK.out]; exact he
        · exact HN.out j hj
      clear hgz he
      go_wp2_with fail
      refine KS.out.mono ?_
      rintro e w2 ⟨rfl, hb2⟩
      go_wp2_with fail
      go_roundw
      case rel => exact ⟨k + 1, by omega, by go_num, HN2.out, bT hbl hb2⟩
      case measure => simp [intOf]; omega
--%%
/-- a cell of a row of the call's own, written -/
theorem own_setE {w : World} {base size n cap g : Nat} {e : TypeId} {xs : List Value} (h : w.ownsRow base e size (.slice (some ⟨g, 0, none⟩) n cap) n xs) (j : Nat) (hj : j < n * size) (u : Value) :
    (w.setCell ⟨g, j, none⟩ u).ownsRow base e size (.slice (some ⟨g, 0, none⟩) n cap) n (xs.set j u) := by
  obtain ⟨h1, h2 | ⟨g', cap', cur, hv, hb, hg, hle, hm, hs, ht⟩⟩ := h
  · cases h2.1
  · injection hv with hA _ hc
    injection hA with hA
    injection hA with hg' _
    subst hg'
    subst hc
    refine ⟨by rw [List.length_set]; exact h1, Or.inr ⟨g, cap, cur.setIfInBounds j u, rfl, hb, heap_setCell_same w g j cur e u hg, hle, hm, by simpa using hs, ?_⟩⟩
    rw [← ht]
    simp [List.take_set]
theorem own_rowE {w : World} {base size n cap g : Nat} {e : TypeId} {xs : List Value} (h : w.ownsRow base e size (.slice (some ⟨g, 0, none⟩) n cap) n xs) : (∀ j, j < n * size → w.cell? ⟨g, j, none⟩ = xs[j]?) ∧ ∀ j, w.frozen? ⟨g, j, none⟩ = false := by
  refine ⟨fun j hj => h.cellAt j hj, fun j => ?_⟩
  obtain ⟨h1, h2 | ⟨g', cap', cur, hv, hb, hg, hle, hm, hs, ht⟩⟩ := h
  · cases h2.1
  · injection hv with hA _ hc
    injection hA with hA
    injection hA with hg' _
    subst hg'
    exact frozen_of_row w g j cur e hg
--%%
def sFind (S : List Sm) (zk : ByteArray) : Nat := S.findIdx fun s => decide (s.k = zk)
def smAt (S : List Sm) (zk : ByteArray) : Int := (S.getD (sFind S zk) sm0).v
def smPut (S : List Sm) (zk : ByteArray) (v : Int) : List Sm := if sFind S zk < S.length then S.set (sFind S zk) ⟨zk, v⟩ else S ++ [⟨zk, v⟩]
theorem sFind_at (S : List Sm) (zk : ByteArray) : ∀ q, q < S.length → (S.getD q sm0).k = zk → (∀ j, j < q → (S.getD j sm0).k ≠ zk) → sFind S zk = q := by
  induction S with
  | nil => intro q h; simp at h
  | cons s S ih =>
    intro q hq h1 h2
    unfold sFind
    rw [List.findIdx_cons]
    cases q with
    | zero =>
      have : s.k = zk := h1
      simp [this]
    | succ q =>
      have h0 : s.k ≠ zk := h2 0 (by omega)
      have := ih q (by simpa using hq) (by simpa using h1) (fun j hj => by simpa using h2 (j + 1) (by omega))
      unfold sFind at this
      simp [h0, this]
theorem sFind_none (S : List Sm) (zk : ByteArray) (h : ∀ j, j < S.length → (S.getD j sm0).k ≠ zk) : sFind S zk = S.length := by
  induction S with
  | nil => rfl
  | cons s S ih =>
    unfold sFind
    rw [List.findIdx_cons]
    have h0 : s.k ≠ zk := h 0 (by simp)
    have := ih (fun j hj => by simpa using h (j + 1) (by simpa using hj))
    unfold sFind at this
    simp [h0, this]
/-- the kinds of the first k elements, and what they come to -/
def smT (L : List El) : Nat → List Sm
  | 0 => []
  | k + 1 => smPut (smT L k) (L.getD k el0).k (smAt (smT L k) (L.getD k el0).k + elV (L.getD k el0).a (L.getD k el0).u)
/-- why the kth one isn't put to them -/
def smE (L : List El) (k : Nat) : Int :=
  if elE (L.getD k el0).a (L.getD k el0).u ≠ 0 then elE (L.getD k el0).a (L.getD k el0).u
  else if mrB (smAt (smT L k) (L.getD k el0).k + elV (L.getD k el0).a (L.getD k el0).u) = true then 0 else 10
theorem smT_len (L : List El) (k : Nat) : (smT L k).length ≤ k := by
  induction k with
  | zero => simp [smT]
  | succ k ih =>
    rw [smT, smPut]
    split
    · rw [List.length_set]; omega
    · simp; omega
theorem put_v (S : List Sm) (zk : ByteArray) (v : Int) (h : ∀ q, mrB (S.getD q sm0).v = true) (hv : mrB v = true) (q : Nat) : mrB ((smPut S zk v).getD q sm0).v = true := by
  unfold smPut
  split
  · by_cases hq : q = sFind S zk
    · subst hq
      rename_i hlt
      simp [List.getD, hlt, hv]
    · have : (S.set (sFind S zk) ⟨zk, v⟩).getD q sm0 = S.getD q sm0 := by simp [List.getD, Ne.symm hq]
      rw [this]; exact h q
  · by_cases hq : q < S.length
    · have : (S ++ [Sm.mk zk v]).getD q sm0 = S.getD q sm0 := by simp [List.getD, List.getElem?_append_left hq]
      rw [this]; exact h q
    · by_cases hq2 : q = S.length
      · subst hq2; simp [List.getD, hv]
      · have : (S ++ [Sm.mk zk v]).getD q sm0 = sm0 := by simp [List.getD]; rw [List.getElem?_eq_none (by simp; omega)]; rfl
        rw [this]; rfl
theorem flat_set (S : List Sm) : ∀ (q : Nat), q < S.length → ∀ (zk : ByteArray) (v : Int), (S.getD q sm0).k = zk → (S.flatMap smC).set (q * 2 + 1) (.int .i64 v) = (S.set q ⟨zk, v⟩).flatMap smC := by
  induction S with
  | nil => intro q h; simp at h
  | cons s S ih =>
    intro q hq zk v hk
    cases q with
    | zero =>
      have : s.k = zk := hk
      simp [smC, this]
    | succ q =>
      have := ih q (by simpa using hq) zk v (by simpa using hk)
      rw [show (q + 1) * 2 + 1 = (q * 2 + 1) + 1 + 1 by omega]
      simp [smC, this]
theorem flat_at (S : List Sm) : ∀ (q : Nat), q < S.length → (S.flatMap smC)[q * 2 + 1]? = some (.int .i64 (S.getD q sm0).v) := by
  induction S with
  | nil => intro q h; simp at h
  | cons s S ih =>
    intro q hq
    cases q with
    | zero => simp [smC]
    | succ q =>
      have := ih q (by simpa using hq)
      rw [show (q + 1) * 2 + 1 = (q * 2 + 1) + 1 + 1 by omega]
      simpa [smC] using this
--%%
def OwnSm (w : World) (base : Nat) (v : Value) (n : Nat) (l : List Sm) : Prop := n = l.length ∧ w.ownsRow base 41 2 v n (l.flatMap smC)
theorem info_sm : (Tryd.prog.info? 41).map (fun i => (i.zero, i.size, i.bytes)) = some (some (.agg #[.string ⟨#[]⟩, .int .i64 0]), 2, 24) := by kernel_rfl
theorem OwnSm.rows {w : World} {base n c : Nat} {B : Option Addr} {l : List Sm} (h : OwnSm w base (.slice B n c) n l) : SmSl w B n l := by
  obtain ⟨A, c', hv, _, hs⟩ := own_sl smC 2 sm0 smC_len h.2 h.1 (by decide)
  injection hv with hA _ _
  rw [hA]
  exact hs
def SumsR (L : List El) (n : Nat) (w : World) (e : Ending) (w' : World) : Prop :=
  (((∀ k, k < n → smE L k = 0) ∧ ∃ v, e = .returned (.tuple #[v, .int .i64 0]) ∧ OwnSm w' w.heap.size v (smT L n).length (smT L n)) ∨
   (∃ k, k < n ∧ (∀ j, j < k → smE L j = 0) ∧ smE L k ≠ 0 ∧ e = .returned (.tuple #[.slice none 0 0, .int .i64 (smE L k)]))) ∧ Below w.heap.size w w'
set_option maxHeartbeats 3200000 in
set_option maxRecDepth 100000 in
theorem esums_c (A : Option Addr) (n c : Nat) (L : List El) (w : World) (hl : ElSl w A n L) (hn8 : n ≤ 1000) :
    Calls Tryd.prog 15 #[.slice A n c] w (SumsR L n w) := by
  have HL := Lib.hid hl
  have H0 : Hid (smT L 0 = []) := rfl
  clear hl
  go_enter Tryd.func15, Tryd.ntmps15
  go_wp2_with fail
  go_loopw [4, 12] (fun v i wr => ∃ k : Nat, k ≤ n ∧ i = .int .i64 k ∧ OwnSm wr w.heap.size v (smT L k).length (smT L k) ∧ Hid (∀ j, j < k → smE L j = 0) ∧ Hid (∀ q, mrB ((smT L k).getD q sm0).v = true) ∧ Below w.heap.size w wr) (fun _ i _ => n - (intOf i).toNat)
  case atStart => exact ⟨0, Nat.zero_le _, rfl, by rw [H0.out]; exact ⟨rfl, World.ownsRow_nil _ _ _ _⟩, fun j hj => absurd hj (by omega), fun q => by rw [H0.out]; rfl, b0 _⟩
  case round =>
    obtain ⟨k, hk', rfl, ho, HE, HM, hbl⟩ := hrel
    have hsz := hbl.size
    have HOL := Lib.hid (smT_len L k)
    obtain ⟨B, c', rfl⟩ := own_slice ho.2
    by_cases hk : k < n
    case neg =>
      obtain rfl : k = n := by omega
      generalize hS : smT L k = S at *
      have HO := Lib.hid ho
      clear ho
      go_wp2_with fail
      go_ret2
      exact ⟨Or.inl ⟨HE.out, _, rfl, by rw [hS]; exact HO.out⟩, hbl⟩
    obtain ⟨b, off, rfl, hlt, hat⟩ := (HL.out.below hbl).2.2 (by omega)
    have hc := hat k hk
    have HS : Hid (smT L (k + 1) = smPut (smT L k) (L.getD k el0).k (smAt (smT L k) (L.getD k el0).k + elV (L.getD k el0).a (L.getD k el0).u)) := rfl
    have HEK : Hid (smE L k = if elE (L.getD k el0).a (L.getD k el0).u ≠ 0 then elE (L.getD k el0).a (L.getD k el0).u else if mrB (smAt (smT L k) (L.getD k el0).k + elV (L.getD k el0).a (L.getD k el0).u) = true then 0 else 10) := rfl
    have HE2 : Hid (smE L k = 0 → ∀ j, j < k + 1 → smE L j = 0) := fun h j hj => by
      rcases (by omega : j = k ∨ j < k) with rfl | hj
      · exact h
      · exact HE.out j hj
    have hcl := HOL.out
    generalize smT L k = S at *
    generalize L.getD k el0 = zz at *
    obtain ⟨zk, za, zu⟩ := zz
    dsimp only at HS HEK
    obtain ⟨c0, c1, c2⟩ : wr.cell? ⟨b, off + k * 3, none⟩ = some (.string zk) ∧ wr.cell? ⟨b, off + k * 3 + 1, none⟩ = some (.int .i64 za) ∧ wr.cell? ⟨b, off + k * 3 + 2, none⟩ = some (.int .i64 zu) := ⟨hc 0 _ rfl, hc 1 _ rfl, hc 2 _ rfl⟩
    have hbx := bA hbl (.cells #[.string zk, .int .i64 za, .int .i64 zu] 23)
    have y := Blk.mk wr 23 #[.string zk, .int .i64 za, .int .i64 zu]
    have HO := Lib.hid (show OwnSm (wr.alloc (.cells #[.string zk, .int .i64 za, .int .i64 zu] 23)) w.heap.size (.slice B S.length c') S.length S from ⟨rfl, ho.2.alloc _⟩)
    have HMV : Hid (elE za zu = 0 → mrB (elV za zu) = true) := fun h => by
      unfold elV; rw [if_pos h]; unfold elE at h
      split at h
      · cases h
      · split at h
        · cases h
        · split at h
          · assumption
          · cases h
    have KV := Lib.hid (fun W => evalue_c zk za zu W _ _ rfl rfl)
    generalize elE za zu = ee at *
    generalize elV za zu = ev at *
    clear ho hc hat HOL
    by_cases h1 : ee = 0
    case neg =>
      have v1 : (ee != 0) = true := by simpa using h1
      have e1 : smE L k = ee := HEK.out.trans (if_pos h1)
      have H1 := Lib.hid h1
      have E1 := Lib.hid e1
      clear h1 e1
      go_wp2_with fail
      refine (KV.out _).mono ?_
      rintro e w2 ⟨rfl, hb2⟩
      go_wp2_with fail
      go_ret2
      exact ⟨Or.inr ⟨k, hk, HE.out, by rw [E1.out]; exact H1.out, by rw [E1.out]; rfl⟩, bT hbx hb2⟩
    subst h1
    have hmv := HMV.out rfl
    have HEK2 : Hid (smE L k = if mrB (smAt S zk + ev) = true then 0 else 10) := HEK.out.trans (if_neg (by simp))
    clear HMV HEK
    go_wp2_with fail
    refine (KV.out _).mono ?_
    rintro e w2 ⟨rfl, hb2⟩
    have hby := bT hbx hb2
    have HO2 := Lib.hid (show OwnSm w2 w.heap.size (.slice B S.length c') S.length S from ⟨rfl, own_below HO.out.2 hb2⟩)
    have y2 := y.t hb2
    have q0 := y2.cell 0
    have hy2 := y2.lt
    clear HO c0 c1 c2
    go_wp2_with fail
    refine (idx_c B S.length c' S _ zk w2 HO2.out.rows q0 hy2).mono ?_
    rintro e w3 ⟨⟨q, hq, rfl, hk1, hk2⟩ | ⟨rfl, hno⟩, hb3⟩
    · have hbz := bT hby hb3
      have hfi := sFind_at S zk q hq hk1 hk2
      have hsa : smAt S zk = (S.getD q sm0).v := by unfold smAt; rw [hfi]
      have hpt : ∀ v, smPut S zk v = S.set q ⟨zk, v⟩ := fun v => by unfold smPut; rw [hfi, if_pos hq]
      have HPT := Lib.hid hpt
      have HFS := Lib.hid (fun v => flat_set S q hq zk v hk1)
      have HMP := Lib.hid (fun v hv => put_v S zk v HM.out hv)
      have hown := own_below HO2.out.2 hb3
      obtain ⟨g, cap, hv, hgb, hgl, hgc, hown2⟩ := own_form hown (by omega)
      injection hv with hB _ hcc
      subst hB
      subst hcc
      have HFA := Lib.hid (flat_at S q hq)
      have r1 := ((own_rowE hown2).1 (q * 2 + 1) (by omega)).trans HFA.out
      have HOW := Lib.hid hown2
      have hms := HM.out q
      rw [hsa] at HEK2 HS
      generalize (S.getD q sm0).v = sv at *
      have qq0 : (0 : Int) ≤ (q : Int) := by omega
      have qq1 : (q : Int) < (S.length : Int) := by omega
      have qq2 : ((q : Int)).toNat = q := by omega
      clear hk1 hk2 hfi hsa hpt hown hown2 HO2
      by_cases h2 : mrB (sv + ev) = true
      · have KA := Lib.hid (add_t sv ev · hms hmv h2)
        have e1 := Lib.hid (HE2.out (HEK2.out.trans (if_pos h2)))
        have HMN := Lib.hid (HMP.out _ h2)
        clear h2 hms hmv
        go_wp2_with fail
        refine (KA.out _).mono ?_
        rintro e w4 ⟨rfl, hb4⟩
        have HOW4 := Lib.hid (own_below HOW.out hb4)
        have f1 := (own_rowE HOW4.out).2 (q * 2 + 1)
        have r2 := ((own_rowE HOW4.out).1 (q * 2 + 1) (by omega)).trans HFA.out
        go_wp2_with fail
        go_roundw
        case rel =>
          refine ⟨k + 1, by omega, by go_num, ?_, e1.out, by rw [HS.out]; exact HMN.out, bS (bT hbz hb4) hgb _⟩
          rw [HS.out, HPT.out, List.length_set]
          refine ⟨by simp, ?_⟩
          rw [← HFS.out]
          exact own_setE HOW4.out (q * 2 + 1) (by omega) _
        case measure => simp [intOf]; omega
      · have KA := Lib.hid (add_f sv ev · (fun h => h2 h.2.2))
        have e1 := Lib.hid (HEK2.out.trans (if_neg h2))
        clear h2 hms hmv
        go_wp2_with fail
        refine (KA.out _).mono ?_
        rintro e w4 ⟨rfl, hb4⟩
        have HOW4 := Lib.hid (own_below HOW.out hb4)
        have f1 := (own_rowE HOW4.out).2 (q * 2 + 1)
        have r2 := ((own_rowE HOW4.out).1 (q * 2 + 1) (by omega)).trans HFA.out
        go_wp2_with fail
        go_ret2
        exact ⟨Or.inr ⟨k, hk, HE.out, by rw [e1.out]; decide, by rw [e1.out]; rfl⟩, bS (bT hbz hb4) hgb _⟩
    · have hbz := bT hby hb3
      have hfi := sFind_none S zk hno
      have hsa : smAt S zk = 0 := by unfold smAt; rw [hfi]; simp [List.getD]; rfl
      have hpt : ∀ v, smPut S zk v = S ++ [⟨zk, v⟩] := fun v => by unfold smPut; rw [hfi, if_neg (by omega)]
      have HPT := Lib.hid hpt
      have HFA : Hid ((S.flatMap smC ++ #[Value.string zk, .int .i64 0].toList)[S.length * 2 + 1]? = some (.int .i64 0)) := by
        have := flat_at (S ++ [Sm.mk zk 0]) S.length (by simp)
        unfold Hid
        simpa [smC, List.flatMap_append, List.getD] using this
      have HFS : Hid (∀ v, (S.flatMap smC ++ #[Value.string zk, .int .i64 0].toList).set (S.length * 2 + 1) (.int .i64 v) = (S ++ [Sm.mk zk v]).flatMap smC) := fun v => by
        have := flat_set (S ++ [Sm.mk zk 0]) S.length (by simp) zk v (by simp [List.getD])
        rw [List.flatMap_append] at this
        simpa [smC] using this
      have HMP := Lib.hid (fun v hv => put_v S zk v HM.out hv)
      have HOW := Lib.hid (show OwnSm w3 w.heap.size (.slice B S.length c') S.length S from ⟨rfl, own_below HO2.out.2 hb3⟩)
      have y3 := y2.t hb3
      have p0 := y3.cell 0
      have hsz3 := hbz.size
      rw [hsa, Int.zero_add] at HEK2 HS
      have qq0 : (0 : Int) ≤ (S.length : Int) := by omega
      have qq1 : (S.length : Int) < (S.length : Int) + 1 := by omega
      have qq2 : ((S.length : Int)).toNat = S.length := by omega
      clear hno hfi hsa hpt HO2
      have KA : Hid (∀ W, Calls Tryd.prog 35 #[.int .i64 0, .int .i64 ev] W fun e w' => e = .returned (.tuple #[.int .i64 ev, .int .i64 0]) ∧ Below W.heap.size W w') := fun W => by
        have := add_t 0 ev W rfl hmv (by rw [Int.zero_add]; exact hmv)
        rw [Int.zero_add] at this
        exact this
      have e1 := Lib.hid (HE2.out (HEK2.out.trans (if_pos hmv)))
      have HMN := Lib.hid (HMP.out _ hmv)
      clear hmv
      go_wp2_with (at_builtin; refine wpList_app1 _ rfl _ _ 37 rfl 41 _ 2 24 Tryd.underlying37 info_sm rfl (by decide) rfl HOW.out.2 _ rfl (by first | rfl | simp) rfl (by simp [Value.oneCell']) (by omega) (by omega) (by first | omega | (simp; omega)) ?_; intro v' w6 ho' hg; obtain ⟨g, cap, rfl, hgb, hgl, hgc, ho2⟩ := own_form ho' (by omega); have HOV := Lib.hid ho2; have r1 := ((own_rowE ho2).1 (S.length * 2 + 1) (by omega)).trans HFA.out; have f0 := (own_rowE ho2).2 (S.length * 2 + 1); have hb6 := bP hbz HOW.out.2 hg (Nat.le_refl _); clear ho' ho2)
      refine (KA.out _).mono ?_
      rintro e w4 ⟨rfl, hb4⟩
      have HOW4 := Lib.hid (own_below HOV.out hb4)
      have f1 := (own_rowE HOW4.out).2 (S.length * 2 + 1)
      have r2 := ((own_rowE HOW4.out).1 (S.length * 2 + 1) (by omega)).trans HFA.out
      go_wp2_with fail
      go_roundw
      case rel =>
        refine ⟨k + 1, by omega, by go_num, ?_, e1.out, by rw [HS.out]; exact HMN.out, bS (bT hb6 hb4) hgb _⟩
        rw [HS.out, HPT.out, List.length_append]
        refine ⟨by simp, ?_⟩
        rw [← HFS.out]
        exact own_setE HOW4.out (S.length * 2 + 1) (by omega) _
      case measure => simp [intOf]; omega
--%%
end Go.Proofs.YtbpdgkaohfmabaaDoor
