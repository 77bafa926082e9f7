/-
  Contract of word.Cut. Conditions as named.
-/
import Derived.Test.YtcngmajkkhipoaaGreatDoorM1
import Derived.Test.YtcngmajkkhipoaaGreatDoorM0
import Derived.Deep.DeepCutAuto
namespace Go.Proofs.YtcngmajkkhipoaaGreatDoor
set_option linter.unusedVariables false
open Go.RowKit
def mkB (l : List UInt8) : ByteArray := ⟨l.toArray⟩
/-- behind a word: another one, or none -/
def endsB (rest : List UInt8) : Bool := match rest with | [] => true | c :: _ => decide (bI c = 32) || decide (bI c = 35)
def cutK (rest : List UInt8) (n : Nat) : Int × List (List UInt8) := if endsB rest = true then cutM 0 rest n [] else (5, [])
theorem glue3 (rest : List UInt8) (n : Nat) (acc : List UInt8) (out : List (List UInt8)) : glue out (cutM 3 rest n acc) = glue (out ++ [acc]) (cutK rest (n + 1)) := by
  unfold cutK
  cases rest with
  | nil => rw [cutM_behind [] n acc (Or.inl rfl), glue_wcons]; rfl
  | cons c r =>
    by_cases h : bI c = 32 ∨ bI c = 35
    · rw [cutM_behind _ n acc (Or.inr ⟨c, r, rfl, h⟩), glue_wcons, if_pos (by unfold endsB; simpa using h)]
    · rw [if_neg (by unfold endsB; simpa using h)]
      have h1 : ¬ bI c = 32 := fun e => h (Or.inl e)
      have h2 : ¬ bI c = 35 := fun e => h (Or.inr e)
      simp [cutM, h1, h2, glue]
theorem drop_gB (l : List UInt8) (i : Nat) (h : i < l.length) : ∃ c, l.drop i = c :: l.drop (i + 1) ∧ bI c = gB l i := by
  refine ⟨l[i], List.drop_eq_getElem_cons h, ?_⟩
  simp [bI, gB, List.getD, List.getElem?_eq_getElem h]
theorem drop_end (l : List UInt8) (i : Nat) (h : i = l.length) : l.drop i = [] := by rw [h]; exact List.drop_length
theorem ext_snoc (l : List UInt8) (f i : Nat) (hf : f ≤ i) (h : i < l.length) {c : UInt8} (hc : l.drop i = c :: l.drop (i + 1)) : (l.drop f).take (i + 1 - f) = (l.drop f).take (i - f) ++ [c] := by
  rw [show i + 1 - f = (i - f) + 1 by omega, List.take_add_one]
  congr 1
  rw [List.getElem?_drop, show f + (i - f) = i by omega]
  have : l[i]? = some c := by
    have := congrArg List.head? hc
    rw [List.head?_drop] at this
    simpa using this
  rw [this]; rfl
theorem mkB_ext (s : ByteArray) (f i : Nat) : s.extract f i = mkB ((s.data.toList.drop f).take (i - f)) := by
  have h := Lib.extract_data s f i
  unfold mkB
  rw [← h]
theorem ext_nil (l : List UInt8) (f i : Nat) (hf : f ≤ i) (h : i ≤ l.length) : (l.drop f).take (i - f) = [] ↔ f = i := by
  rw [← List.length_eq_zero_iff, List.length_take, List.length_drop]
  omega
theorem wcons_nil (a : List UInt8) (x : Int × List (List UInt8)) : (wcons a x).1 ≠ 0 → (wcons a x).2 = [] := by
  unfold wcons
  split
  · intro h; exact absurd rfl h
  · intro _; rfl
theorem cutM_nil : ∀ (l : List UInt8) (m n : Nat) (acc : List UInt8), (cutM m l n acc).1 ≠ 0 → (cutM m l n acc).2 = []
  | [], m, n, acc => by
    unfold cutM
    repeat' split
    all_goals simp
  | c :: r, m, n, acc => by
    have i0 := cutM_nil r 0 n []
    have i1 := cutM_nil r 2 n []
    have i2 := cutM_nil r 1 n [c]
    have i3 := cutM_nil r 1 n (acc ++ [c])
    have i4 := cutM_nil r 2 n (acc ++ [c])
    have i5 := cutM_nil r 3 n acc
    have i6 := wcons_nil acc (cutM 0 r (n + 1) [])
    unfold cutM
    repeat' split
    all_goals first | assumption | simp
theorem glue_one (x : Int × List (List UInt8)) (h : x.1 ≠ 0 → x.2 = []) : glue [] x = x := by
  unfold glue
  obtain ⟨a, b⟩ := x
  by_cases h0 : a = 0
  · simp [h0]
  · have := h h0
    simp at this
    simp [h0, this]
/-- what Cut answers -/
def CutQ (R : Int × List (List UInt8)) (w : World) (e : Ending) (w' : World) : Prop :=
  ((R.1 = 0 ∧ ∃ v, e = .returned (.tuple #[v, .int .i64 0]) ∧ OwnSt w' w.heap.size v R.2.length (R.2.map mkB)) ∨ (R.1 ≠ 0 ∧ e = .returned (.tuple #[.slice none 0 0, .int .i64 R.1]))) ∧ Below w.heap.size w w'
theorem glue_stop (out : List (List UInt8)) (x : Int) (h : x ≠ 0) : glue out (x, []) = (x, []) := by unfold glue; simp [h]
/-- the states at the labels -/
def CutJ (l : List UInt8) (R : Int × List (List UInt8)) (m : Nat) (i f : Nat) (out : List (List UInt8)) : Prop :=
  match m with
  | 0 => glue out (cutM 0 (l.drop i) out.length []) = R
  | 1 => glue out (cutM 2 (l.drop i) out.length ((l.drop f).take (i - f))) = R ∧ out.length ≠ 32
  | 2 => glue out (cutM 1 (l.drop i) out.length ((l.drop f).take (i - f))) = R ∧ out.length ≠ 32
  | 3 => R = (5, [])
  | 4 => glue out (cutK (l.drop i) out.length) = R
  | _ => False
def cutMu (N : Nat) (m i f : Nat) : Nat :=
  match m with
  | 0 => 4 * (N - i) + 2
  | 1 => 4 * (N - i) + 1
  | 2 => 4 * (N - i) + (if f = i then 1 else 4)
  | 4 => 4 * (N - i) + 3
  | _ => 0
--%%
set_option maxRecDepth 100000 in
set_option maxHeartbeats 6400000 in
theorem cut_c (s : ByteArray) (w : World) (hs : s.size ≤ 1000000) (R : Int × List (List UInt8)) (hR : Hid (R = cutR s.data.toList)) :
    Calls Tryz.prog 9 #[.string s] w (CutQ R w) := by
  obtain ⟨l, hl⟩ : ∃ l, l = s.data.toList := ⟨_, rfl⟩
  have hln : l.length = s.size := by rw [hl]; simp
  have HR : Hid (R = cutR l) := by rw [hl]; exact hR
  have HG : Hid (∀ k (h : k < s.size), ((s[k]).toNat : Int) = gB l k) := fun k h => by rw [hl]; exact byte_gB s k h
  have HX : Hid (∀ f i, s.extract f i = mkB ((l.drop f).take (i - f))) := fun f i => by rw [hl]; exact mkB_ext s f i
  have HL := Lib.hid hln
  clear hR hl
  by_cases h512 : 512 < s.size
  · have v : decide ((512 : Int) < (s.size : Int)) = true := by simp; omega
    have e : R = (2, []) := by rw [HR.out]; unfold cutR; rw [if_pos (by omega)]
    have HE := Lib.hid e
    clear e HR hln
    go_enter Tryz.func9, Tryz.ntmps9
    go_wp2_with fail
    go_step3
    go_wp2_with fail
    simp only [Exit.noGoto_ret]
    go_ret2
    exact ⟨Or.inr ⟨by rw [HE.out]; decide, by rw [HE.out]; rfl⟩, b0 _⟩
  have v : decide ((512 : Int) < (s.size : Int)) = false := by simp; omega
  have HR2 : Hid (cutM 0 l 0 [] = R) := by unfold Hid; rw [HR.out]; unfold cutR; rw [if_neg (by omega)]
  clear HR hln
  go_enter Tryz.func9, Tryz.ntmps9
  go_wp2_with fail
  refine wp_scope_labels (fun lb a' w' => ∃ (i f : Nat) (out : List (List UInt8)) (v4 : Value), f ≤ i ∧ i ≤ s.size ∧ out.length ≤ 32 ∧ Hid (CutJ l R lb i f out) ∧ OwnSt w' w.heap.size v4 out.length (out.map mkB) ∧ Below w.heap.size w w' ∧ ∃ (u1 u2 u3 u7 u8 u9 u10 u11 u12 u13 u14 u15 u16 u17 u18 u19 u20 u21 u22 u23 u24 u25 u26 u27 u28 u29 u30 u31 u32 u33 u34 u35 u36 u37 u38 u39 u40 u41 u42 u43 u44 u45 u46 u47 u48 u49 u50 u51 u52 u53 u54 u55 u56 u57 u58 u59 u60 u61 u62 u63 u64 u65 u66 u67 u68 u69 u70 u71 u72 u73 u74 u75 u76 u77 u78 u79 u80 u81 u82 u83 u84 u85 u86 u87 u88 u89 u90 u91 u92 u93 u94 u95 u96 u97 u98 u99 u100 u101 u102 : Value), a' = { tmps := #[.string s, u1, u2, u3, v4, .int .i64 i, .int .i64 f, u7, u8, u9, u10, u11, u12, u13, u14, u15, u16, u17, u18, u19, u20, u21, u22, u23, u24, u25, u26, u27, u28, u29, u30, u31, u32, u33, u34, u35, u36, u37, u38, u39, u40, u41, u42, u43, u44, u45, u46, u47, u48, u49, u50, u51, u52, u53, u54, u55, u56, u57, u58, u59, u60, u61, u62, u63, u64, u65, u66, u67, u68, u69, u70, u71, u72, u73, u74, u75, u76, u77, u78, u79, u80, u81, u82, u83, u84, u85, u86, u87, u88, u89, u90, u91, u92, u93, u94, u95, u96, u97, u98, u99, u100, u101, u102], defers := [] })
    (fun lb a' _ => cutMu s.size lb (intOf (a'.tmps.getD 5 undef)).toNat (intOf (a'.tmps.getD 6 undef)).toNat) ?_ ?_ ?_
  · rintro lb a' w' ⟨i, f, out, v4, _, _, _, hJ, _⟩
    match lb, hJ.out with
    | 0, _ => exact ⟨_, rfl⟩
    | 1, _ => exact ⟨_, rfl⟩
    | 2, _ => exact ⟨_, rfl⟩
    | 3, _ => exact ⟨_, rfl⟩
    | 4, _ => exact ⟨_, rfl⟩
    | n + 5, h => exact h.elim
  · rintro lb a' w' ⟨i, f, out, v4, hfi, his, ho32, hJ, how, hbl, hF⟩ H
    obtain ⟨u1, hF⟩ := hF; obtain ⟨u2, hF⟩ := hF; obtain ⟨u3, hF⟩ := hF; obtain ⟨u7, hF⟩ := hF; obtain ⟨u8, hF⟩ := hF; obtain ⟨u9, hF⟩ := hF; obtain ⟨u10, hF⟩ := hF; obtain ⟨u11, hF⟩ := hF; obtain ⟨u12, hF⟩ := hF; obtain ⟨u13, hF⟩ := hF; obtain ⟨u14, hF⟩ := hF; obtain ⟨u15, hF⟩ := hF; obtain ⟨u16, hF⟩ := hF; obtain ⟨u17, hF⟩ := hF; obtain ⟨u18, hF⟩ := hF; obtain ⟨u19, hF⟩ := hF; obtain ⟨u20, hF⟩ := hF; obtain ⟨u21, hF⟩ := hF; obtain ⟨u22, hF⟩ := hF; obtain ⟨u23, hF⟩ := hF; obtain ⟨u24, hF⟩ := hF; obtain ⟨u25, hF⟩ := hF; obtain ⟨u26, hF⟩ := hF; obtain ⟨u27, hF⟩ := hF; obtain ⟨u28, hF⟩ := hF; obtain ⟨u29, hF⟩ := hF; obtain ⟨u30, hF⟩ := hF; obtain ⟨u31, hF⟩ := hF; obtain ⟨u32, hF⟩ := hF; obtain ⟨u33, hF⟩ := hF; obtain ⟨u34, hF⟩ := hF; obtain ⟨u35, hF⟩ := hF; obtain ⟨u36, hF⟩ := hF; obtain ⟨u37, hF⟩ := hF; obtain ⟨u38, hF⟩ := hF; obtain ⟨u39, hF⟩ := hF; obtain ⟨u40, hF⟩ := hF; obtain ⟨u41, hF⟩ := hF; obtain ⟨u42, hF⟩ := hF; obtain ⟨u43, hF⟩ := hF; obtain ⟨u44, hF⟩ := hF; obtain ⟨u45, hF⟩ := hF; obtain ⟨u46, hF⟩ := hF; obtain ⟨u47, hF⟩ := hF; obtain ⟨u48, hF⟩ := hF; obtain ⟨u49, hF⟩ := hF; obtain ⟨u50, hF⟩ := hF; obtain ⟨u51, hF⟩ := hF; obtain ⟨u52, hF⟩ := hF; obtain ⟨u53, hF⟩ := hF; obtain ⟨u54, hF⟩ := hF; obtain ⟨u55, hF⟩ := hF; obtain ⟨u56, hF⟩ := hF; obtain ⟨u57, hF⟩ := hF; obtain ⟨u58, hF⟩ := hF; obtain ⟨u59, hF⟩ := hF; obtain ⟨u60, hF⟩ := hF; obtain ⟨u61, hF⟩ := hF; obtain ⟨u62, hF⟩ := hF; obtain ⟨u63, hF⟩ := hF; obtain ⟨u64, hF⟩ := hF; obtain ⟨u65, hF⟩ := hF; obtain ⟨u66, hF⟩ := hF; obtain ⟨u67, hF⟩ := hF; obtain ⟨u68, hF⟩ := hF; obtain ⟨u69, hF⟩ := hF; obtain ⟨u70, hF⟩ := hF; obtain ⟨u71, hF⟩ := hF; obtain ⟨u72, hF⟩ := hF; obtain ⟨u73, hF⟩ := hF; obtain ⟨u74, hF⟩ := hF; obtain ⟨u75, hF⟩ := hF; obtain ⟨u76, hF⟩ := hF; obtain ⟨u77, hF⟩ := hF; obtain ⟨u78, hF⟩ := hF; obtain ⟨u79, hF⟩ := hF; obtain ⟨u80, hF⟩ := hF; obtain ⟨u81, hF⟩ := hF; obtain ⟨u82, hF⟩ := hF; obtain ⟨u83, hF⟩ := hF; obtain ⟨u84, hF⟩ := hF; obtain ⟨u85, hF⟩ := hF; obtain ⟨u86, hF⟩ := hF; obtain ⟨u87, hF⟩ := hF; obtain ⟨u88, hF⟩ := hF; obtain ⟨u89, hF⟩ := hF; obtain ⟨u90, hF⟩ := hF; obtain ⟨u91, hF⟩ := hF; obtain ⟨u92, hF⟩ := hF; obtain ⟨u93, hF⟩ := hF; obtain ⟨u94, hF⟩ := hF; obtain ⟨u95, hF⟩ := hF; obtain ⟨u96, hF⟩ := hF; obtain ⟨u97, hF⟩ := hF; obtain ⟨u98, hF⟩ := hF; obtain ⟨u99, hF⟩ := hF; obtain ⟨u100, hF⟩ := hF; obtain ⟨u101, hF⟩ := hF; obtain ⟨u102, hF⟩ := hF; subst hF
    have HH := Lib.hid H
    clear H
    obtain ⟨Ao, co, rfl⟩ := own_slice how.2
    have HOW := Lib.hid how
    clear how
    have hsz := hbl.size
    have ii : ((i : Int)).toNat = i := by omega
    have i0 : (0 : Int) ≤ (i : Int) := by omega
    match lb, hJ with
    | 3, hJ =>
      refine wp_of_find rfl ?_
      have HE : Hid (R = (5, [])) := hJ.out
      go_wp2_with fail
      simp only [Exit.jumps_ret]
      go_ret2
      exact ⟨Or.inr ⟨by rw [HE.out]; decide, by rw [HE.out]; rfl⟩, hbl⟩
    | 0, hJ =>
      refine wp_of_find rfl ?_
      have HE : Hid (glue out (cutM 0 (l.drop i) out.length []) = R) := hJ.out
      clear hJ
      by_cases hi : i = s.size
      · have vi : ((i : Int) == (s.size : Int)) = true := by simp; omega
        have e : R = (0, out) := by rw [← HE.out, drop_end l i (by rw [HL.out]; exact hi)]; simp [cutM, glue]
        have HE2 := Lib.hid e
        clear e hi HE
        go_wp2_with fail
        simp only [Exit.jumps_ret]
        go_ret2
        exact ⟨Or.inl ⟨by rw [HE2.out], _, rfl, by rw [HE2.out]; exact HOW.out⟩, hbl⟩
      have vi : ((i : Int) == (s.size : Int)) = false := by simp; omega
      have hi2 : i < s.size := by omega
      have i1 : (i : Int) < (s.size : Int) := by omega
      obtain ⟨cb, hd, hcb⟩ := drop_gB l i (by rw [HL.out]; exact hi2)
      have hg := HG.out i hi2
      rw [← hcb] at hg
      rw [hd] at HE
      have HD := Lib.hid hd
      clear hd hi hcb
      by_cases c35 : bI cb = 35
      · have v2 : (bI cb == 35) = true := by simpa using c35
        have e : R = (0, out) := by rw [← HE.out]; simp [cutM, glue, c35]
        have HE2 := Lib.hid e
        clear e c35 HE
        go_wp2_with fail
        simp only [Exit.jumps_ret]
        go_ret2
        exact ⟨Or.inl ⟨by rw [HE2.out], _, rfl, by rw [HE2.out]; exact HOW.out⟩, hbl⟩
      have v2 : (bI cb == 35) = false := by simpa using c35
      by_cases c32 : bI cb = 32
      · have v3 : (bI cb == 32) = true := by simpa using c32
        have HE2 : Hid (CutJ l R 0 (i + 1) f out) := by
          have := HE.out
          rw [show cutM 0 (cb :: l.drop (i + 1)) out.length [] = cutM 0 (l.drop (i + 1)) out.length [] by simp [cutM, c32]] at this
          exact this
        clear c35 c32 HE
        go_wp2_with fail
        go_step3
        exact ⟨⟨i + 1, f, out, _, by omega, by omega, ho32, HE2, HOW.out, hbl, ⟨_, _, _, _, _, _, _, _, _, _, _, _, _, _, _, _, _, _, _, _, _, _, _, _, _, _, _, _, _, _, _, _, _, _, _, _, _, _, _, _, _, _, _, _, _, _, _, _, _, _, _, _, _, _, _, _, _, _, _, _, _, _, _, _, _, _, _, _, _, _, _, _, _, _, _, _, _, _, _, _, _, _, _, _, _, _, _, _, _, _, _, _, _, _, _, _, _, _, _, rfl⟩⟩, by simp [intOf, cutMu]; omega⟩
      have v3 : (bI cb == 32) = false := by simpa using c32
      by_cases o32 : out.length = 32
      · have v4' : ((out.length : Int) == 32) = true := by simp; omega
        have e : R = (2, []) := by rw [← HE.out]; simp [cutM, glue, c35, c32, o32]
        have HE2 := Lib.hid e
        clear e c35 c32 o32 HE
        go_wp2_with fail
        simp only [Exit.jumps_ret]
        go_ret2
        exact ⟨Or.inr ⟨by rw [HE2.out]; decide, by rw [HE2.out]; rfl⟩, hbl⟩
      have v4' : ((out.length : Int) == 32) = false := by simp; omega
      by_cases c34 : bI cb = 34
      · have v5 : (bI cb == 34) = true := by simpa using c34
        have HE2 : Hid (CutJ l R 1 (i + 1) (i + 1) out) := by
          have := HE.out
          rw [show cutM 0 (cb :: l.drop (i + 1)) out.length [] = cutM 2 (l.drop (i + 1)) out.length [] by simp [cutM, o32, c34]] at this
          refine ⟨?_, o32⟩
          rw [Nat.sub_self, List.take_zero]
          exact this
        clear c35 c32 o32 c34 HE
        go_wp2_with fail
        go_step3
        exact ⟨⟨i + 1, i + 1, out, _, by omega, by omega, ho32, HE2, HOW.out, hbl, ⟨_, _, _, _, _, _, _, _, _, _, _, _, _, _, _, _, _, _, _, _, _, _, _, _, _, _, _, _, _, _, _, _, _, _, _, _, _, _, _, _, _, _, _, _, _, _, _, _, _, _, _, _, _, _, _, _, _, _, _, _, _, _, _, _, _, _, _, _, _, _, _, _, _, _, _, _, _, _, _, _, _, _, _, _, _, _, _, _, _, _, _, _, _, _, _, _, _, _, _, rfl⟩⟩, by simp [intOf, cutMu]; omega⟩
      have v5 : (bI cb == 34) = false := by simpa using c34
      have HE2 : Hid (CutJ l R 2 i i out) := by
        have := HE.out
        rw [show cutM 0 (cb :: l.drop (i + 1)) out.length [] = cutM 1 (l.drop i) out.length [] by rw [HD.out]; simp [cutM, c35, c32, o32, c34]] at this
        refine ⟨?_, o32⟩
        rw [Nat.sub_self, List.take_zero]
        exact this
      clear c35 c32 o32 c34 HE
      go_upto_region 15 with (fail)
      go_step3
      simp only [Exit.then]
      rename_i hK
      exact hK _ _ (find_wp rfl (HH.out 2 _ _ ⟨i, i, out, _, by omega, by omega, ho32, HE2, HOW.out, hbl, ⟨_, _, _, _, _, _, _, _, _, _, _, _, _, _, _, _, _, _, _, _, _, _, _, _, _, _, _, _, _, _, _, _, _, _, _, _, _, _, _, _, _, _, _, _, _, _, _, _, _, _, _, _, _, _, _, _, _, _, _, _, _, _, _, _, _, _, _, _, _, _, _, _, _, _, _, _, _, _, _, _, _, _, _, _, _, _, _, _, _, _, _, _, _, _, _, _, _, _, _, rfl⟩⟩ (by simp [intOf, cutMu])))
    | 2, hJ =>
      refine wp_of_find rfl ?_
      obtain ⟨h1, h2⟩ := hJ.out
      have HE := Lib.hid h1
      clear hJ h1
      have hem : (l.drop f).take (i - f) = [] ↔ f = i := ext_nil l f i hfi (by rw [HL.out]; exact his)
      by_cases hin : i < s.size ∧ plB (gB l i) = true
      · obtain ⟨hi2, hp⟩ := hin
        have v1' : decide ((i : Int) < (s.size : Int)) = true := by simp; omega
        obtain ⟨cb, hd, hcb⟩ := drop_gB l i (by rw [HL.out]; exact hi2)
        have hg := HG.out i hi2
        have i1 : (i : Int) < (s.size : Int) := by omega
        have HE2 : Hid (CutJ l R 2 (i + 1) f out) := by
          have := HE.out
          rw [hd, show cutM 1 (cb :: l.drop (i + 1)) out.length ((l.drop f).take (i - f)) = cutM 1 (l.drop (i + 1)) out.length ((l.drop f).take (i - f) ++ [cb]) by simp [cutM, hcb, hp]] at this
          refine ⟨?_, h2⟩
          rw [ext_snoc l f i hfi (by rw [HL.out]; exact hi2) hd]
          exact this
        have KP : Hid (∀ W, Calls Tryz.prog 28 #[.int .u8 (gB l i)] W fun e w' => e = .returned (.bool true) ∧ W = w') := fun W => by rw [← hp]; exact plain_c (gB l i) W
        generalize gB l i = c at *
        clear hd hcb hp HE h2 hem
        go_wp2_with fail
        refine (KP.out _).mono ?_
        rintro e w2 ⟨rfl, rfl⟩
        go_wp2_with fail
        go_step3
        exact ⟨⟨i + 1, f, out, _, by omega, by omega, ho32, HE2, HOW.out, hbl, ⟨_, _, _, _, _, _, _, _, _, _, _, _, _, _, _, _, _, _, _, _, _, _, _, _, _, _, _, _, _, _, _, _, _, _, _, _, _, _, _, _, _, _, _, _, _, _, _, _, _, _, _, _, _, _, _, _, _, _, _, _, _, _, _, _, _, _, _, _, _, _, _, _, _, _, _, _, _, _, _, _, _, _, _, _, _, _, _, _, _, _, _, _, _, _, _, _, _, _, _, rfl⟩⟩, by simp [intOf, cutMu]; split <;> split <;> omega⟩
      have HCC : Hid (i = l.length ∨ ∃ c r, l.drop i = c :: r ∧ plB (bI c) = false) := by
        by_cases hi : i < s.size
        · obtain ⟨cb, hd, hcb⟩ := drop_gB l i (by rw [HL.out]; exact hi)
          refine Or.inr ⟨cb, _, hd, ?_⟩
          rw [hcb]
          cases hp : plB (gB l i)
          · rfl
          · exact absurd ⟨hi, hp⟩ hin
        · exact Or.inl (by rw [HL.out]; omega)
      have HCD : Hid (l.drop i = [] ∨ ∃ c r, l.drop i = c :: r ∧ plB (bI c) = false) := by
        rcases HCC.out with h | h
        · exact Or.inl (drop_end l i h)
        · exact Or.inr h
      have HTH : Hid (f = i → R = (5, [])) := fun h => by
        rw [← HE.out, hem.2 h]
        rcases HCD.out with h' | ⟨c, r, h', hp⟩
        · rw [h']; simp [cutM, glue]
        · rw [h']; simp [cutM, glue, hp]
      have HFO : Hid (f ≠ i → CutJ l R 4 i f (out ++ [(l.drop f).take (i - f)])) := fun h => by
        show glue _ (cutK _ _) = R
        rw [← HE.out, cutM_end _ _ _ (fun e => h (hem.1 e)) HCD.out, glue3]
        simp
      clear HE HCC HCD hem
      by_cases hi : i < s.size
      · have v1' : decide ((i : Int) < (s.size : Int)) = true := by simp; omega
        have hp : plB (gB l i) = false := by
          cases hp : plB (gB l i)
          · rfl
          · exact absurd ⟨hi, hp⟩ hin
        have hg := HG.out i hi
        have i1 : (i : Int) < (s.size : Int) := by omega
        have KP : Hid (∀ W, Calls Tryz.prog 28 #[.int .u8 (gB l i)] W fun e w' => e = .returned (.bool false) ∧ W = w') := fun W => by rw [← hp]; exact plain_c (gB l i) W
        generalize gB l i = c at *
        clear hp hin
        by_cases hff : f = i
        · have vf : ((i : Int) == (f : Int)) = true := by simp; omega
          have HE2 : Hid (CutJ l R 3 i f out) := HTH.out hff
          clear HTH HFO
          subst hff
          go_wp2_with fail
          refine (KP.out _).mono ?_
          rintro e w2 ⟨rfl, rfl⟩
          go_wp2_with fail
          go_step3
          exact ⟨⟨f, f, out, _, Nat.le_refl _, his, ho32, HE2, HOW.out, hbl, ⟨_, _, _, _, _, _, _, _, _, _, _, _, _, _, _, _, _, _, _, _, _, _, _, _, _, _, _, _, _, _, _, _, _, _, _, _, _, _, _, _, _, _, _, _, _, _, _, _, _, _, _, _, _, _, _, _, _, _, _, _, _, _, _, _, _, _, _, _, _, _, _, _, _, _, _, _, _, _, _, _, _, _, _, _, _, _, _, _, _, _, _, _, _, _, _, _, _, _, _, rfl⟩⟩, by simp [intOf, cutMu]⟩
        · have vf : ((i : Int) == (f : Int)) = false := by simp; omega
          have HE2 := Lib.hid (HFO.out hff)
          have hxx := HX.out f i
          have f0 : (0 : Int) ≤ (f : Int) := by omega
          have f1 : (f : Int) ≤ (i : Int) := by omega
          have f2 : ((f : Int)).toNat = f := by omega
          have HFF := Lib.hid hff
          clear HTH HFO hff
          go_wp2_with fail
          refine (KP.out _).mono ?_
          rintro e w2 ⟨rfl, rfl⟩
          go_wp2_with (at_builtin; refine wpList_app1 _ rfl _ _ 33 rfl 9 _ 1 16 Tryz.underlying33 info_str rfl (by decide) rfl HOW.out.2 _ rfl (by first | rfl | simp) rfl (by simp [Value.oneCell']) (by omega) (by omega) (by first | omega | (simp; omega)) ?_; intro v6 w6 ho' hg)
          go_step3
          refine ⟨⟨i, f, _, _, hfi, his, (by simp; omega), HE2, ⟨by simp, by simpa [stC, List.flatMap_append, mkB] using ho'⟩, (bP hbl HOW.out.2 hg (Nat.le_refl _)), ⟨_, _, _, _, _, _, _, _, _, _, _, _, _, _, _, _, _, _, _, _, _, _, _, _, _, _, _, _, _, _, _, _, _, _, _, _, _, _, _, _, _, _, _, _, _, _, _, _, _, _, _, _, _, _, _, _, _, _, _, _, _, _, _, _, _, _, _, _, _, _, _, _, _, _, _, _, _, _, _, _, _, _, _, _, _, _, _, _, _, _, _, _, _, _, _, _, _, _, _, rfl⟩⟩, ?_⟩
          · have := HFF.out
            simp [intOf, cutMu]; split <;> omega
      · obtain rfl : i = s.size := by omega
        have v1' : decide ((s.size : Int) < (s.size : Int)) = false := by simp
        clear hin
        by_cases hff : f = s.size
        · have vf : ((s.size : Int) == (f : Int)) = true := by simp; omega
          have HE2 : Hid (CutJ l R 3 s.size f out) := HTH.out hff
          have HFF := Lib.hid hff
          clear HTH HFO hff
          go_wp2_with fail
          go_step3
          refine ⟨⟨s.size, f, out, _, hfi, his, ho32, HE2, HOW.out, hbl, ⟨_, _, _, _, _, _, _, _, _, _, _, _, _, _, _, _, _, _, _, _, _, _, _, _, _, _, _, _, _, _, _, _, _, _, _, _, _, _, _, _, _, _, _, _, _, _, _, _, _, _, _, _, _, _, _, _, _, _, _, _, _, _, _, _, _, _, _, _, _, _, _, _, _, _, _, _, _, _, _, _, _, _, _, _, _, _, _, _, _, _, _, _, _, _, _, _, _, _, _, rfl⟩⟩, ?_⟩
          have := HFF.out
          simp [intOf, cutMu, ← this]
        · have vf : ((s.size : Int) == (f : Int)) = false := by simp; omega
          have HE2 := Lib.hid (HFO.out hff)
          have hxx := HX.out f s.size
          have f0 : (0 : Int) ≤ (f : Int) := by omega
          have f1 : (f : Int) ≤ (s.size : Int) := by omega
          have f2 : ((f : Int)).toNat = f := by omega
          have HFF := Lib.hid hff
          clear HTH HFO hff
          go_wp2_with (at_builtin; refine wpList_app1 _ rfl _ _ 33 rfl 9 _ 1 16 Tryz.underlying33 info_str rfl (by decide) rfl HOW.out.2 _ rfl (by first | rfl | simp) rfl (by simp [Value.oneCell']) (by omega) (by omega) (by first | omega | (simp; omega)) ?_; intro v6 w6 ho' hg)
          go_step3
          refine ⟨⟨s.size, f, _, _, hfi, his, (by simp; omega), HE2, ⟨by simp, by simpa [stC, List.flatMap_append, mkB] using ho'⟩, (bP hbl HOW.out.2 hg (Nat.le_refl _)), ⟨_, _, _, _, _, _, _, _, _, _, _, _, _, _, _, _, _, _, _, _, _, _, _, _, _, _, _, _, _, _, _, _, _, _, _, _, _, _, _, _, _, _, _, _, _, _, _, _, _, _, _, _, _, _, _, _, _, _, _, _, _, _, _, _, _, _, _, _, _, _, _, _, _, _, _, _, _, _, _, _, _, _, _, _, _, _, _, _, _, _, _, _, _, _, _, _, _, _, _, rfl⟩⟩, ?_⟩
          · have := HFF.out
            simp [intOf, cutMu]; split <;> omega
    | 1, hJ =>
      refine wp_of_find rfl ?_
      obtain ⟨h1, h2⟩ := hJ.out
      have HE := Lib.hid h1
      clear hJ h1
      by_cases hi : i = s.size
      · have vi : ((i : Int) == (s.size : Int)) = true := by simp; omega
        have HE2 : Hid (CutJ l R 3 i f out) := by
          show R = (5, [])
          rw [← HE.out, drop_end l i (by rw [HL.out]; exact hi)]; simp [cutM, glue]
        have HIS := Lib.hid hi
        clear hi HE
        go_wp2_with fail
        go_step3
        exact ⟨⟨i, f, out, _, hfi, his, ho32, HE2, HOW.out, hbl, ⟨_, _, _, _, _, _, _, _, _, _, _, _, _, _, _, _, _, _, _, _, _, _, _, _, _, _, _, _, _, _, _, _, _, _, _, _, _, _, _, _, _, _, _, _, _, _, _, _, _, _, _, _, _, _, _, _, _, _, _, _, _, _, _, _, _, _, _, _, _, _, _, _, _, _, _, _, _, _, _, _, _, _, _, _, _, _, _, _, _, _, _, _, _, _, _, _, _, _, _, rfl⟩⟩, by have := HIS.out; simp [intOf, cutMu]⟩
      have vi : ((i : Int) == (s.size : Int)) = false := by simp; omega
      have hi2 : i < s.size := by omega
      have i1 : (i : Int) < (s.size : Int) := by omega
      obtain ⟨cb, hd, hcb⟩ := drop_gB l i (by rw [HL.out]; exact hi2)
      have hg := HG.out i hi2
      rw [hd] at HE
      have HD := Lib.hid hd
      have HXS := Lib.hid (ext_snoc l f i hfi (by rw [HL.out]; exact hi2) hd)
      clear hd hi
      have KSH := Lib.hid (shown_c (gB l i))
      rw [← hcb] at hg KSH
      clear hcb
      cases hsh : shB (bI cb)
      · rw [hsh] at KSH
        by_cases c34 : bI cb = 34
        · have v34 : (bI cb != 34) = false := by simp [c34]
          have HE2 : Hid (CutJ l R 4 (i + 1) f (out ++ [(l.drop f).take (i - f)])) := by
            show glue _ (cutK _ _) = R
            rw [← HE.out, show cutM 2 (cb :: l.drop (i + 1)) out.length ((l.drop f).take (i - f)) = cutM 3 (l.drop (i + 1)) out.length ((l.drop f).take (i - f)) by simp only [cutM, hsh]; simp [c34], glue3]
            simp
          have hxx := HX.out f i
          have f0 : (0 : Int) ≤ (f : Int) := by omega
          have f1 : (f : Int) ≤ (i : Int) := by omega
          have f2 : ((f : Int)).toNat = f := by omega
          clear c34 hsh HE
          go_wp2_with fail
          refine (KSH.out _).mono ?_
          rintro e w2 ⟨rfl, rfl⟩
          go_upto_region 25 with (at_builtin; refine wpList_app1 _ rfl _ _ 33 rfl 9 _ 1 16 Tryz.underlying33 info_str rfl (by decide) rfl HOW.out.2 _ rfl (by first | rfl | simp) rfl (by simp [Value.oneCell']) (by omega) (by omega) (by first | omega | (simp; omega)) ?_; intro v6 w6 ho' hg)
          go_step3
          simp only [Exit.then]
          rename_i hK
          exact hK _ _ (find_wp rfl (HH.out 4 _ _ ⟨i + 1, f, _, _, by omega, by omega, (by simp; omega), HE2, ⟨by simp, by simpa [stC, List.flatMap_append, mkB] using ho'⟩, (bP hbl HOW.out.2 hg (Nat.le_refl _)), ⟨_, _, _, _, _, _, _, _, _, _, _, _, _, _, _, _, _, _, _, _, _, _, _, _, _, _, _, _, _, _, _, _, _, _, _, _, _, _, _, _, _, _, _, _, _, _, _, _, _, _, _, _, _, _, _, _, _, _, _, _, _, _, _, _, _, _, _, _, _, _, _, _, _, _, _, _, _, _, _, _, _, _, _, _, _, _, _, _, _, _, _, _, _, _, _, _, _, _, _, rfl⟩⟩ (by simp [intOf, cutMu]; omega)))
        · have v34 : (bI cb != 34) = true := by simpa using c34
          have HE2 : Hid (CutJ l R 3 i f out) := by
            show R = (5, [])
            rw [← HE.out]; simp [cutM, glue, hsh, c34]
          clear c34 hsh HE
          go_wp2_with fail
          refine (KSH.out _).mono ?_
          rintro e w2 ⟨rfl, rfl⟩
          go_wp2_with fail
          go_step3
          exact ⟨⟨i, f, out, _, hfi, his, ho32, HE2, HOW.out, hbl, ⟨_, _, _, _, _, _, _, _, _, _, _, _, _, _, _, _, _, _, _, _, _, _, _, _, _, _, _, _, _, _, _, _, _, _, _, _, _, _, _, _, _, _, _, _, _, _, _, _, _, _, _, _, _, _, _, _, _, _, _, _, _, _, _, _, _, _, _, _, _, _, _, _, _, _, _, _, _, _, _, _, _, _, _, _, _, _, _, _, _, _, _, _, _, _, _, _, _, _, _, rfl⟩⟩, by simp [intOf, cutMu]⟩
      · rw [hsh] at KSH
        have HE2 : Hid (CutJ l R 1 (i + 1) f out) := by
          refine ⟨?_, h2⟩
          rw [← HE.out, show cutM 2 (cb :: l.drop (i + 1)) out.length ((l.drop f).take (i - f)) = cutM 2 (l.drop (i + 1)) out.length ((l.drop f).take (i - f) ++ [cb]) by simp [cutM, hsh], HXS.out]
        clear hsh HE
        go_wp2_with fail
        refine (KSH.out _).mono ?_
        rintro e w2 ⟨rfl, rfl⟩
        go_wp2_with fail
        go_step3
        exact ⟨⟨i + 1, f, out, _, by omega, by omega, ho32, HE2, HOW.out, hbl, ⟨_, _, _, _, _, _, _, _, _, _, _, _, _, _, _, _, _, _, _, _, _, _, _, _, _, _, _, _, _, _, _, _, _, _, _, _, _, _, _, _, _, _, _, _, _, _, _, _, _, _, _, _, _, _, _, _, _, _, _, _, _, _, _, _, _, _, _, _, _, _, _, _, _, _, _, _, _, _, _, _, _, _, _, _, _, _, _, _, _, _, _, _, _, _, _, _, _, _, _, rfl⟩⟩, by simp [intOf, cutMu]; omega⟩
    | 4, hJ =>
      refine wp_of_find rfl ?_
      have HE : Hid (glue out (cutK (l.drop i) out.length) = R) := hJ.out
      clear hJ
      have HY : Hid (endsB (l.drop i) = true → CutJ l R 0 i f out) := fun h => by
        show glue out (cutM 0 (l.drop i) out.length []) = R
        rw [← HE.out]; unfold cutK; rw [if_pos h]
      have HN : Hid (endsB (l.drop i) = false → R = (5, [])) := fun h => by
        rw [← HE.out]; unfold cutK; rw [if_neg (by simp [h])]; exact glue_stop out 5 (by decide)
      clear HE
      by_cases hi : i = s.size
      · have vi : ((i : Int) == (s.size : Int)) = true := by simp; omega
        have HE2 := Lib.hid (HY.out (by rw [drop_end l i (by rw [HL.out]; exact hi)]; rfl))
        clear hi HY HN
        go_wp2_with fail
        go_step3
        exact ⟨⟨i, f, out, _, hfi, his, ho32, HE2, HOW.out, hbl, ⟨_, _, _, _, _, _, _, _, _, _, _, _, _, _, _, _, _, _, _, _, _, _, _, _, _, _, _, _, _, _, _, _, _, _, _, _, _, _, _, _, _, _, _, _, _, _, _, _, _, _, _, _, _, _, _, _, _, _, _, _, _, _, _, _, _, _, _, _, _, _, _, _, _, _, _, _, _, _, _, _, _, _, _, _, _, _, _, _, _, _, _, _, _, _, _, _, _, _, _, rfl⟩⟩, by simp [intOf, cutMu]⟩
      have vi : ((i : Int) == (s.size : Int)) = false := by simp; omega
      have hi2 : i < s.size := by omega
      have i1 : (i : Int) < (s.size : Int) := by omega
      obtain ⟨cb, hd, hcb⟩ := drop_gB l i (by rw [HL.out]; exact hi2)
      have hg := HG.out i hi2
      rw [← hcb] at hg
      rw [hd] at HY HN
      clear hd hi hcb
      by_cases c32 : bI cb = 32
      · have v3 : (bI cb == 32) = true := by simpa using c32
        have HE2 := Lib.hid (HY.out (by unfold endsB; simp [c32]))
        clear c32 HY HN
        go_wp2_with fail
        go_step3
        exact ⟨⟨i, f, out, _, hfi, his, ho32, HE2, HOW.out, hbl, ⟨_, _, _, _, _, _, _, _, _, _, _, _, _, _, _, _, _, _, _, _, _, _, _, _, _, _, _, _, _, _, _, _, _, _, _, _, _, _, _, _, _, _, _, _, _, _, _, _, _, _, _, _, _, _, _, _, _, _, _, _, _, _, _, _, _, _, _, _, _, _, _, _, _, _, _, _, _, _, _, _, _, _, _, _, _, _, _, _, _, _, _, _, _, _, _, _, _, _, _, rfl⟩⟩, by simp [intOf, cutMu]⟩
      have v3 : (bI cb == 32) = false := by simpa using c32
      by_cases c35 : bI cb = 35
      · have v2 : (bI cb == 35) = true := by simpa using c35
        have HE2 := Lib.hid (HY.out (by unfold endsB; simp [c35]))
        clear c32 c35 HY HN
        go_wp2_with fail
        go_step3
        exact ⟨⟨i, f, out, _, hfi, his, ho32, HE2, HOW.out, hbl, ⟨_, _, _, _, _, _, _, _, _, _, _, _, _, _, _, _, _, _, _, _, _, _, _, _, _, _, _, _, _, _, _, _, _, _, _, _, _, _, _, _, _, _, _, _, _, _, _, _, _, _, _, _, _, _, _, _, _, _, _, _, _, _, _, _, _, _, _, _, _, _, _, _, _, _, _, _, _, _, _, _, _, _, _, _, _, _, _, _, _, _, _, _, _, _, _, _, _, _, _, rfl⟩⟩, by simp [intOf, cutMu]⟩
      have v2 : (bI cb == 35) = false := by simpa using c35
      have HE := Lib.hid (HN.out (by unfold endsB; simp [c32, c35]))
      clear c32 c35 HY HN
      go_wp2_with fail
      go_step3
      go_wp2_with fail
      simp only [Exit.jumps_ret]
      go_ret2
      exact ⟨Or.inr ⟨by rw [HE.out]; decide, by rw [HE.out]; rfl⟩, hbl⟩
    | n + 5, hJ => exact hJ.out.elim
  · intro HP
    have HP := Lib.hid HP
    go_upto_region 5 with (fail)
    go_step3
    simp only [Exit.then]
    rename_i hK
    exact hK _ _ (find_wp rfl (HP.out 0 _ _ ⟨0, 0, [], _, Nat.le_refl _, Nat.zero_le _, by decide, (show Hid (CutJ l R 0 0 0 []) from by show glue [] (cutM 0 (l.drop 0) 0 []) = R; rw [List.drop_zero, HR2.out]; exact glue_one R (by rw [← HR2.out]; exact cutM_nil l 0 0 [])), ⟨rfl, World.ownsRow_nil _ _ _ _⟩, b0 _, ⟨_, _, _, _, _, _, _, _, _, _, _, _, _, _, _, _, _, _, _, _, _, _, _, _, _, _, _, _, _, _, _, _, _, _, _, _, _, _, _, _, _, _, _, _, _, _, _, _, _, _, _, _, _, _, _, _, _, _, _, _, _, _, _, _, _, _, _, _, _, _, _, _, _, _, _, _, _, _, _, _, _, _, _, _, _, _, _, _, _, _, _, _, _, _, _, _, _, _, _, rfl⟩⟩))
--%%
end Go.Proofs.YtcngmajkkhipoaaGreatDoor
