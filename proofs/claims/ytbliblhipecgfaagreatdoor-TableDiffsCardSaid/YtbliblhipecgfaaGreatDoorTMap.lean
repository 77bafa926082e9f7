/-
  Counts by strings: a map of the call's own, told by what each string reads as; table.without. Conditions as named.
-/
import Derived.Test.YtbliblhipecgfaaGreatDoorTStep
import Derived.Maps.OwnOps
import Derived.Maps.Views
namespace Go.Proofs.YtbliblhipecgfaaGreatDoor
set_option linter.unusedVariables false
open Go.RowKit
open Go.WideMaps Go.Maps
theorem mlaw : Keyed Tryz.prog 9 := string_keyed Tryz.underlying9
theorem mzero (w : World) : (zeroValue 3).run Tryz.prog w = .ok (.int .i64 0) w := by kernel_rfl
def kOf (s : ByteArray) : Lit := .string s.data.toList
theorem kOf_ne {s x : ByteArray} (h : s ≠ x) : kOf s ≠ kOf x := fun e => by
  injection e with e
  apply h
  cases s; cases x
  simp at e
  rw [e]
theorem key_of {s : ByteArray} (h : s.size ≤ maxLen) : keyOf Tryz.prog 9 (.string s) = some (kOf s) := keyOf_string_mk Tryz.underlying9 h
abbrev MapIs (w : World) (B n : Nat) (D : DataW Unit) : Prop := w.ownsMap Tryz.prog 9 (plainElem Tryz.prog 3) B n D
/-- each string reads as its count -/
def Reads (D : DataW Unit) (f : ByteArray → Int) : Prop := IsMap D ∧ ∀ s : ByteArray, D.atKey (kOf s) (.lit (.int .i64 0)) = .lit (.int .i64 (f s))
def updF (f : ByteArray → Int) (x : ByteArray) (v : Int) : ByteArray → Int := fun s => if s = x then v else f s
theorem updF_same (f : ByteArray → Int) (x : ByteArray) (v : Int) : updF f x v x = v := if_pos rfl
theorem updF_other {f : ByteArray → Int} {x s : ByteArray} {v : Int} (h : s ≠ x) : updF f x v s = f s := if_neg h
theorem Reads.nil : Reads (.map []) (fun _ => 0) := ⟨⟨[], rfl⟩, fun s => rfl⟩
theorem Reads.put {D : DataW Unit} {f : ByteArray → Int} (h : Reads D f) (x : ByteArray) (v : Int) : Reads (D.put (kOf x) (.lit (.int .i64 v))) (updF f x v) := by
  refine ⟨h.1.put _ _, fun s => ?_⟩
  by_cases e : s = x
  · subst e
    rw [atKey_put_same h.1 (show WideAt.IsKeyLit (kOf s) by unfold kOf; exact trivial), updF_same]
  · rw [atKey_put_other (kOf_ne e), updF_other e]
    exact h.2 s
theorem Reads.look {D : DataW Unit} {f : ByteArray → Int} (h : Reads D f) {s : ByteArray} {c : Int} (hc : D.atKey (kOf s) (.lit (.int .i64 0)) = .lit (.int .i64 c)) : c = f s := by
  rw [h.2 s] at hc
  injection hc with hc
  injection hc with _ hc
  exact hc.symm
/-! ### counts of strings -/
def cntF (L : List ByteArray) : Nat → ByteArray → Int
  | 0 => fun _ => 0
  | k + 1 => updF (cntF L k) (L.getD k st0) (cntF L k (L.getD k st0) + 1)
def woF (f : ByteArray → Int) (L : List ByteArray) : Nat → ByteArray → Int
  | 0 => f
  | k + 1 => if 0 < woF f L k (L.getD k st0) then updF (woF f L k) (L.getD k st0) (woF f L k (L.getD k st0) - 1) else woF f L k
def woO (f : ByteArray → Int) (L : List ByteArray) : Nat → List ByteArray
  | 0 => []
  | k + 1 => if 0 < woF f L k (L.getD k st0) then woO f L k else woO f L k ++ [L.getD k st0]
theorem cntF_bd (L : List ByteArray) : ∀ k s, 0 ≤ cntF L k s ∧ cntF L k s ≤ k := by
  intro k
  induction k with
  | zero => intro s; exact ⟨Int.le_refl _, Int.le_refl _⟩
  | succ k ih =>
    intro s
    have h1 := ih s
    have h2 := ih (L.getD k st0)
    show 0 ≤ updF _ _ _ s ∧ updF _ _ _ s ≤ _
    by_cases e : s = L.getD k st0
    · rw [e, updF_same]; omega
    · rw [updF_other e]; omega
theorem woF_bd {f : ByteArray → Int} {m : Int} (hf : ∀ s, 0 ≤ f s ∧ f s ≤ m) (L : List ByteArray) : ∀ k s, 0 ≤ woF f L k s ∧ woF f L k s ≤ m := by
  intro k
  induction k with
  | zero => exact hf
  | succ k ih =>
    intro s
    have h1 := ih s
    have h2 := ih (L.getD k st0)
    unfold woF
    split
    · by_cases e : s = L.getD k st0
      · rw [e, updF_same]; omega
      · rw [updF_other e]; omega
    · exact h1
theorem woO_len (f : ByteArray → Int) (L : List ByteArray) : ∀ k, (woO f L k).length ≤ k := by
  intro k
  induction k with
  | zero => exact Nat.le_refl _
  | succ k ih =>
    unfold woO
    split
    · omega
    · rw [List.length_append]; simp; exact ih
theorem own_map_ne {w : World} {base size n : Nat} {e : TypeId} {v : Value} {xs : List Value} (h : w.ownsRow base e size v n xs) {B m : Nat} {D : DataW Unit} (hm : MapIs w B m D) : some B ≠ v.ownBlock := by
  obtain ⟨es, clock, hb, _⟩ := hm
  rcases h.2 with ⟨rfl, _⟩ | ⟨g, cap, cur, rfl, _, hg, _⟩
  · simp [Value.ownBlock]
  · intro he
    simp only [Value.ownBlock, Option.some.injEq] at he
    subst he
    rw [hb] at hg
    cases hg
theorem MapIs.t {w w' : World} {B n : Nat} {D : DataW Unit} (h : MapIs w B n D) (hb : Below w.heap.size w w') : MapIs w' B n D := by
  have hlt := h.lt
  obtain ⟨es, clock, hh, rest⟩ := h
  exact ⟨es, clock, (hb.block B hlt).trans hh, rest⟩
theorem below_map {w W W' : World} (h : Below w.heap.size w W) {B : Nat} (hg : W.grownBy W' (some B)) (hB : w.heap.size ≤ B) : Below w.heap.size w W' := h.grown hg h.size (fun j hj => by cases hj; exact hB)
--%%
set_option maxRecDepth 100000 in
set_option maxHeartbeats 6400000 in
theorem without_c (A B : Option Addr) (n c m d : Nat) (L M : List ByteArray) (w : World) (hl : StSl w A n L) (hm : StSl w B m M) (hls : ∀ k, k < n → (L.getD k st0).size ≤ 1000000) (hms : ∀ k, k < m → (M.getD k st0).size ≤ 1000000) (hn : n ≤ 1000) (hm9 : m ≤ 1000) :
    Calls Tryz.prog 44 #[.slice A n c, .slice B m d] w (GivesSt (woO (cntF M m) L n).length (woO (cntF M m) L n) w) := by
  have HL := Lib.hid hl
  have HM := Lib.hid hm
  have HLS := Lib.hid hls
  have HMS := Lib.hid hms
  have hmm := @run_makeMap Tryz.prog
  clear hl hm hls hms
  go_enter Tryz.func44, Tryz.ntmps44
  go_wp2_with fail
  go_loopw [14] (fun i wr => ∃ (k : Nat) (D : DataW Unit), k ≤ m ∧ i = .int .i64 k ∧ MapIs wr w.heap.size k D ∧ Hid (Reads D (cntF M k)) ∧ Below w.heap.size w wr) (fun i _ => m - (intOf i).toNat)
  case atStart => exact ⟨0, .map [], Nat.zero_le _, rfl, World.ownsMap_made _ _ _ _, Reads.nil, below1 _ _⟩
  case round =>
    obtain ⟨k, D, hk', rfl, hown, HRD, hbl⟩ := hrel
    by_cases hk : k < m
    case pos =>
      obtain ⟨b, off, rfl, hlt, hat⟩ := (HM.out.below hbl).2.2 (by omega)
      have q := hat k hk 0 _ rfl
      have hz := HMS.out k hk
      have HST : Hid (cntF M (k + 1) = updF (cntF M k) (M.getD k st0) (cntF M k (M.getD k st0) + 1)) := rfl
      have hbd := cntF_bd M k (M.getD k st0)
      generalize M.getD k st0 = s at *
      simp only [Nat.mul_one, Nat.add_zero] at q
      have HKEY := Lib.hid (key_of (s := s) (by unfold maxLen; omega))
      clear hat
      go_wp2_with (first
        | (at_lookup; refine wpList_lookup_own_int _ rfl _ _ 43 rfl 9 3 .i64 mlaw Tryz.underlying43 Tryz.underlying3 (mzero _) w.heap.size k D rfl hown _ _ rfl HKEY.out ?_; intro cc hcc hwc; have hce := HRD.out.look hcc; have hc0 : 0 ≤ cc ∧ cc ≤ k := by (rw [hce]; exact hbd))
        | (at_mapUpdate; refine wpList_mapUpdate_own _ rfl _ _ _ 43 rfl 9 3 mlaw Tryz.underlying43 _ w.heap.size k D rfl hown (by unfold maxLen; omega) _ _ _ rfl rfl HKEY.out _ [] (plainElem_int Tryz.underlying3 (WalkArith.wf_i64 (by omega))) ?_; intro w1 hown1 hgrow1)
        | fail)
      have HR2 : Hid (Reads (D.put (kOf s) (.lit (.int .i64 (cntF M k s + 1)))) (cntF M (k + 1))) := by rw [HST.out]; exact HRD.out.put s _
      have HB2 := Lib.hid (below_map hbl hgrow1 (Nat.le_refl _))
      go_roundw
      case rel => exact ⟨k + 1, _, by omega, by go_num, hown1, HR2.out, HB2.out⟩
      case measure => simp [intOf]; omega
    obtain rfl : k = m := by omega
    have HB1 := Lib.hid hbl
    have HOW := Lib.hid hown
    have HFB : Hid (∀ s, 0 ≤ cntF M k s ∧ cntF M k s ≤ k) := cntF_bd M k
    generalize cntF M k = f0 at *
    clear hk hk' hown hbl
    go_wp2_with fail
    go_loopw [8, 25] (fun v i wr => ∃ (j : Nat) (D : DataW Unit) (A1 : Option Addr) (c1 q1 : Nat), j ≤ n ∧ i = .int .i64 j ∧ v = .slice A1 q1 c1 ∧ q1 ≤ j ∧ MapIs wr w.heap.size (k + j) D ∧ Hid (Reads D (woF f0 L j)) ∧ Hid (OwnSt wr w.heap.size (.slice A1 q1 c1) q1 (woO f0 L j)) ∧ Below w.heap.size w wr) (fun _ i _ => n - (intOf i).toNat)
    case atStart => exact ⟨0, D, none, 0, 0, Nat.zero_le _, rfl, rfl, Nat.le_refl _, HOW.out, HRD.out, ⟨rfl, World.ownsRow_nil _ _ _ _⟩, HB1.out⟩
    clear HOW HRD HB1
    case round =>
      obtain ⟨j, D, A1, c1, q1, hj', rfl, rfl, hq1, hown, HRD, HO, hbl⟩ := hrel
      by_cases hj : j < n
      case neg =>
        obtain rfl : n = j := by omega
        have HLN := Lib.hid HO.out.1
        have HO2 : Hid (OwnSt wr w.heap.size (.slice A1 q1 c1) (woO f0 L n).length (woO f0 L n)) := by rw [← HLN.out]; exact HO.out
        go_wp2_with fail
        go_ret
        exact ⟨⟨_, rfl, HO2.out⟩, hbl⟩
      obtain ⟨b, off, rfl, hlt, hat⟩ := (HL.out.below hbl).2.2 (by omega)
      have q := hat j hj 0 _ rfl
      have hz := HLS.out j hj
      have HSF : Hid (woF f0 L (j + 1) = if 0 < woF f0 L j (L.getD j st0) then updF (woF f0 L j) (L.getD j st0) (woF f0 L j (L.getD j st0) - 1) else woF f0 L j) := rfl
      have HSO : Hid (woO f0 L (j + 1) = if 0 < woF f0 L j (L.getD j st0) then woO f0 L j else woO f0 L j ++ [L.getD j st0]) := rfl
      have hbd := woF_bd HFB.out L j (L.getD j st0)
      generalize L.getD j st0 = s at *
      simp only [Nat.mul_one, Nat.add_zero] at q
      have HKEY := Lib.hid (key_of (s := s) (by unfold maxLen; omega))
      obtain ⟨ff, hff⟩ : ∃ ff, ff = woF f0 L j s := ⟨_, rfl⟩
      rw [← hff] at hbd
      have HFF := Lib.hid hff
      clear hat hff
      by_cases hpos : 0 < ff
      · have hv : decide (0 < ff) = true := by simpa using hpos
        have HSF2 : Hid (woF f0 L (j + 1) = updF (woF f0 L j) s (ff - 1)) := HSF.out.trans (by rw [if_pos (by rw [← HFF.out]; exact hpos), ← HFF.out])
        have HSO2 : Hid (woO f0 L (j + 1) = woO f0 L j) := HSO.out.trans (if_pos (by rw [← HFF.out]; exact hpos))
        clear HSF HSO
        go_wp2_with (first
          | (at_lookup; refine wpList_lookup_own_int _ rfl _ _ 43 rfl 9 3 .i64 mlaw Tryz.underlying43 Tryz.underlying3 (mzero _) w.heap.size (k + j) D rfl hown _ _ rfl HKEY.out ?_; intro cc hcc hwc; obtain rfl : ff = cc := HFF.out.trans (HRD.out.look hcc).symm; clear hcc hwc)
          | (at_mapUpdate; refine wpList_mapUpdate_own _ rfl _ _ _ 43 rfl 9 3 mlaw Tryz.underlying43 _ w.heap.size (k + j) D rfl hown (by unfold maxLen; omega) _ _ _ rfl rfl HKEY.out _ [] (plainElem_int Tryz.underlying3 (WalkArith.wf_i64 (by omega))) ?_; intro w1 hown1 hgrow1)
          | fail)
        have HR2 : Hid (Reads (D.put (kOf s) (.lit (.int .i64 (ff - 1)))) (woF f0 L (j + 1))) := by rw [HSF2.out]; exact HRD.out.put s _
        have HB2 := Lib.hid (below_map hbl hgrow1 (Nat.le_refl _))
        have HO2 : Hid (OwnSt w1 w.heap.size (.slice A1 q1 c1) q1 (woO f0 L (j + 1))) := by
          rw [HSO2.out]
          exact ⟨HO.out.1, HO.out.2.kept hgrow1 (Or.inr (fun e => own_map_ne HO.out.2 hown e.symm))⟩
        go_roundw
        case rel => exact ⟨j + 1, _, A1, c1, q1, by omega, by go_num, rfl, by omega, hown1, HR2.out, HO2.out, HB2.out⟩
        case measure => simp [intOf]; omega
      · have hv : decide (0 < ff) = false := by simpa using hpos
        have HSF2 : Hid (woF f0 L (j + 1) = woF f0 L j) := HSF.out.trans (if_neg (by rw [← HFF.out]; exact hpos))
        have HSO2 : Hid (woO f0 L (j + 1) = woO f0 L j ++ [s]) := HSO.out.trans (if_neg (by rw [← HFF.out]; exact hpos))
        have hsz := hbl.size
        clear HSF HSO
        go_wp2_with (first
          | (at_lookup; refine wpList_lookup_own_int _ rfl _ _ 43 rfl 9 3 .i64 mlaw Tryz.underlying43 Tryz.underlying3 (mzero _) w.heap.size (k + j) D rfl hown _ _ rfl HKEY.out ?_; intro cc hcc hwc; obtain rfl : ff = cc := HFF.out.trans (HRD.out.look hcc).symm; clear hcc hwc)
          | (at_builtin; refine wpList_app1 _ rfl _ _ 32 rfl 9 _ 1 16 Tryz.underlying32 info_str rfl (by decide) rfl HO.out.2 _ rfl (by first | rfl | simp) rfl (by simp [Value.oneCell']) (by omega) (by omega) (by first | omega | (simp; omega)) ?_; intro v' w7 ho' hg)
          | fail)
        obtain ⟨A8, c8, rfl⟩ := own_slice ho'
        have HO7 : Hid (OwnSt w7 w.heap.size (.slice A8 (q1 + 1) c8) (q1 + 1) (woO f0 L (j + 1))) := by
          rw [HSO2.out]
          exact ⟨by rw [List.length_append, ← HO.out.1]; rfl, by rw [List.flatMap_append]; exact ho'⟩
        have HR2 : Hid (Reads D (woF f0 L (j + 1))) := by rw [HSF2.out]; exact HRD.out
        have hown7 : MapIs w7 w.heap.size (k + j + 1) D := (hown.kept hg (own_map_ne HO.out.2 hown)).mono (Nat.le_succ _)
        have HB7 := Lib.hid (bP hbl HO.out.2 hg (Nat.le_refl _))
        clear ho' hg
        go_wp2_with fail
        go_roundw
        case rel => exact ⟨j + 1, _, A8, c8, q1 + 1, by omega, by go_num, rfl, by omega, hown7, HR2.out, HO7.out, HB7.out⟩
        case measure => simp [intOf]; omega
--%%
end Go.Proofs.YtbliblhipecgfaaGreatDoor
