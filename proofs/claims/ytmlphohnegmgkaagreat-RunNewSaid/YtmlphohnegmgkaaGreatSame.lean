/-
  Contracts of table.Same and of what it leans on. Conditions as named.
-/
import Derived.Test.YtmlphohnegmgkaaGreatM2
import Derived.Deep.QuietTactic
import Derived.BigQuiet
import Derived.Laws.StructEq
import Derived.Deep.RegionHeld3
namespace Go.Proofs.YtmlphohnegmgkaaGreat
set_option linter.unusedVariables false
set_option linter.unusedSimpArgs false
open Go.RowKit
def SameR (P : Prop) (w : World) (e : Ending) (w' : World) : Prop := ∃ r : Bool, (e = .returned (.bool r) ∧ (r = true ↔ P)) ∧ Below w.heap.size w w'
theorem same_no {P : Prop} (h : ¬ P) {w w' : World} (hb : Below w.heap.size w w') : SameR P w (.returned (.bool false)) w' := ⟨false, ⟨rfl, by simp [h]⟩, hb⟩
theorem same_yes {P : Prop} (h : P) {w w' : World} (hb : Below w.heap.size w w') : SameR P w (.returned (.bool true)) w' := ⟨true, ⟨rfl, by simp [h]⟩, hb⟩
theorem list_same {α : Type} {L M : List α} {d : α} (hn : L.length = M.length) (h : ∀ i, i < L.length → L.getD i d = M.getD i d) : L = M := by
  apply List.ext_getElem hn
  intro i h1 h2
  have := h i h1
  rwa [getD_get h1, getD_get h2] at this
set_option maxRecDepth 100000 in
set_option maxHeartbeats 1600000 in
theorem seqB_c (A B : Option Addr) (n c m d : Nat) (L M : List Bd) (w : World) (hl : BandSl w A n L) (hm : BandSl w B m M) :
    Calls Tryz.prog 107 #[.slice A n c, .slice B m d] w (SameR (L = M) w) := by
  have HL := Lib.hid hl
  have HM := Lib.hid hm
  have hn9 := hl.2.1
  have hm9 := hm.2.1
  have HNL := Lib.hid hl.1
  have HNM := Lib.hid hm.1
  clear hl hm
  by_cases hnm : n = m
  case neg =>
    have HG : Hid (¬ L = M) := fun h => hnm (by rw [HNL.out, HNM.out, h])
    have v : ((n : Int) != (m : Int)) = true := by simp; omega
    clear hnm
    go_enter Tryz.func107, Tryz.ntmps107
    go_wp2_with fail
    go_ret
    exact same_no HG.out (b0 _)
  subst hnm
  have v : ((n : Int) != (n : Int)) = false := by simp
  go_enter Tryz.func107, Tryz.ntmps107
  go_wp2_with fail
  go_loopw [5, 13] (fun _ i wr => ∃ k : Nat, k ≤ n ∧ i = .int .i64 k ∧ Hid (∀ i, i < k → L.getD i bd0 = M.getD i bd0) ∧ Below w.heap.size w wr) (fun _ i _ => n - (intOf i).toNat)
  case atStart => exact ⟨0, Nat.zero_le _, rfl, fun i hi => absurd hi (Nat.not_lt_zero _), b0 _⟩
  case round =>
    obtain ⟨k, hk', rfl, HA, hbl⟩ := hrel
    by_cases hk : k < n
    case neg =>
      have HG : Hid (L = M) := list_same (by rw [← HNL.out, ← HNM.out]) (fun i hi => HA.out i (by have := HNL.out; omega))
      go_wp2_with fail
      go_ret
      exact same_yes HG.out hbl
    obtain ⟨b, off, rfl, hlt, hat⟩ := (HL.out.below hbl).2.2 (by omega)
    obtain ⟨b2, off2, rfl, hlt2, hat2⟩ := (HM.out.below hbl).2.2 (by omega)
    obtain ⟨c0, c1, c2⟩ := hat k (by rw [← HNL.out]; exact hk)
    obtain ⟨d0, d1, d2⟩ := hat2 k (by rw [← HNM.out]; exact hk)
    have HN : Hid (L.getD k bd0 ≠ M.getD k bd0 → ¬ L = M) := fun h e => h (by rw [e])
    have HY : Hid (L.getD k bd0 = M.getD k bd0 → ∀ i, i < k + 1 → L.getD i bd0 = M.getD i bd0) := fun h i hi => by
      rcases (by omega : i = k ∨ i < k) with rfl | hi
      · exact h
      · exact HA.out i hi
    generalize L.getD k bd0 = x at *
    generalize M.getD k bd0 = y at *
    obtain ⟨xk, xa, xu⟩ := x
    obtain ⟨yk, ya, yu⟩ := y
    dsimp only at c0 c1 c2 d0 d1 d2
    clear hat hat2 HA
    have kk0 : (0 : Int) ≤ (k : Int) := by omega
    have kk1 : (k : Int) < (n : Int) := by omega
    have kk2 : ((k : Int)).toNat = k := by omega
    by_cases h1 : xk = yk
    · subst h1
      by_cases h2 : xa = ya
      · subst h2
        by_cases h3 : xu = yu
        · subst h3
          have HY2 := Lib.hid (HY.out rfl)
          clear HN HY
          go_wp2_with fail
          go_quiet (fail)
          go_wp2_with fail
          go_roundw
          case rel => exact ⟨k + 1, by omega, by go_num, HY2.out, bD hbl _⟩
          case measure => simp [intOf]; omega
        · have v9 : (xu == yu) = false := by simpa using h3
          have HG := Lib.hid (HN.out (fun h => by injection h; contradiction))
          clear HN HY
          go_wp2_with fail
          go_quiet (fail)
          go_wp2_with fail
          go_ret
          exact same_no HG.out (bD hbl _)
      · have v9 : (xa == ya) = false := by simpa using h2
        have HG := Lib.hid (HN.out (fun h => by injection h; contradiction))
        clear HN HY
        go_wp2_with fail
        go_quiet (fail)
        go_wp2_with fail
        go_ret
        exact same_no HG.out (bD hbl _)
    · have v9 : (xk == yk) = false := by simpa using h1
      have HG := Lib.hid (HN.out (fun h => by injection h; contradiction))
      clear HN HY
      go_wp2_with fail
      go_quiet (fail)
      go_wp2_with fail
      go_ret
      exact same_no HG.out (bD hbl _)
set_option maxRecDepth 100000 in
set_option maxHeartbeats 1600000 in
theorem seqK_c (A B : Option Addr) (n c m d : Nat) (L M : List Kd) (w : World) (hl : KdSl w A n L) (hm : KdSl w B m M) :
    Calls Tryz.prog 108 #[.slice A n c, .slice B m d] w (SameR (L = M) w) := by
  have HL := Lib.hid hl
  have HM := Lib.hid hm
  have hn9 := hl.2.1
  have hm9 := hm.2.1
  have HNL := Lib.hid hl.1
  have HNM := Lib.hid hm.1
  clear hl hm
  by_cases hnm : n = m
  case neg =>
    have HG : Hid (¬ L = M) := fun h => hnm (by rw [HNL.out, HNM.out, h])
    have v : ((n : Int) != (m : Int)) = true := by simp; omega
    clear hnm
    go_enter Tryz.func108, Tryz.ntmps108
    go_wp2_with fail
    go_ret
    exact same_no HG.out (b0 _)
  subst hnm
  have v : ((n : Int) != (n : Int)) = false := by simp
  go_enter Tryz.func108, Tryz.ntmps108
  go_wp2_with fail
  go_loopw [5, 13] (fun _ i wr => ∃ k : Nat, k ≤ n ∧ i = .int .i64 k ∧ Hid (∀ i, i < k → L.getD i kd0 = M.getD i kd0) ∧ Below w.heap.size w wr) (fun _ i _ => n - (intOf i).toNat)
  case atStart => exact ⟨0, Nat.zero_le _, rfl, fun i hi => absurd hi (Nat.not_lt_zero _), b0 _⟩
  case round =>
    obtain ⟨k, hk', rfl, HA, hbl⟩ := hrel
    by_cases hk : k < n
    case neg =>
      have HG : Hid (L = M) := list_same (by rw [← HNL.out, ← HNM.out]) (fun i hi => HA.out i (by have := HNL.out; omega))
      go_wp2_with fail
      go_ret
      exact same_yes HG.out hbl
    obtain ⟨b, off, rfl, hlt, hat⟩ := (HL.out.below hbl).2.2 (by omega)
    obtain ⟨b2, off2, rfl, hlt2, hat2⟩ := (HM.out.below hbl).2.2 (by omega)
    obtain ⟨c0, _, c1, c2, c3⟩ := hat k hk
    obtain ⟨d0, _, d1, d2, d3⟩ := hat2 k hk
    have HN : Hid (L.getD k kd0 ≠ M.getD k kd0 → ¬ L = M) := fun h e => h (by rw [e])
    have HY : Hid (L.getD k kd0 = M.getD k kd0 → ∀ i, i < k + 1 → L.getD i kd0 = M.getD i kd0) := fun h i hi => by
      rcases (by omega : i = k ∨ i < k) with rfl | hi
      · exact h
      · exact HA.out i hi
    generalize L.getD k kd0 = x at *
    generalize M.getD k kd0 = y at *
    obtain ⟨xk, xa, xt, xu⟩ := x
    obtain ⟨yk, ya, yt, yu⟩ := y
    dsimp only at c0 c1 c2 c3 d0 d1 d2 d3
    clear hat hat2 HA
    have kk0 : (0 : Int) ≤ (k : Int) := by omega
    have kk1 : (k : Int) < (n : Int) := by omega
    have kk2 : ((k : Int)).toNat = k := by omega
    by_cases h1 : xk = yk
    · subst h1
      by_cases h2 : xa = ya
      · subst h2
        by_cases h4 : xt = yt
        · subst h4
          by_cases h3 : xu = yu
          · subst h3
            have HY2 := Lib.hid (HY.out rfl)
            clear HN HY
            go_wp2_with fail
            go_quiet (fail)
            go_wp2_with fail
            go_roundw
            case rel => exact ⟨k + 1, by omega, by go_num, HY2.out, bD hbl _⟩
            case measure => simp [intOf]; omega
          · have v9 : (xu == yu) = false := by simpa using h3
            have HG := Lib.hid (HN.out (fun h => by injection h; contradiction))
            clear HN HY
            go_wp2_with fail
            go_quiet (fail)
            go_wp2_with fail
            go_ret
            exact same_no HG.out (bD hbl _)
        · have v9 : (xt == yt) = false := by simpa using h4
          have HG := Lib.hid (HN.out (fun h => by injection h; contradiction))
          clear HN HY
          go_wp2_with fail
          go_quiet (fail)
          go_wp2_with fail
          go_ret
          exact same_no HG.out (bD hbl _)
      · have v9 : (xa == ya) = false := by simpa using h2
        have HG := Lib.hid (HN.out (fun h => by injection h; contradiction))
        clear HN HY
        go_wp2_with fail
        go_quiet (fail)
        go_wp2_with fail
        go_ret
        exact same_no HG.out (bD hbl _)
    · have v9 := str_neqk h1
      have HG := Lib.hid (HN.out (fun h => by injection h; contradiction))
      clear HN HY
      go_wp2_with fail
      go_quiet (fail)
      go_wp2_with fail
      go_ret
      exact same_no HG.out (bD hbl _)
set_option maxRecDepth 100000 in
set_option maxHeartbeats 1600000 in
theorem same1_c (xn yn : ByteArray) (xb yb xp yp xy yy xr yr : Int) (L M : List Bd) (A B : Option Addr) (n c m d : Nat) (w : World) (hl : BandSl w A n L) (hm : BandSl w B m M) :
    Calls Tryz.prog 106 #[.agg #[.string xn, .int .i64 xb, .slice A n c, .int .i64 xp, .int .i64 xy, .int .i64 xr], .agg #[.string yn, .int .i64 yb, .slice B m d, .int .i64 yp, .int .i64 yy, .int .i64 yr]] w (SameR ((⟨xn, xb, L, xp, xy, xr⟩ : Ct) = ⟨yn, yb, M, yp, yy, yr⟩) w) := by
  have hb0 := bA (below1 w (.cells #[.string xn, .int .i64 xb, .slice A n c, .int .i64 xp, .int .i64 xy, .int .i64 xr] 199)) (.cells #[.string yn, .int .i64 yb, .slice B m d, .int .i64 yp, .int .i64 yy, .int .i64 yr] 199)
  have HB := Lib.hid hb0
  by_cases h1 : xn = yn
  case neg =>
    have v9 := str_neqk h1
    have HG : Hid (¬ (⟨xn, xb, L, xp, xy, xr⟩ : Ct) = ⟨yn, yb, M, yp, yy, yr⟩) := fun h => by injection h; contradiction
    clear h1 hl hm hb0
    go_enter Tryz.func106, Tryz.ntmps106
    go_wp2_with fail
    go_ret
    exact same_no HG.out HB.out
  have v1 : (xn.toList == yn.toList) = true := by rw [h1]; simp
  by_cases h2 : xb = yb
  case neg =>
    have v9 : (xb == yb) = false := by simpa using h2
    have HG : Hid (¬ (⟨xn, xb, L, xp, xy, xr⟩ : Ct) = ⟨yn, yb, M, yp, yy, yr⟩) := fun h => by injection h; contradiction
    clear h1 hl hm hb0
    go_enter Tryz.func106, Tryz.ntmps106
    go_wp2_with fail
    go_ret
    exact same_no HG.out HB.out
  have v2 : (xb == yb) = true := by simpa using h2
  by_cases h3 : xp = yp
  case neg =>
    have v9 : (xp == yp) = false := by simpa using h3
    have HG : Hid (¬ (⟨xn, xb, L, xp, xy, xr⟩ : Ct) = ⟨yn, yb, M, yp, yy, yr⟩) := fun h => by injection h; contradiction
    clear h1 h2 hl hm hb0
    go_enter Tryz.func106, Tryz.ntmps106
    go_wp2_with fail
    go_ret
    exact same_no HG.out HB.out
  have v3 : (xp == yp) = true := by simpa using h3
  by_cases h4 : xy = yy
  case neg =>
    have v9 : (xy == yy) = false := by simpa using h4
    have HG : Hid (¬ (⟨xn, xb, L, xp, xy, xr⟩ : Ct) = ⟨yn, yb, M, yp, yy, yr⟩) := fun h => by injection h; contradiction
    clear h1 h2 h3 hl hm hb0
    go_enter Tryz.func106, Tryz.ntmps106
    go_wp2_with fail
    go_ret
    exact same_no HG.out HB.out
  have v4 : (xy == yy) = true := by simpa using h4
  by_cases h5 : xr = yr
  case neg =>
    have v9 : (xr == yr) = false := by simpa using h5
    have HG : Hid (¬ (⟨xn, xb, L, xp, xy, xr⟩ : Ct) = ⟨yn, yb, M, yp, yy, yr⟩) := fun h => by injection h; contradiction
    clear h1 h2 h3 h4 hl hm hb0
    go_enter Tryz.func106, Tryz.ntmps106
    go_wp2_with fail
    go_ret
    exact same_no HG.out HB.out
  have v5 : (xr == yr) = true := by simpa using h5
  have HG : Hid ((L = M) ↔ (⟨xn, xb, L, xp, xy, xr⟩ : Ct) = ⟨yn, yb, M, yp, yy, yr⟩) := by
    subst h1; subst h2; subst h3; subst h4; subst h5
    exact ⟨fun h => by rw [h], fun h => by injection h⟩
  have K := Lib.hid (seqB_c A B n c m d L M _ (hl.below hb0) (hm.below hb0))
  clear h1 h2 h3 h4 h5 hl hm hb0
  go_enter Tryz.func106, Tryz.ntmps106
  go_wp2_with fail
  refine K.out.mono ?_
  rintro e w1 ⟨r, ⟨rfl, hr⟩, hb1⟩
  have HR := Lib.hid hr
  clear hr
  cases r
  · go_wp2_with fail
    go_ret
    exact ⟨false, ⟨rfl, HR.out.trans HG.out⟩, bT HB.out hb1⟩
  · go_wp2_with fail
    go_ret
    exact same_yes ((HR.out.trans HG.out).1 (by first | trivial | rfl)) (bT HB.out hb1)
theorem same2_c (A B : Option Addr) (n c m d : Nat) (L M : List Bd) (w : World) (hl : BandSl w A n L) (hm : BandSl w B m M) :
    Calls Tryz.prog 111 #[.slice A n c, .slice B m d] w (SameR (L = M) w) := by
  have K := Lib.hid (seqB_c A B n c m d L M w hl hm)
  clear hl hm
  go_enter Tryz.func111, Tryz.ntmps111
  go_wp2_with fail
  refine K.out.mono ?_
  rintro e w1 ⟨r, ⟨rfl, hr⟩, hb1⟩
  have HR := Lib.hid hr
  clear hr
  go_wp2_with fail
  go_ret
  exact ⟨r, ⟨rfl, HR.out⟩, hb1⟩
set_option maxRecDepth 100000 in
set_option maxHeartbeats 1600000 in
theorem sefC_c (A B : Option Addr) (n c m d : Nat) (L M : List Ct) (w : World) (hl : CtSl w A n L) (hm : CtSl w B m M) :
    Calls Tryz.prog 109 #[.slice A n c, .slice B m d, .func (.func 106) #[] #[]] w (SameR (L = M) w) := by
  have HL := Lib.hid hl
  have HM := Lib.hid hm
  have hn9 := hl.2.1
  have hm9 := hm.2.1
  have HNL := Lib.hid hl.1
  have HNM := Lib.hid hm.1
  clear hl hm
  by_cases hnm : n = m
  case neg =>
    have HG : Hid (¬ L = M) := fun h => hnm (by rw [HNL.out, HNM.out, h])
    have v : ((n : Int) != (m : Int)) = true := by simp; omega
    clear hnm
    go_enter Tryz.func109, Tryz.ntmps109
    go_wp2_with fail
    go_ret
    exact same_no HG.out (b0 _)
  subst hnm
  have v : ((n : Int) != (n : Int)) = false := by simp
  go_enter Tryz.func109, Tryz.ntmps109
  go_wp2_with fail
  go_loopw [17] (fun i wr => ∃ k : Nat, k ≤ n ∧ i = .int .i64 k ∧ Hid (∀ i, i < k → L.getD i ct0 = M.getD i ct0) ∧ Below w.heap.size w wr) (fun i _ => n - (intOf i).toNat)
  case atStart => exact ⟨0, Nat.zero_le _, rfl, fun i hi => absurd hi (Nat.not_lt_zero _), b0 _⟩
  case round =>
    obtain ⟨k, hk', rfl, HA, hbl⟩ := hrel
    by_cases hk : k < n
    case neg =>
      have HG : Hid (L = M) := list_same (by rw [← HNL.out, ← HNM.out]) (fun i hi => HA.out i (by have := HNL.out; omega))
      go_wp2_with fail
      go_ret
      exact same_yes HG.out hbl
    obtain ⟨b, off, rfl, hlt, hat⟩ := (HL.out.below hbl).2.2 (by omega)
    obtain ⟨b2, off2, rfl, hlt2, hat2⟩ := (HM.out.below hbl).2.2 (by omega)
    obtain ⟨c0, _, c1, ⟨A1, n1, q1, c2, hb1⟩, c3, c4, c5⟩ := hat k hk
    have hat2' := fun o => (hat2 k hk).below hlt2 (below1 wr o)
    have HN : Hid (L.getD k ct0 ≠ M.getD k ct0 → ¬ L = M) := fun h e => h (by rw [e])
    have HY : Hid (L.getD k ct0 = M.getD k ct0 → ∀ i, i < k + 1 → L.getD i ct0 = M.getD i ct0) := fun h i hi => by
      rcases (by omega : i = k ∨ i < k) with rfl | hi
      · exact h
      · exact HA.out i hi
    generalize L.getD k ct0 = x at *
    generalize M.getD k ct0 = y at *
    obtain ⟨xn, xb, xl, xp, xy, xr⟩ := x
    obtain ⟨yn, yb, yl, yp, yy, yr⟩ := y
    dsimp only at c0 c1 c2 c3 c4 c5 hb1
    have hq := hat2' (.cells #[.string xn, .int .i64 xb, .slice A1 n1 q1, .int .i64 xp, .int .i64 xy, .int .i64 xr] 199)
    obtain ⟨d0, _, d1, ⟨A2, n2, q2, d2, hb2⟩, d3, d4, d5⟩ := hq
    dsimp only at d0 d1 d2 d3 d4 d5 hb2
    clear hat hat2 hat2' HA
    have kk0 : (0 : Int) ≤ (k : Int) := by omega
    have kk1 : (k : Int) < (n : Int) := by omega
    have kk2 : ((k : Int)).toNat = k := by omega
    have hbb := bA (bA hbl (.cells #[.string xn, .int .i64 xb, .slice A1 n1 q1, .int .i64 xp, .int .i64 xy, .int .i64 xr] 199)) (.cells #[.string yn, .int .i64 yb, .slice A2 n2 q2, .int .i64 yp, .int .i64 yy, .int .i64 yr] 199)
    have HBB := Lib.hid hbb
    have K := Lib.hid (same1_c xn yn xb yb xp yp xy yy xr yr xl yl A1 A2 n1 q1 n2 q2 _ (hb1.below (bA (below1 wr (.cells #[.string xn, .int .i64 xb, .slice A1 n1 q1, .int .i64 xp, .int .i64 xy, .int .i64 xr] 199)) (.cells #[.string yn, .int .i64 yb, .slice A2 n2 q2, .int .i64 yp, .int .i64 yy, .int .i64 yr] 199))) (hb2.below (below1 _ (.cells #[.string yn, .int .i64 yb, .slice A2 n2 q2, .int .i64 yp, .int .i64 yy, .int .i64 yr] 199))))
    clear hb1 hb2 hbb
    go_wp2_with fail
    refine K.out.mono ?_
    rintro e w1 ⟨r, ⟨rfl, hr⟩, hb1⟩
    have HR := Lib.hid hr
    have hB1 := bT HBB.out hb1
    clear hr
    cases r
    · have HG := Lib.hid (HN.out (fun h => absurd (HR.out.2 h) (by decide)))
      clear HN HY HR
      go_wp2_with fail
      go_ret
      exact same_no HG.out hB1
    · have HY2 := Lib.hid (HY.out (HR.out.1 rfl))
      clear HN HY HR
      go_wp2_with fail
      go_roundw
      case rel => exact ⟨k + 1, by omega, by go_num, HY2.out, hB1⟩
      case measure => simp [intOf]; omega
set_option maxRecDepth 100000 in
set_option maxHeartbeats 1600000 in
theorem sefB_c (A B : Option Addr) (n c m d : Nat) (L M : List (List Bd)) (w : World) (hl : ScSl w A n L) (hm : ScSl w B m M) :
    Calls Tryz.prog 110 #[.slice A n c, .slice B m d, .func (.func 111) #[] #[]] w (SameR (L = M) w) := by
  have HL := Lib.hid hl
  have HM := Lib.hid hm
  have hn9 := hl.2.1
  have hm9 := hm.2.1
  have HNL := Lib.hid hl.1
  have HNM := Lib.hid hm.1
  clear hl hm
  by_cases hnm : n = m
  case neg =>
    have HG : Hid (¬ L = M) := fun h => hnm (by rw [HNL.out, HNM.out, h])
    have v : ((n : Int) != (m : Int)) = true := by simp; omega
    clear hnm
    go_enter Tryz.func110, Tryz.ntmps110
    go_wp2_with fail
    go_ret
    exact same_no HG.out (b0 _)
  subst hnm
  have v : ((n : Int) != (n : Int)) = false := by simp
  go_enter Tryz.func110, Tryz.ntmps110
  go_wp2_with fail
  go_loopw [17] (fun i wr => ∃ k : Nat, k ≤ n ∧ i = .int .i64 k ∧ Hid (∀ i, i < k → L.getD i [] = M.getD i []) ∧ Below w.heap.size w wr) (fun i _ => n - (intOf i).toNat)
  case atStart => exact ⟨0, Nat.zero_le _, rfl, fun i hi => absurd hi (Nat.not_lt_zero _), b0 _⟩
  case round =>
    obtain ⟨k, hk', rfl, HA, hbl⟩ := hrel
    by_cases hk : k < n
    case neg =>
      have HG : Hid (L = M) := list_same (by rw [← HNL.out, ← HNM.out]) (fun i hi => HA.out i (by have := HNL.out; omega))
      go_wp2_with fail
      go_ret
      exact same_yes HG.out hbl
    obtain ⟨b, off, rfl, hlt, hat⟩ := (HL.out.below hbl).2.2 (by omega)
    obtain ⟨b2, off2, rfl, hlt2, hat2⟩ := (HM.out.below hbl).2.2 (by omega)
    obtain ⟨A1, n1, q1, c0, hb1⟩ := hat k hk
    obtain ⟨A2, n2, q2, d0, hb2⟩ := hat2 k hk
    simp only [Nat.mul_one] at c0 d0
    have HN : Hid (L.getD k [] ≠ M.getD k [] → ¬ L = M) := fun h e => h (by rw [e])
    have HY : Hid (L.getD k [] = M.getD k [] → ∀ i, i < k + 1 → L.getD i [] = M.getD i []) := fun h i hi => by
      rcases (by omega : i = k ∨ i < k) with rfl | hi
      · exact h
      · exact HA.out i hi
    generalize L.getD k [] = x at *
    generalize M.getD k [] = y at *
    clear hat hat2 HA
    have kk0 : (0 : Int) ≤ (k : Int) := by omega
    have kk1 : (k : Int) < (n : Int) := by omega
    have kk2 : ((k : Int)).toNat = k := by omega
    have K := Lib.hid (same2_c A1 A2 n1 q1 n2 q2 x y wr hb1 hb2)
    clear hb1 hb2
    go_wp2_with fail
    refine K.out.mono ?_
    rintro e w1 ⟨r, ⟨rfl, hr⟩, hb1⟩
    have HR := Lib.hid hr
    have hB1 := bT hbl hb1
    clear hr
    cases r
    · have HG := Lib.hid (HN.out (fun h => absurd (HR.out.2 h) (by decide)))
      clear HN HY HR
      go_wp2_with fail
      go_ret
      exact same_no HG.out hB1
    · have HY2 := Lib.hid (HY.out (HR.out.1 rfl))
      clear HN HY HR
      go_wp2_with fail
      go_roundw
      case rel => exact ⟨k + 1, by omega, by go_num, HY2.out, hB1⟩
      case measure => simp [intOf]; omega
end Go.Proofs.YtmlphohnegmgkaaGreat
