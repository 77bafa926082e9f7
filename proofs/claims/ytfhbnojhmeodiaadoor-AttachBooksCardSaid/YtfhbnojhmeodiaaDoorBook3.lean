/-
  Contracts of the library's Clip, Insert and Concat at orders' states. Conditions as named.
-/
import Derived.Test.YtfhbnojhmeodiaaDoorBook2
import Derived.IntWalk
namespace Go.Proofs.YtfhbnojhmeodiaaDoor
set_option linter.unusedVariables false
open Go.RowKit
theorem splice_at {α : Type} (X Z Y : List α) (h : Y.length ≤ Z.length) : splice (X ++ Z) X.length Y = X ++ (Y ++ Z.drop Y.length) := by
  unfold splice
  rw [List.take_left, List.drop_append]
  simp
theorem SrcAt.take {w : World} {A : Option Addr} {n size : Nat} {xs : List Value} (h : SrcAt w A n size xs) {i : Nat} (hi : i ≤ n) : SrcAt w A i size (xs.take (i * size)) := by
  refine ⟨?_, fun h0 => ?_⟩
  · rw [List.length_take, h.1]
    exact Nat.min_eq_left (Nat.mul_le_mul_right _ hi)
  · obtain ⟨b, off, hA, hlt, hc⟩ := h.2 (by omega)
    refine ⟨b, off, hA, hlt, fun j u hu => ?_⟩
    have hj := (List.getElem?_eq_some_iff.1 hu).1
    rw [List.length_take] at hj
    rw [List.getElem?_take_of_lt (by omega)] at hu
    exact hc j u hu
theorem SrcAt.drop {w : World} {b off n size : Nat} {xs : List Value} (h : SrcAt w (some ⟨b, off, none⟩) n size xs) {i : Nat} (hi : i < n) : SrcAt w (some ⟨b, off + i * size, none⟩) (n - i) size (xs.drop (i * size)) := by
  refine ⟨by rw [List.length_drop, h.1, Nat.sub_mul], fun h0 => ?_⟩
  obtain ⟨b', off', hA, hlt, hc⟩ := h.2 (by omega)
  injection hA with hA
  injection hA with h1 h2
  subst h1; subst h2
  refine ⟨b, _, rfl, hlt, fun j u hu => ?_⟩
  rw [List.getElem?_drop] at hu
  rw [Nat.add_assoc]
  exact hc _ u hu
theorem odC_flat (l : List Od) : (l.flatMap odC).length = l.length * 7 := by
  induction l with
  | nil => rfl
  | cons x l ih => rw [List.flatMap_cons, List.length_append, ih, odC_len, List.length_cons]; omega
theorem odC_take (l : List Od) (i : Nat) (hi : i ≤ l.length) : (l.flatMap odC).take (i * 7) = (l.take i).flatMap odC := by
  have h : l.flatMap odC = (l.take i).flatMap odC ++ (l.drop i).flatMap odC := by rw [← List.flatMap_append, List.take_append_drop]
  have h2 : ((l.take i).flatMap odC).length = i * 7 := by rw [odC_flat, List.length_take, Nat.min_eq_left hi]
  rw [h, ← h2, List.take_left]
theorem odC_drop (l : List Od) (i : Nat) (hi : i ≤ l.length) : (l.flatMap odC).drop (i * 7) = (l.drop i).flatMap odC := by
  have h : l.flatMap odC = (l.take i).flatMap odC ++ (l.drop i).flatMap odC := by rw [← List.flatMap_append, List.take_append_drop]
  have h2 : ((l.take i).flatMap odC).length = i * 7 := by rw [odC_flat, List.length_take, Nat.min_eq_left hi]
  rw [h, ← h2, List.drop_left]
theorem OdSl.nil {w : World} {A : Option Addr} {n : Nat} {l : List Od} (h : OdSl w A n l) : A = none → n = 0 := fun hA => by
  rcases Nat.eq_zero_or_pos n with h0 | h0
  · exact h0
  · obtain ⟨b, off, h, _⟩ := h.2.2 h0
    rw [hA] at h; cases h
--%%
theorem sclip_c (A : Option Addr) (n c : Nat) (hc : n ≤ c) (h9 : n ≤ 9223372036854775807) (hA : A = none → c = 0) (w : World) : Calls Tryd.prog 35 #[.slice A n c] w fun e w' => e = .returned (.slice A n n) ∧ w = w' := by
  have h1 : ¬ c < n := by omega
  cases A with
  | none =>
    obtain rfl := hA rfl
    obtain rfl : n = 0 := by omega
    go_enter Tryd.func35, Tryd.ntmps35
    go_wp2_with fail
    go_ret
    exact ⟨rfl, rfl⟩
  | some a =>
    clear hA
    go_enter Tryd.func35, Tryd.ntmps35
    go_wp2_with fail
    go_ret
    exact ⟨rfl, rfl⟩
--%%
theorem insO_at (l : List Od) (z : Od) (i : Nat) : (l.take i ++ z :: l.drop i).flatMap odC = (l.take i).flatMap odC ++ (odC z ++ (l.drop i).flatMap odC) := by
  rw [List.flatMap_append, List.flatMap_cons]
set_option maxRecDepth 100000 in
set_option maxHeartbeats 400000 in
theorem sinsert_c (A : Option Addr) (n i : Nat) (l : List Od) (z : Od) (vb : Nat) (w : World) (hs : OdSl w A n l) (hi : i ≤ n) (hn : n ≤ 1000000) (hv : Blk w vb 39 (odC z).toArray) (lr : List Od) (hlr : Hid (lr = l.take i ++ z :: l.drop i)) :
    Calls Tryd.prog 34 #[.slice A n n, .int .i64 i, .slice (some ⟨vb, 0, none⟩) 1 1] w (GivesOd (n + 1) lr w) := by
  have hln := hs.1
  have hzs : SrcAt w (some ⟨vb, 0, none⟩) 1 7 (odC z) := ⟨rfl, fun _ => ⟨vb, 0, rfl, hv.lt, fun j u hu => by rw [Nat.zero_add, hv.cell j]; simpa using hu⟩⟩
  have hz1 : ∀ u ∈ odC z, u.oneCell' = true := fun u hu => od_one (l := [z]) u (by simpa using hu)
  have hsrc := hs.src odC_len
  obtain ⟨i0, hi', hz', hsz', hby⟩ := info_parts info_state
  by_cases hin : i = n
  · subst hin
    have hA := hs.nil
    have hh : ∀ b, A = some b → ∀ j u, (l.flatMap odC)[j]? = some u → w.cell? (b.add j) = some u := fun b hb j u hu => by
      rcases Nat.eq_zero_or_pos i with h0 | h0
      · have : l.flatMap odC = [] := List.eq_nil_of_length_eq_zero (by rw [odC_flat, ← hln, h0])
        rw [this] at hu; simp at hu
      · obtain ⟨a, ha, hc⟩ := hsrc.load h0
        rw [hb] at ha; injection ha with ha; subst ha
        exact hc j u hu
    have hzc : ∀ j u, (odC z)[j]? = some u → w.cell? ((⟨vb, 0, none⟩ : Addr).add j) = some u := fun j u hu => by
      rw [add_plain, Nat.zero_add, hv.cell j]; simpa using hu
    have HH := Lib.hid hh
    have HZ := Lib.hid hzc
    have HLN : Hid (i = l.length) := hln
    have HA : Hid (A = none → i = 0 ∧ i = 0) := fun h => ⟨hA h, hA h⟩
    have HLL : Hid ((l.flatMap odC).length = i * 7) := by unfold Hid; rw [odC_flat, ← hln]
    have HE : Hid (lr = l ++ [z]) := by unfold Hid; rw [hlr.out, hln, List.take_length, List.drop_length]
    have HI := Lib.hid hi'
    have HZ1 := Lib.hid hz1
    have HZZ := Lib.hid hz'
    have HS7 := Lib.hid hsz'
    have HB7 := Lib.hid hby
    clear hh hzc hln hA hzs hsrc hs hv hi' hz1 hz' hsz' hby
    cases hAA : A with
    | none =>
      subst hAA
      obtain ⟨rfl, _⟩ := HA.out rfl
      go_enter Tryd.func34, Tryd.ntmps34
      go_wp2_with (at_builtin; refine wpList_append_grows _ rfl _ _ 25 rfl 39 i0 _ 7 56 Tryd.underlying25 HI.out HZZ.out HS7.out HB7.out rfl (by decide) _ _ _ (l.flatMap odC) rfl (fun _ => ⟨rfl, rfl⟩) HLL.out HH.out ⟨vb, 0, none⟩ 1 1 (odC z) rfl rfl HZ.out HZ1.out (by omega) (by unfold maxLen; omega) (by omega) ?_; intro v' w' ho hg)
      go_ret
      rw [HE.out]
      exact ⟨⟨_, rfl, by rw [List.length_append, ← HLN.out]; rfl, by simpa [List.flatMap_append] using ho⟩, below_grown (b0 _) hg (Nat.le_refl _) (by simp)⟩
    | some a =>
      subst hAA
      have vi : ¬ (i < i) := by omega
      go_enter Tryd.func34, Tryd.ntmps34
      go_wp2_with (at_builtin; refine wpList_append_grows _ rfl _ _ 25 rfl 39 i0 _ 7 56 Tryd.underlying25 HI.out HZZ.out HS7.out HB7.out rfl (by decide) _ _ _ (l.flatMap odC) rfl HA.out HLL.out HH.out ⟨vb, 0, none⟩ 1 1 (odC z) rfl rfl HZ.out HZ1.out (by omega) (by unfold maxLen; omega) (by omega) ?_; intro v' w' ho hg)
      go_ret
      rw [HE.out]
      exact ⟨⟨_, rfl, by rw [List.length_append, ← HLN.out]; rfl, by simpa [List.flatMap_append] using ho⟩, below_grown (b0 _) hg (Nat.le_refl _) (by simp)⟩
  have hil : i < n := by omega
  obtain ⟨b, off, rfl, hltb, _⟩ := hs.2.2 (by omega)
  obtain ⟨k, hk⟩ : ∃ k, k = n + 1 - i := ⟨_, rfl⟩
  have hki : (k : Int) = (n : Int) + 1 - (i : Int) := by omega
  obtain ⟨v1, w1, hr1, ho1, hg1⟩ := run_appZ_own (P := Tryd.prog) w 25 3 25 39 _ 7 56 .i64 .i64 Tryd.underlying25 Tryd.underlying3 info_state rfl (by decide) (some ⟨b, off, none⟩) i n ((l.flatMap odC).take (i * 7)) (hsrc.take hi) k (by omega) (by omega) (by omega) (by omega)
  rw [hki] at hr1
  obtain ⟨g1, cap1, rfl, hb1, hlt1, hcap1, ho1'⟩ := own_form ho1 (by omega)
  have hik : i + k = n + 1 := by omega
  rw [hik] at hr1 ho1 ho1' hcap1
  have hbl1 : Below w.heap.size w w1 := below_grown (b0 _) hg1 (Nat.le_refl _) (by simp)
  have hzs1 := hzs.below hbl1
  have hX : ((l.flatMap odC).take (i * 7)).length = i * 7 := by rw [List.length_take, odC_flat, ← hln]; omega
  obtain ⟨Z, hZ⟩ : ∃ Z, Z = (Builtin.zeroCells (Value.agg #[.int .i64 0, .int .i64 0, .int .i64 0, .int .i64 0, .int .i64 0, .int .i64 0, .int .i64 0]).cells k).toList := ⟨_, rfl⟩
  have hZl : Z.length = k * 7 := by rw [hZ, Array.length_toList, size_zeroCells]; rfl
  rw [← hZ] at ho1'
  obtain ⟨w2, hr2, ho2, hg2⟩ := run_copy_ownK (P := Tryd.prog) w1 25 25 3 39 Tryd.underlying25 (by rw [hi']; exact congrArg some hsz') (by decide) ho1' (i * 7) (n + 1 - i) (cap1 - i) (some ⟨vb, 0, none⟩) 1 1 (odC z) hzs1 hz1 (by omega) (by rw [odC_len]; omega)
  have hbl2 : Below w.heap.size w w2 := below_grown hbl1 hg2 hbl1.size (fun q hq => by injection hq with hq; omega)
  have hsp := splice_at ((l.flatMap odC).take (i * 7)) Z (odC z) (by rw [odC_len, hZl]; omega)
  rw [hX] at hsp
  rw [hsp] at ho2
  have hdr := (hsrc.drop hil).below hbl2
  have ho2d : w2.drew.ownsRow w.heap.size 39 7 (.slice (some ⟨g1, 0, none⟩) (n + 1) cap1) (n + 1) ((l.flatMap odC).take (i * 7) ++ (odC z ++ Z.drop (odC z).length)) := ho2
  obtain ⟨w3, hr3, ho3, hg3⟩ := run_copy_ownK (P := Tryd.prog) w2.drew 25 25 3 39 Tryd.underlying25 (by rw [hi']; exact congrArg some hsz') (by decide) ho2d ((i + 1) * 7) (n - i) (cap1 - (i + 1)) (some ⟨b, off + i * 7, none⟩) (n - i) (n - i) ((l.flatMap odC).drop (i * 7)) hdr (fun u hu => od_one u (List.mem_of_mem_drop hu)) (by omega) (by rw [List.length_drop, odC_flat, ← hln]; omega)
  have hbl3 : Below w.heap.size w w3 := below_grown (bD hbl2 1) hg3 hbl2.size (fun q hq => by injection hq with hq; omega)
  have hsp2 := splice_at ((l.flatMap odC).take (i * 7) ++ odC z) (Z.drop (odC z).length) ((l.flatMap odC).drop (i * 7)) (by rw [List.length_drop, List.length_drop, odC_flat, ← hln, hZl, odC_len]; omega)
  have hX2 : ((l.flatMap odC).take (i * 7) ++ odC z).length = (i + 1) * 7 := by rw [List.length_append, hX, odC_len]; omega
  have hnil : (Z.drop (odC z).length).drop ((l.flatMap odC).drop (i * 7)).length = [] := List.drop_eq_nil_of_le (by rw [List.length_drop, List.length_drop, odC_flat, ← hln, hZl, odC_len]; omega)
  rw [hX2, hnil, List.append_nil, List.append_assoc, List.append_assoc] at hsp2
  rw [hsp2, odC_take l i (by omega), odC_drop l i (by omega), ← insO_at, ← hlr.out] at ho3
  have HO3 := Lib.hid ho3
  have HB3 := Lib.hid hbl3
  have HR1 := Lib.hid hr1
  have HR2 := Lib.hid hr2
  have HR3 := Lib.hid hr3
  have HLN : Hid (n + 1 = lr.length) := by unfold Hid; rw [hlr.out, List.length_append, List.length_cons, List.length_take, List.length_drop]; omega
  have vin : ((i : Int) == (n : Int)) = false := by simp; omega
  have e1 : ¬ n = i := by omega
  have e2 : ¬ cap1 = i := by omega
  have e3 : ¬ cap1 = i + 1 := by omega
  have e4 : (i : Int) ≤ (n : Int) := by omega
  clear hs hsrc hzs hz1 hln hv ho1 ho1' ho2 ho2d ho3 hsp hsp2 hX hX2 hnil hZ hZl hdr hzs1 hr1 hr2 hr3 hg1 hg2 hg3 hbl1 hbl2 hbl3 hk hki hik hi' hz' hsz' hby hin
  go_enter Tryd.func34, Tryd.ntmps34
  go_wp2_with (first | (at_builtin; refine wpList_appR _ rfl _ _ 25 3 rfl _ _ rfl rfl _ w1 HR1.out ?_) | (refine wpList_copyR _ rfl _ _ 25 25 rfl _ _ rfl rfl _ w2 HR2.out ?_))
  have hw1 : IntKind.i64.wrap ((i : Int) + 1) = (i : Int) + 1 := IntWalk.i64_in _ (by omega)
  have hw2 : (0 : Int) ≤ (i : Int) + 1 := by omega
  have hw3 : ((i : Int) + 1).toNat = i + 1 := by omega
  have hw4 : (i : Int) + 1 ≤ (n : Int) + 1 := by omega
  go_region_law (refine step_copyR rfl _ _ 25 25 rfl _ _ (by simp [Act.eval, Act.put]) (by simp [Act.eval, Act.put]) _ w3 HR3.out ?_)
  clear hw1 hw2 hw3 hw4
  go_wp2_with fail
  go_ret
  exact ⟨⟨_, rfl, HLN.out, HO3.out⟩, HB3.out⟩
--%%
set_option maxRecDepth 100000 in
theorem sgrow_c (n : Nat) (w : World) (hn : n ≤ 1000000) : Calls Tryd.prog 61 #[.slice none 0 0, .int .i64 n] w (GivesOd 0 [] w) := by
  by_cases h0 : n = 0
  · subst h0
    go_enter Tryd.func61, Tryd.ntmps61
    go_wp2_with fail
    go_ret
    exact ⟨⟨_, rfl, rfl, World.ownsRow_nil _ _ _ _⟩, b0 _⟩
  · obtain ⟨v1, w1, hr1, ho1, hg1⟩ := run_appZ_own (P := Tryd.prog) w 25 3 25 39 _ 7 56 .i64 .i64 Tryd.underlying25 Tryd.underlying3 info_state rfl (by decide) none 0 0 [] ⟨rfl, fun h => absurd h (by omega)⟩ n (by omega) (by omega) (by omega) (by omega)
    obtain ⟨g1, cap1, rfl, hb1, hlt1, hcap1, ho1'⟩ := own_form ho1 (by omega)
    have HR1 := Lib.hid hr1
    have HB1 : Hid (Below w.heap.size w w1) := below_grown (b0 _) hg1 (Nat.le_refl _) (by simp)
    have HO1 : Hid (w1.ownsRow w.heap.size 39 7 (.slice (some ⟨g1, 0, none⟩) 0 cap1) 0 []) := by
      rw [Nat.zero_add] at ho1'
      obtain ⟨_, h2 | ⟨g', cap', cur, hv, hb, hg, hle2, hm, hsz, ht⟩⟩ := ho1'
      · cases h2.1
      · injection hv with hA _ hc
        injection hA with hA
        injection hA with hg' _
        subst hg'; subst hc
        exact ⟨rfl, .inr ⟨g1, cap1, cur, rfl, hb, hg, Nat.zero_le _, hm, hsz, by simp⟩⟩
    have v : decide ((0 : Int) < (n : Int)) = true := by simp; omega
    clear ho1 ho1' hr1 hg1
    go_enter Tryd.func61, Tryd.ntmps61
    go_wp2_with (at_builtin; refine wpList_appR _ rfl _ _ 25 3 rfl _ _ rfl rfl _ w1 HR1.out ?_)
    go_ret
    exact ⟨⟨_, rfl, rfl, HO1.out⟩, HB1.out⟩
--%%
set_option maxHeartbeats 1600000 in
theorem sconcat_c (h : Nat) (A1 A2 : Option Addr) (n1 c1 n2 c2 : Nat) (l1 l2 : List Od) (w : World) (hh : Blk w h 25 #[.slice A1 n1 c1, .slice A2 n2 c2]) (hs1 : SrcAt w A1 n1 7 (l1.flatMap odC)) (hs2 : SrcAt w A2 n2 7 (l2.flatMap odC))
    (e1 : n1 = l1.length) (e2 : n2 = l2.length) (hn : n1 + n2 ≤ 1000000) (lr : List Od) (hlr : Hid (lr = l1 ++ l2)) :
    Calls Tryd.prog 44 #[.slice (some ⟨h, 0, none⟩) 2 2] w (GivesOd (n1 + n2) lr w) := by
  have HS1 := Lib.hid hs1
  have HS2 := Lib.hid hs2
  have HH := Lib.hid hh
  have HE : Hid (n1 + n2 = lr.length ∧ lr.flatMap odC = l1.flatMap odC ++ l2.flatMap odC) := by unfold Hid; rw [hlr.out, List.length_append, List.flatMap_append]; exact ⟨by omega, rfl⟩
  obtain ⟨d0, d1⟩ : w.cell? ⟨h, 0, none⟩ = some (.slice A1 n1 c1) ∧ w.cell? ⟨h, 1, none⟩ = some (.slice A2 n2 c2) := ⟨hh.cell 0, hh.cell 1⟩
  have KG := Lib.hid (fun W => sgrow_c (n1 + n2) W hn)
  clear hs1 hs2 hh e1 e2
  go_enter Tryd.func44, Tryd.ntmps44
  go_wp2_with fail
  go_loop [3, 11] (fun z i => (i = .int .i64 0 ∧ z = .int .i64 0) ∨ (i = .int .i64 1 ∧ z = .int .i64 n1) ∨ (i = .int .i64 2 ∧ z = .int .i64 (n1 + n2 : Nat))) (fun _ i => 2 - (intOf i).toNat)
  case atStart => exact Or.inl ⟨rfl, rfl⟩
  case round =>
    rcases hrel with ⟨rfl, rfl⟩ | ⟨rfl, rfl⟩ | ⟨rfl, rfl⟩
    · have v : ¬ ((n1 : Int) < 0) := by omega
      go_wp2_with fail
      go_round
      case rel => exact Or.inr (Or.inl ⟨rfl, rfl⟩)
      case measure => simp [intOf]
    · have v : ¬ ((n1 : Int) + (n2 : Int) < 0) := by omega
      go_wp2_with fail
      go_round
      case rel => exact Or.inr (Or.inr ⟨rfl, by go_num⟩)
      case measure => simp [intOf]
    · clear d0 d1
      go_wp2_with fail
      refine (KG.out _).mono ?_
      rintro e w1 ⟨⟨v1, rfl, ho1⟩, hb1⟩
      have HO1 := Lib.hid ho1.2
      clear ho1
      go_wp2_with fail
      go_loopw [6, 27] (fun v i wr => ((i = .int .i64 0 ∧ wr.ownsRow w.heap.size 39 7 v 0 []) ∨ (i = .int .i64 1 ∧ wr.ownsRow w.heap.size 39 7 v n1 (l1.flatMap odC)) ∨ (i = .int .i64 2 ∧ wr.ownsRow w.heap.size 39 7 v (n1 + n2) (l1.flatMap odC ++ l2.flatMap odC))) ∧ Below w.heap.size w wr) (fun _ i _ => 2 - (intOf i).toNat)
      case atStart => exact ⟨Or.inl ⟨rfl, HO1.out⟩, hb1⟩
      case round =>
        obtain ⟨⟨rfl, ho⟩ | ⟨rfl, ho⟩ | ⟨rfl, ho⟩, hbl⟩ := hrel
        · have HO := Lib.hid ho
          have hsz := hbl.size
          have hhh := HH.out.t hbl
          obtain ⟨d0, d1⟩ : wr.cell? ⟨h, 0, none⟩ = some (.slice A1 n1 c1) ∧ wr.cell? ⟨h, 1, none⟩ = some (.slice A2 n2 c2) := ⟨hhh.cell 0, hhh.cell 1⟩
          have HSR := Lib.hid (HS1.out.below hbl)
          clear ho hhh
          go_wp2_with (at_builtin; refine wpList_appN _ rfl _ _ 25 rfl 39 _ 7 56 Tryd.underlying25 info_state rfl (by decide) rfl HO.out _ _ _ _ rfl HSR.out od_one (by omega) (by omega) (by omega) ?_; intro v' w6 ho' hg)
          go_roundw
          case rel => exact ⟨Or.inr (Or.inl ⟨rfl, by simpa using ho'⟩), below_app hbl HO.out hg hsz (Nat.le_refl _)⟩
          case measure => simp [intOf]
        · have HO := Lib.hid ho
          have hsz := hbl.size
          have hhh := HH.out.t hbl
          obtain ⟨d0, d1⟩ : wr.cell? ⟨h, 0, none⟩ = some (.slice A1 n1 c1) ∧ wr.cell? ⟨h, 1, none⟩ = some (.slice A2 n2 c2) := ⟨hhh.cell 0, hhh.cell 1⟩
          have HSR := Lib.hid (HS2.out.below hbl)
          clear ho hhh
          go_wp2_with (at_builtin; refine wpList_appN _ rfl _ _ 25 rfl 39 _ 7 56 Tryd.underlying25 info_state rfl (by decide) rfl HO.out _ _ _ _ rfl HSR.out od_one (by omega) (by omega) (by omega) ?_; intro v' w6 ho' hg)
          go_roundw
          case rel => exact ⟨Or.inr (Or.inr ⟨rfl, ho'⟩), below_app hbl HO.out hg hsz (Nat.le_refl _)⟩
          case measure => simp [intOf]
        · have HO := Lib.hid ho
          clear ho
          go_wp2_with fail
          go_ret
          exact ⟨⟨_, rfl, HE.out.1, by rw [HE.out.2]; exact HO.out⟩, hbl⟩
--%%
end Go.Proofs.YtfhbnojhmeodiaaDoor
