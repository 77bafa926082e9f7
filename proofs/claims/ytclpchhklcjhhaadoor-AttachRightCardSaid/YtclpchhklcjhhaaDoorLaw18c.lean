/-
  Layer 18's laws AttachProtects, AttachShort, AttachServes: their walks. Conditions as named.
-/
import Derived.Test.YtclpchhklcjhhaaDoorLaw18b
namespace Go.Proofs.YtclpchhklcjhhaaDoor
set_option linter.unusedVariables false
open Go.RowKit
/-- what Serve answers, whatever comes in -/
def SvC (l : List Od) (net prot : Int) (n : Nat) (w' : World) (A : Option Addr) (m : Nat) (left e0 : Int) : Prop :=
  (¬ (mrB net = true ∧ mrB prot = true) ∧ e0 = 10 ∧ m = 0 ∧ left = 0) ∨
  ((mrB net = true ∧ mrB prot = true) ∧ prot < 0 ∧ e0 = 1 ∧ m = 0 ∧ left = 0) ∨
  ((mrB net = true ∧ mrB prot = true) ∧ 0 ≤ prot ∧ (∀ k, k < n → oneE (l.getD k od0) net = 0) ∧ e0 = 0 ∧ m = n ∧ left = leftA l net prot n ∧ TkSl w' A n (tkL l net prot n)) ∨
  ((mrB net = true ∧ mrB prot = true) ∧ 0 ≤ prot ∧ (∃ k, k < n ∧ (∀ j, j < k → oneE (l.getD j od0) net = 0) ∧ oneE (l.getD k od0) net ≠ 0) ∧ e0 = 10 ∧ m = 0 ∧ left = 0)
--%%
theorem serve_any (net prot : Int) (A : Option Addr) (n c : Nat) (l : List Od) (w : World) (hl : OdSl w A n l) (hm : May18 l n) :
    Calls Tryd.prog 10 #[.int .i64 net, .int .i64 prot, .slice A n c] w fun e w' => (∃ B m c' left e0, e = .returned (.tuple #[.slice B m c', .int .i64 left, .int .i64 e0]) ∧ SvC l net prot n w' B m left e0) ∧ Below w.heap.size w w' := by
  by_cases h1 : mrB net = true ∧ mrB prot = true
  case neg => exact (serve_o net prot A n c w h1).mono fun e w' ⟨he, hb⟩ => ⟨⟨_, _, _, _, _, he, Or.inl ⟨h1, rfl, rfl, rfl⟩⟩, hb⟩
  by_cases h2 : prot < 0
  · exact (serve_r net prot A n c w h1 h2).mono fun e w' ⟨he, hb⟩ => ⟨⟨_, _, _, _, _, he, Or.inr (Or.inl ⟨h1, h2, rfl, rfl, rfl⟩)⟩, hb⟩
  have h3 : 0 ≤ prot := by omega
  refine (serve_c net prot A n c l w h1.1 h1.2 h3 hl hm.1 (by have := hm.2; omega)).mono ?_
  rintro e w' ⟨⟨he, v, rfl, hv⟩ | ⟨k, hk, ha, hn, rfl⟩, hb⟩
  · obtain ⟨B, c', rfl, hs⟩ := hv.sl
    exact ⟨⟨_, _, _, _, _, rfl, Or.inr (Or.inr (Or.inl ⟨h1, h3, he, rfl, rfl, rfl, hs⟩))⟩, hb⟩
  · exact ⟨⟨_, _, _, _, _, rfl, Or.inr (Or.inr (Or.inr ⟨h1, h3, ⟨k, hk, ha, hn⟩, rfl, rfl, rfl⟩))⟩, hb⟩
--%%
set_option maxRecDepth 100000 in
set_option maxHeartbeats 3200000 in
theorem attachProtects_walk (net prot : Int) (A : Option Addr) (n c : Nat) (l : List Od) (w : World) (hl : OdSl w A n l) (htab : Tab w) :
    Calls Tryd.prog 4 #[.int .i64 net, .int .i64 prot, .slice A n c] w fun e w' => e = .returned (.bool true) ∧ Below w.heap.size w w' := by
  have HL := Lib.hid hl
  have HT := Lib.hid htab
  clear hl htab
  go_enter Tryd.func4, Tryd.ntmps4
  go_wp2_with fail
  refine (serves_c _ HT.out).mono ?_
  rintro e w1 ⟨rfl, hb1⟩
  go_wp2_with fail
  refine (may_c A n c l _ (RowSl.below HL.out hb1)).mono ?_
  rintro e w2 ⟨bb, ⟨rfl, hy⟩, hb2⟩
  have hb3 := bT hb1 hb2
  cases bb
  · clear hy
    go_wp2_with fail
    go_ret
    exact ⟨rfl, hb3⟩
  have hm := hy rfl
  have KS := Lib.hid (fun W h => serve_any net prot A n c l W h hm)
  have HM := Lib.hid hm
  clear hy hm
  go_wp2_with fail
  refine (KS.out _ (RowSl.below HL.out hb3)).mono ?_
  rintro e w3 ⟨⟨B, m, c', left, e0, rfl, hsv⟩, hb4⟩
  have hb5 := bT hb3 hb4
  by_cases he0 : e0 = 0
  case neg =>
    have u : (e0 != 0) = true := by simpa using he0
    clear hsv he0
    go_wp2_with fail
    go_ret
    exact ⟨rfl, hb5⟩
  subst he0
  have hsv2 : (mrB net = true ∧ mrB prot = true) ∧ 0 ≤ prot ∧ (∀ k, k < n → oneE (l.getD k od0) net = 0) ∧ m = n ∧ left = leftA l net prot n ∧ TkSl w3 B n (tkL l net prot n) := by
    rcases hsv with ⟨_, h, _⟩ | ⟨_, _, h, _⟩ | ⟨h1, h2, h3, _, h4, h5, h6⟩ | ⟨_, _, _, h, _⟩
    · cases h
    · cases h
    · exact ⟨h1, h2, h3, h4, h5, h6⟩
    · cases h
  obtain ⟨hmr, hp0, hone, rfl, rfl, hts⟩ := hsv2
  have hn' := mr_iff.1 hmr.1
  have hp' := mr_iff.1 hmr.2
  have hlb := fun k => leftA_bd l net prot hp0 k
  have hsum := sumT_tk l net prot m
  have KA := Lib.hid (asum_c B m c' (tkL l net prot m) _ hts (fun k hk => by rw [hsum k hk]; have := hlb k; exact mr_t (by omega)) (fun k hk => by
    rw [tkL_get l net prot m k hk]
    have h1 := hlb k
    have h2 := hlb (k + 1)
    rw [leftA] at h2
    show mrB (oneT _ _ _) = true
    exact mr_t (by omega)))
  rw [hsum m (Nat.le_refl _)] at KA
  have hl1 := hlb m
  generalize leftA l net prot m = lf at *
  obtain ⟨l0, l1⟩ := hl1
  obtain ⟨n0, n1⟩ := hn'
  obtain ⟨r0, r1⟩ := hp'
  obtain ⟨mn, hmn⟩ : ∃ mn, min net prot = mn := ⟨_, rfl⟩
  rw [hmn] at l0
  have v1 : decide (mn ≤ lf) = true := by simpa using l0
  have v2 : decide (lf ≤ net) = true := by simpa using l1
  have b1 : -100000000000 ≤ lf := by omega
  clear hsv hts hsum hlb hone hmr l0
  go_wp2_with fail
  refine KA.out.mono ?_
  rintro e w4 ⟨rfl, hb6⟩
  go_wp2_with fail
  go_ret
  exact ⟨rfl, bT hb5 hb6⟩
--%%
set_option maxRecDepth 100000 in
set_option maxHeartbeats 6400000 in
theorem attachShort_walk (net prot : Int) (A : Option Addr) (n c : Nat) (l : List Od) (w : World) (hl : OdSl w A n l) (htab : Tab w) :
    Calls Tryd.prog 5 #[.int .i64 net, .int .i64 prot, .slice A n c] w fun e w' => e = .returned (.bool true) ∧ Below w.heap.size w w' := by
  have HL := Lib.hid hl
  have HT := Lib.hid htab
  clear hl htab
  go_enter Tryd.func5, Tryd.ntmps5
  go_wp2_with fail
  refine (serves_c _ HT.out).mono ?_
  rintro e w1 ⟨rfl, hb1⟩
  go_wp2_with fail
  refine (may_c A n c l _ (RowSl.below HL.out hb1)).mono ?_
  rintro e w2 ⟨bb, ⟨rfl, hy⟩, hb2⟩
  have hb3 := bT hb1 hb2
  cases bb
  · clear hy
    go_wp2_with fail
    go_ret
    exact ⟨rfl, hb3⟩
  have hm := hy rfl
  have KS := Lib.hid (fun W h => serve_any net prot A n c l W h hm)
  have HM := Lib.hid hm
  clear hy hm
  go_wp2_with fail
  refine (KS.out _ (RowSl.below HL.out hb3)).mono ?_
  rintro e w3 ⟨⟨B, m, c', left, e0, rfl, hsv⟩, hb4⟩
  have hb5 := bT hb3 hb4
  by_cases he0 : e0 = 0
  case neg =>
    have u : (e0 != 0) = true := by simpa using he0
    clear hsv he0
    go_wp2_with fail
    go_ret
    exact ⟨rfl, hb5⟩
  subst he0
  have hsv2 : (mrB net = true ∧ mrB prot = true) ∧ 0 ≤ prot ∧ (∀ k, k < n → oneE (l.getD k od0) net = 0) ∧ m = n ∧ left = leftA l net prot n ∧ TkSl w3 B n (tkL l net prot n) := by
    rcases hsv with ⟨_, h, _⟩ | ⟨_, _, h, _⟩ | ⟨h1, h2, h3, _, h4, h5, h6⟩ | ⟨_, _, _, h, _⟩
    · cases h
    · cases h
    · exact ⟨h1, h2, h3, h4, h5, h6⟩
    · cases h
  obtain ⟨hmr, hp0, hone, rfl, rfl, hts⟩ := hsv2
  have hn' := mr_iff.1 hmr.1
  have HONE := Lib.hid hone
  have HTS := Lib.hid hts
  have HN' := Lib.hid hn'
  have hm20 : m ≤ 20 := HM.out.2
  have HSH0 : Hid (shortTo (tkL l net prot m) 0 = false) := rfl
  clear hsv hts hone hmr hn'
  go_wp2_with fail
  go_loopw [10, 30] (fun sh i wr => ∃ k : Nat, k ≤ m ∧ i = .int .i64 k ∧ sh = .bool (shortTo (tkL l net prot m) k) ∧ Below w3.heap.size w3 wr) (fun _ i _ => m - (intOf i).toNat)
  case atStart => exact ⟨0, Nat.zero_le _, rfl, by rw [HSH0.out], b0 _⟩
  case round =>
    obtain ⟨k, hk', rfl, rfl, hbl⟩ := hrel
    have hB := bT hb5 hbl
    by_cases hk : k < m
    case neg =>
      obtain rfl : k = m := by omega
      go_wp2_with fail
      go_ret
      exact ⟨rfl, hB⟩
    obtain ⟨b, off, rfl, hlt, hat⟩ := (RowSl.below HTS.out hbl).2.2 (by omega)
    have hcl := hat k hk
    obtain ⟨bl, ol, rfl, hltl, hatl⟩ := (RowSl.below HL.out hB).2.2 (by omega)
    have hcd := hatl k hk
    have hcond := cond_tk l net prot m hp0 HM.out.1 HN'.out HONE.out k hk
    have hdd := oneD_bd (HM.out.1 k hk) HN'.out (HONE.out k hk)
    have hoo := ordV_bd (HM.out.1 k hk) HN'.out (oneE_zero (HONE.out k hk)).1
    have haa := (HM.out.1 k hk).ar
    have HSH : Hid (shortTo (tkL l net prot m) (k + 1) = (shortTo (tkL l net prot m) k || decide (((tkL l net prot m).getD k tk0).ta < ((tkL l net prot m).getD k tk0).du))) := rfl
    have hta : (tkL l net prot m).getD k tk0 = oneV (l.getD k od0) net (max 0 (leftA l net prot k - prot)) := tkL_get l net prot m k hk
    unfold condT at hcond
    rw [hta] at hcl hcond HSH
    unfold oneV at hcl hcond HSH
    have htv : 0 ≤ oneT (l.getD k od0) net (max 0 (leftA l net prot k - prot)) ∧ oneT (l.getD k od0) net (max 0 (leftA l net prot k - prot)) ≤ oneD (l.getD k od0) net := by unfold oneT; omega
    generalize oneT (l.getD k od0) net (max 0 (leftA l net prot k - prot)) = tv at *
    have hdu : oneD (l.getD k od0) net = ordV (l.getD k od0) net + (l.getD k od0).ar := rfl
    generalize oneD (l.getD k od0) net = dv at *
    generalize ordV (l.getD k od0) net = ov at *
    generalize hsk : shortTo (tkL l net prot m) k = sk at *
    generalize l.getD k od0 = zz at *
    obtain ⟨id, pr, am, ra, tt, tk, ar⟩ := zz
    dsimp only at hcond HSH haa hdu
    obtain ⟨c0, c1, c2, c3, c4, c5⟩ : wr.cell? ⟨b, off + k * 6, none⟩ = some (.int .i64 id) ∧ wr.cell? ⟨b, off + k * 6 + 1, none⟩ = some (.int .i64 ar) ∧ wr.cell? ⟨b, off + k * 6 + 2, none⟩ = some (.int .i64 ov) ∧ wr.cell? ⟨b, off + k * 6 + 3, none⟩ = some (.int .i64 dv) ∧ wr.cell? ⟨b, off + k * 6 + 4, none⟩ = some (.int .i64 tv) ∧ wr.cell? ⟨b, off + k * 6 + 5, none⟩ = some (.int .i64 (dv - tv)) := ⟨hcl 0 _ rfl, hcl 1 _ rfl, hcl 2 _ rfl, hcl 3 _ rfl, hcl 4 _ rfl, hcl 5 _ rfl⟩
    obtain ⟨d0, d6⟩ : wr.cell? ⟨bl, ol + k * 7, none⟩ = some (.int .i64 id) ∧ wr.cell? ⟨bl, ol + k * 7 + 6, none⟩ = some (.int .i64 ar) := ⟨hcd 0 _ rfl, hcd 6 _ rfl⟩
    have hpass : sk = true → ¬ 0 < tv := by
      intro h hc
      rw [h] at hcond
      simp [hc] at hcond
    have hb6 := bA hbl (.cells #[.int .i64 id, .int .i64 ar, .int .i64 ov, .int .i64 dv, .int .i64 tv, .int .i64 (dv - tv)] 36)
    obtain ⟨tv0, tv1⟩ := htv
    obtain ⟨dv0, dv1⟩ := hdd
    obtain ⟨ov0, ov1⟩ := hoo
    obtain ⟨ar0, ar1⟩ := haa
    have s1 : IntKind.i64.wrap (ar + ov) = dv := by rw [IntKind.wrap_i64]; omega
    have s2 : IntKind.i64.wrap (tv + (dv - tv)) = dv := by rw [IntKind.wrap_i64]; omega
    have s3 : ar + ov = dv := by omega
    have s4 : tv + (dv - tv) = dv := by omega
    have v3 : decide (tv < 0) = false := by simp; omega
    have v4 : decide (dv - tv < 0) = false := by simp; omega
    have kk5 : ((k : Int)).toNat = k := by omega
    have kk6 : (k : Int) < (m : Int) := by omega
    have kk7 : (0 : Int) ≤ (k : Int) := by omega
    clear hat hcl hatl hcd hcond hta hdu
    by_cases hca : tv < dv
    · have V5 : Hid (decide (tv < dv) = true) := Lib.hid (by simpa using hca)
      have v5 : decide (0 < dv - tv) = true := by simp; omega
      have HS2 : Hid (shortTo (tkL l net prot m) (k + 1) = true) := Lib.hid (HSH.out.trans (by simp [hca]))
      cases sk
      · clear hca hpass s3
        go_wp2_with fail
        go_quiet (fail)
        go_wp2_with fail
        go_roundw
        case rel => exact ⟨k + 1, by omega, by go_num, by rw [HS2.out, V5.out], bD hb6 _⟩
        case measure => simp [intOf]; omega
      · have v6 : decide (0 < tv) = false := by simpa using hpass rfl
        clear hca hpass s3
        go_wp2_with fail
        go_quiet (fail)
        go_wp2_with fail
        go_roundw
        case rel => exact ⟨k + 1, by omega, by go_num, by rw [HS2.out], bD hb6 _⟩
        case measure => simp [intOf]; omega
    · have V5 : Hid (decide (tv < dv) = false) := Lib.hid (by simpa using hca)
      have v5 : decide (0 < dv - tv) = false := by simp; omega
      have HS2 : Hid (shortTo (tkL l net prot m) (k + 1) = sk) := Lib.hid (HSH.out.trans (by simp [hca]))
      cases sk
      · clear hca hpass s3
        go_wp2_with fail
        go_quiet (fail)
        go_wp2_with fail
        go_roundw
        case rel => exact ⟨k + 1, by omega, by go_num, by rw [HS2.out, V5.out], bD hb6 _⟩
        case measure => simp [intOf]; omega
      · have v6 : decide (0 < tv) = false := by simpa using hpass rfl
        clear hca hpass s3
        go_wp2_with fail
        go_quiet (fail)
        go_wp2_with fail
        go_roundw
        case rel => exact ⟨k + 1, by omega, by go_num, by rw [HS2.out], bD hb6 _⟩
        case measure => simp [intOf]; omega
--%%
end Go.Proofs.YtclpchhklcjhhaaDoor
