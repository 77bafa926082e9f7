/-
  Layer 18's law AttachServes: its walk. Conditions as named.
-/
import Derived.Test.YtclpchhklcjhhaaDoorLaw18c
namespace Go.Proofs.YtclpchhklcjhhaaDoor
set_option linter.unusedVariables false
open Go.RowKit
theorem SvC.over {l : List Od} {net prot : Int} {n : Nat} {w' : World} {A : Option Addr} {m : Nat} {left e0 : Int} (h : SvC l net prot n w' A m left e0) (h1 : ¬ (mrB net = true ∧ mrB prot = true)) : e0 = 10 ∧ m = 0 ∧ left = 0 := by
  rcases h with ⟨_, h⟩ | ⟨h, _⟩ | ⟨h, _⟩ | ⟨h, _⟩
  · exact h
  all_goals exact absurd h h1
theorem SvC.neg {l : List Od} {net prot : Int} {n : Nat} {w' : World} {A : Option Addr} {m : Nat} {left e0 : Int} (h : SvC l net prot n w' A m left e0) (h1 : mrB net = true ∧ mrB prot = true) (h2 : prot < 0) : e0 = 1 ∧ m = 0 ∧ left = 0 := by
  rcases h with ⟨h, _⟩ | ⟨_, _, h⟩ | ⟨_, h, _⟩ | ⟨_, h, _⟩
  · exact absurd h1 h
  · exact h
  all_goals omega
theorem SvC.err {l : List Od} {net prot : Int} {n : Nat} {w' : World} {A : Option Addr} {m : Nat} {left e0 : Int} (h : SvC l net prot n w' A m left e0) (h1 : mrB net = true ∧ mrB prot = true) (h2 : 0 ≤ prot) (k : Nat) (hk : k < n) (he : oneE (l.getD k od0) net ≠ 0) : e0 = 10 ∧ m = 0 ∧ left = 0 := by
  rcases h with ⟨h, _⟩ | ⟨_, h, _⟩ | ⟨_, _, h, _⟩ | ⟨_, _, _, h⟩
  · exact absurd h1 h
  · omega
  · exact absurd (h k hk) he
  · exact h
theorem SvC.all {l : List Od} {net prot : Int} {n : Nat} {w' : World} {A : Option Addr} {m : Nat} {left e0 : Int} (h : SvC l net prot n w' A m left e0) (h1 : mrB net = true ∧ mrB prot = true) (h2 : 0 ≤ prot) (he : ∀ k, k < n → oneE (l.getD k od0) net = 0) : e0 = 0 ∧ m = n ∧ left = leftA l net prot n ∧ TkSl w' A n (tkL l net prot n) := by
  rcases h with ⟨h, _⟩ | ⟨_, h, _⟩ | ⟨_, _, _, h⟩ | ⟨_, _, ⟨k, hk, _, h⟩, _⟩
  · exact absurd h1 h
  · omega
  · exact h
  · exact absurd (he k hk) h
theorem SvC.ok {l : List Od} {net prot : Int} {n : Nat} {w' : World} {A : Option Addr} {m : Nat} {left : Int} (h : SvC l net prot n w' A m left 0) : m = n ∧ TkSl w' A n (tkL l net prot n) := by
  rcases h with ⟨_, h, _⟩ | ⟨_, _, h, _⟩ | ⟨_, _, _, _, h, _, h2⟩ | ⟨_, _, _, h, _⟩
  · cases h
  · cases h
  · exact ⟨h, h2⟩
  · cases h
theorem SvC.zero {l : List Od} {net prot : Int} {n : Nat} {w' : World} {A : Option Addr} {m : Nat} {left e0 : Int} (h : SvC l net prot n w' A m left e0) (h0 : e0 ≠ 0) : e0 = 10 ∨ e0 = 1 := by
  rcases h with ⟨_, h, _⟩ | ⟨_, _, h, _⟩ | ⟨_, _, _, h, _⟩ | ⟨_, _, _, h, _⟩
  · exact Or.inl h
  · exact Or.inr h
  · exact absurd h h0
  · exact Or.inl h
--%%
set_option maxRecDepth 100000 in
set_option maxHeartbeats 6400000 in
theorem attachServes_walk (net prot : Int) (A : Option Addr) (n c : Nat) (l : List Od) (w : World) (hl : OdSl w A n l) (htab : Tab w) (hb9 : (-9223372036854775808 ≤ net ∧ net ≤ 9223372036854775807) ∧ (-9223372036854775808 ≤ prot ∧ prot ≤ 9223372036854775807)) :
    Calls Tryd.prog 3 #[.int .i64 net, .int .i64 prot, .slice A n c] w fun e w' => e = .returned (.bool true) ∧ Below w.heap.size w w' := by
  have HL := Lib.hid hl
  have HT := Lib.hid htab
  clear hl htab hb9
  go_enter Tryd.func3, Tryd.ntmps3
  go_wp2_with fail
  refine (serves_c _ HT.out).mono ?_
  rintro e w1 ⟨rfl, hb1⟩
  go_wp2_with fail
  refine (may_c A n c l _ (RowSl.below HL.out hb1)).mono ?_
  rintro e w2 ⟨bb, ⟨rfl, hy⟩, hb2⟩
  have hb3 := bT hb1 hb2
  cases bb
  · clear hy
    go_wp2_with fail
    go_ret
    exact ⟨rfl, hb3⟩
  have hm := hy rfl
  have KS := Lib.hid (fun W h => serve_any net prot A n c l W h hm)
  have HM := Lib.hid hm
  clear hy hm
  go_wp2_with fail
  refine (KS.out _ (RowSl.below HL.out hb3)).mono ?_
  rintro e w3 ⟨⟨B, m, c', left, e0, rfl, hsv⟩, hb4⟩
  have hb5 := bT hb3 hb4
  have HSV := Lib.hid hsv
  clear hsv
  by_cases g1 : 100000000000 < net
  · obtain ⟨rfl, rfl, rfl⟩ := HSV.out.over (fun h => by have := mr_iff.1 h.1; omega)
    have v : decide (100000000000 < net) = true := by simpa using g1
    clear g1
    go_wp2_with fail
    go_ret
    exact ⟨rfl, hb5⟩
  have v1 : decide (100000000000 < net) = false := by simpa using g1
  by_cases g2 : net < -100000000000
  · obtain ⟨rfl, rfl, rfl⟩ := HSV.out.over (fun h => by have := mr_iff.1 h.1; omega)
    have v : decide (net < -100000000000) = true := by simpa using g2
    clear g1 g2
    go_wp2_with fail
    go_ret
    exact ⟨rfl, hb5⟩
  have v2 : decide (net < -100000000000) = false := by simpa using g2
  by_cases g3 : 100000000000 < prot
  · obtain ⟨rfl, rfl, rfl⟩ := HSV.out.over (fun h => by have := mr_iff.1 h.2; omega)
    have v : decide (100000000000 < prot) = true := by simpa using g3
    clear g1 g2 g3
    go_wp2_with fail
    go_ret
    exact ⟨rfl, hb5⟩
  have v3 : decide (100000000000 < prot) = false := by simpa using g3
  by_cases g4 : prot < -100000000000
  · obtain ⟨rfl, rfl, rfl⟩ := HSV.out.over (fun h => by have := mr_iff.1 h.2; omega)
    have v : decide (prot < -100000000000) = true := by simpa using g4
    clear g1 g2 g3 g4
    go_wp2_with fail
    go_ret
    exact ⟨rfl, hb5⟩
  have v4 : decide (prot < -100000000000) = false := by simpa using g4
  have hmr : mrB net = true ∧ mrB prot = true := ⟨mr_t (by omega), mr_t (by omega)⟩
  have hn0 : -100000000000 ≤ net := by omega
  have hn1 : net ≤ 100000000000 := by omega
  have hq1 : prot ≤ 100000000000 := by omega
  have HMR := Lib.hid hmr
  clear g1 g2 g3 g4 hmr
  by_cases g5 : prot < 0
  · obtain ⟨rfl, rfl, rfl⟩ := HSV.out.neg HMR.out g5
    have v : decide (prot < 0) = true := by simpa using g5
    clear g5
    go_wp2_with fail
    go_ret
    exact ⟨rfl, hb5⟩
  have v5 : decide (prot < 0) = false := by simpa using g5
  have hp0 : 0 ≤ prot := by omega
  clear g5
  have HL0 : Hid (leftA l net prot 0 = net) := rfl
  have HLB := Lib.hid (fun k => leftA_bd l net prot hp0 k)
  go_wp2_with fail
  go_loopw [10, 71] (fun rs i wr => ∃ k : Nat, k ≤ n ∧ i = .int .i64 k ∧ rs = .int .i64 (leftA l net prot k) ∧ Hid (∀ j, j < k → oneE (l.getD j od0) net = 0) ∧ Below w3.heap.size w3 wr) (fun _ i _ => n - (intOf i).toNat)
  case atStart => exact ⟨0, Nat.zero_le _, rfl, by rw [HL0.out], fun j hj => absurd hj (by omega), b0 _⟩
  case round =>
    obtain ⟨k, hk', rfl, rfl, HE, hbl⟩ := hrel
    have hB := bT hb5 hbl
    have hlb := HLB.out k
    by_cases hk : k < n
    case neg =>
      obtain rfl : k = n := by omega
      obtain ⟨rfl, hmk, hlf, hts⟩ := HSV.out.all HMR.out hp0 HE.out
      have hmk2 := hmk.symm
      clear hmk
      subst hmk2
      rw [hlf]
      have KR := Lib.hid (aright_c B k c' (tkL l net prot k) _ (RowSl.below hts hbl) (fun j hj => by
        have h1 := HLB.out j
        have h2 := HLB.out (j + 1)
        have h3 := oneD_bd (HM.out.1 j hj) ⟨hn0, hn1⟩ (HE.out j hj)
        have h4 := ordV_bd (HM.out.1 j hj) ⟨hn0, hn1⟩ (oneE_zero (HE.out j hj)).1
        have h5 := (HM.out.1 j hj).ar
        rw [tkL_get l net prot k j hj]
        unfold TkR tkA oneV
        have h6 : 0 ≤ oneT (l.getD j od0) net (max 0 (leftA l net prot j - prot)) ∧ oneT (l.getD j od0) net (max 0 (leftA l net prot j - prot)) ≤ oneD (l.getD j od0) net := by unfold oneT; omega
        dsimp only
        omega) true (Lib.hid (ok_tk l net prot k hp0 HM.out.1 ⟨hn0, hn1⟩ HE.out).symm))
      generalize leftA l net prot k = lf at *
      clear hlf hts hlb
      go_wp2_with fail
      refine KR.out.mono ?_
      rintro e w6 ⟨rfl, hb6⟩
      go_wp2_with fail
      go_ret
      exact ⟨rfl, bT hB hb6⟩
    obtain ⟨bl, ol, rfl, hltl, hatl⟩ := (RowSl.below HL.out hB).2.2 (by omega)
    have hcd := hatl k hk
    have hodk := HM.out.1 k hk
    have hn20 := HM.out.2
    have HERR := Lib.hid (fun he => HSV.out.err HMR.out hp0 k hk he)
    have HTK : Hid ((tkL l net prot n).getD k tk0 = oneV (l.getD k od0) net (max 0 (leftA l net prot k - prot))) := tkL_get l net prot n k hk
    have HLA : Hid (leftA l net prot (k + 1) = leftA l net prot k - oneT (l.getD k od0) net (max 0 (leftA l net prot k - prot))) := rfl
    have hlb1 := HLB.out (k + 1)
    rw [HLA.out] at hlb1
    have HNX : Hid (oneE (l.getD k od0) net = 0 → ∀ j, j < k + 1 → oneE (l.getD j od0) net = 0) := fun h j hj => by
      rcases (by omega : j = k ∨ j < k) with rfl | hj
      · exact h
      · exact HE.out j hj
    have hEdef : oneE (l.getD k od0) net = if ordE (l.getD k od0) net ≠ 0 then 10 else if ordV (l.getD k od0) net + (l.getD k od0).ar ≤ 100000000000 then 0 else 10 := rfl
    generalize leftA l net prot k = lv at *
    generalize hzz : l.getD k od0 = zz at *
    obtain ⟨id, pr, am, ra, tt, tk, ar⟩ := zz
    have har := hodk.ar
    dsimp only at hEdef har
    obtain ⟨c0, c1, c2, c3, c4, c5, c6⟩ : wr.cell? ⟨bl, ol + k * 7, none⟩ = some (.int .i64 id) ∧ wr.cell? ⟨bl, ol + k * 7 + 1, none⟩ = some (.int .i64 pr) ∧ wr.cell? ⟨bl, ol + k * 7 + 2, none⟩ = some (.int .i64 am) ∧ wr.cell? ⟨bl, ol + k * 7 + 3, none⟩ = some (.int .i64 ra) ∧ wr.cell? ⟨bl, ol + k * 7 + 4, none⟩ = some (.int .i64 tt) ∧ wr.cell? ⟨bl, ol + k * 7 + 5, none⟩ = some (.int .i64 tk) ∧ wr.cell? ⟨bl, ol + k * 7 + 6, none⟩ = some (.int .i64 ar) := ⟨hcd 0 _ rfl, hcd 1 _ rfl, hcd 2 _ rfl, hcd 3 _ rfl, hcd 4 _ rfl, hcd 5 _ rfl, hcd 6 _ rfl⟩
    have hb6 := bA hbl (.cells #[.int .i64 id, .int .i64 pr, .int .i64 am, .int .i64 ra, .int .i64 tt, .int .i64 tk, .int .i64 ar] 32)
    have yb := Blk.mk wr 32 #[.int .i64 id, .int .i64 pr, .int .i64 am, .int .i64 ra, .int .i64 tt, .int .i64 tk, .int .i64 ar]
    have hBx := bT hb5 hb6
    clear hatl hcd hzz
    by_cases ho : ordE ⟨id, pr, am, ra, tt, tk, ar⟩ net = 0
    case neg =>
      have KO := Lib.hid (ordered_e id pr am ra tt tk ar net · hodk HMR.out.1 ho)
      obtain ⟨rfl, rfl, rfl⟩ := HERR.out (by rw [hEdef, if_pos ho]; decide)
      clear ho hodk hEdef hlb hlb1 har
      go_wp2_with fail
      refine (KO.out _).mono ?_
      rintro e w6 ⟨rfl, hb7⟩
      go_wp2_with fail
      go_ret
      exact ⟨rfl, bT hBx hb7⟩
    have KO := Lib.hid (ordered_t id pr am ra tt tk ar net · hodk HMR.out.1 ho)
    have hov := ordV_bd hodk ⟨hn0, hn1⟩ ho
    rw [if_neg (by simpa using ho)] at hEdef
    have hTdef : oneT ⟨id, pr, am, ra, tt, tk, ar⟩ net (max 0 (lv - prot)) = max 0 (min (ordV ⟨id, pr, am, ra, tt, tk, ar⟩ net + ar) (max 0 (lv - prot))) := rfl
    have hVdef : oneV ⟨id, pr, am, ra, tt, tk, ar⟩ net (max 0 (lv - prot)) = ⟨id, ar, ordV ⟨id, pr, am, ra, tt, tk, ar⟩ net, ordV ⟨id, pr, am, ra, tt, tk, ar⟩ net + ar, max 0 (min (ordV ⟨id, pr, am, ra, tt, tk, ar⟩ net + ar) (max 0 (lv - prot))), ordV ⟨id, pr, am, ra, tt, tk, ar⟩ net + ar - max 0 (min (ordV ⟨id, pr, am, ra, tt, tk, ar⟩ net + ar) (max 0 (lv - prot)))⟩ := rfl
    rw [hVdef] at HTK
    rw [hTdef] at HLA hlb1
    clear hTdef hVdef
    generalize ordV ⟨id, pr, am, ra, tt, tk, ar⟩ net = ov at *
    by_cases hd : ov + ar ≤ 100000000000
    case neg =>
      obtain ⟨rfl, rfl, rfl⟩ := HERR.out (by rw [hEdef, if_neg hd]; decide)
      have vd : decide (100000000000 < ov + ar) = true := by simp; omega
      obtain ⟨o0, o1⟩ := hov
      obtain ⟨r0, r1⟩ := har
      clear ho hodk hEdef hlb hlb1 hd
      go_wp2_with fail
      refine (KO.out _).mono ?_
      rintro e w6 ⟨rfl, hb7⟩
      have q6 := (yb.t hb7).cell 6
      go_wp2_with fail
      go_ret
      exact ⟨rfl, bT hBx hb7⟩
    have HNX2 := Lib.hid (HNX.out (hEdef.trans (if_pos hd)))
    have vd : decide (100000000000 < ov + ar) = false := by simp; omega
    obtain ⟨o0, o1⟩ := hov
    obtain ⟨r0, r1⟩ := har
    obtain ⟨fr, hfr⟩ : ∃ fr, max 0 (lv - prot) = fr := ⟨_, rfl⟩
    obtain ⟨du, hdu⟩ : ∃ du, ov + ar = du := ⟨_, rfl⟩
    rw [hfr, hdu] at HTK HLA hlb1
    obtain ⟨tv, htv⟩ : ∃ tv, min du fr = tv := ⟨_, rfl⟩
    have htv2 : max 0 (min du fr) = tv := by omega
    rw [htv2] at HTK HLA hlb1
    have tv0 : 0 ≤ tv := by omega
    have tv1 : tv ≤ du := by omega
    have du1 : du ≤ 100000000000 := by omega
    have du0 : 0 ≤ du := by omega
    rw [hdu] at vd
    have lv0 : -100000000000 ≤ lv := by omega
    have lv1 : lv ≤ 100000000000 := by omega
    have kk5 : ((k : Int)).toNat = k := by omega
    have kk6 : (k : Int) < (n : Int) := by omega
    have kk7 : (0 : Int) ≤ (k : Int) := by omega
    have wd : IntKind.i64.wrap (du - tv) = du - tv := by rw [IntKind.wrap_i64]; omega
    clear ho hodk hEdef hlb hlb1 hd htv2
    by_cases he0 : e0 = 0
    · subst he0
      obtain ⟨hmn, hts⟩ := HSV.out.ok
      obtain ⟨b, off, rfl, hlt, hat⟩ := (RowSl.below hts hbl).2.2 (by omega)
      have hct := hat k hk
      rw [HTK.out] at hct
      obtain ⟨t0, t1, t2, t3, t4, t5⟩ : wr.cell? ⟨b, off + k * 6, none⟩ = some (.int .i64 id) ∧ wr.cell? ⟨b, off + k * 6 + 1, none⟩ = some (.int .i64 ar) ∧ wr.cell? ⟨b, off + k * 6 + 2, none⟩ = some (.int .i64 ov) ∧ wr.cell? ⟨b, off + k * 6 + 3, none⟩ = some (.int .i64 du) ∧ wr.cell? ⟨b, off + k * 6 + 4, none⟩ = some (.int .i64 tv) ∧ wr.cell? ⟨b, off + k * 6 + 5, none⟩ = some (.int .i64 (du - tv)) := ⟨hct 0 _ rfl, hct 1 _ rfl, hct 2 _ rfl, hct 3 _ rfl, hct 4 _ rfl, hct 5 _ rfl⟩
      subst hmn
      have HFAR : Hid (∀ W, Below (wr.alloc (.cells #[.int .i64 id, .int .i64 pr, .int .i64 am, .int .i64 ra, .int .i64 tt, .int .i64 tk, .int .i64 ar] 32)).heap.size (wr.alloc (.cells #[.int .i64 id, .int .i64 pr, .int .i64 am, .int .i64 ra, .int .i64 tt, .int .i64 tk, .int .i64 ar] 32)) W → W.cell? ⟨b, off + k * 6, none⟩ = some (.int .i64 id) ∧ W.cell? ⟨b, off + k * 6 + 1, none⟩ = some (.int .i64 ar) ∧ W.cell? ⟨b, off + k * 6 + 2, none⟩ = some (.int .i64 ov) ∧ W.cell? ⟨b, off + k * 6 + 3, none⟩ = some (.int .i64 du) ∧ W.cell? ⟨b, off + k * 6 + 4, none⟩ = some (.int .i64 tv) ∧ W.cell? ⟨b, off + k * 6 + 5, none⟩ = some (.int .i64 (du - tv))) := fun W hW => by
        have hx := bT (below1 wr (.cells #[.int .i64 id, .int .i64 pr, .int .i64 am, .int .i64 ra, .int .i64 tt, .int .i64 tk, .int .i64 ar] 32)) hW
        exact ⟨(hx.cell (p := ⟨b, _, none⟩) hlt).trans t0, (hx.cell (p := ⟨b, _, none⟩) hlt).trans t1, (hx.cell (p := ⟨b, _, none⟩) hlt).trans t2, (hx.cell (p := ⟨b, _, none⟩) hlt).trans t3, (hx.cell (p := ⟨b, _, none⟩) hlt).trans t4, (hx.cell (p := ⟨b, _, none⟩) hlt).trans t5⟩
      clear hts hat hct t0 t1 t2 t3 t4 t5
      go_wp2_with fail
      refine (KO.out _).mono ?_
      rintro e w6 ⟨rfl, hb7⟩
      have q0 := (yb.t hb7).cell 0
      have q6 := (yb.t hb7).cell 6
      obtain ⟨t0, t1, t2, t3, t4, t5⟩ := HFAR.out _ hb7
      clear c0 c1 c2 c3 c4 c5 c6
      go_wp2_with fail
      go_quiet (fail)
      go_wp2_with fail
      go_roundw
      case rel => exact ⟨k + 1, by omega, by go_num, by rw [HLA.out], HNX2.out, bD (bT hb6 hb7) _⟩
      case measure => simp [intOf]; omega
    · have u : (e0 == 0) = false := by simpa using he0
      clear he0
      go_wp2_with fail
      refine (KO.out _).mono ?_
      rintro e w6 ⟨rfl, hb7⟩
      have q0 := (yb.t hb7).cell 0
      have q6 := (yb.t hb7).cell 6
      clear c0 c1 c2 c3 c4 c5 c6
      go_wp2_with fail
      go_quiet (fail)
      go_wp2_with fail
      go_roundw
      case rel => exact ⟨k + 1, by omega, by go_num, by rw [HLA.out], HNX2.out, bD (bT hb6 hb7) _⟩
      case measure => simp [intOf]; omega
--%%
end Go.Proofs.YtclpchhklcjhhaaDoor
