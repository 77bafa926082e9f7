/-
  Contracts of functions that the claim reaches, and the plain laws behind them. Conditions as named in each.
-/
import Derived.Test.YtiaabmhjkoohmaaGreatReck
import Derived.Test.YtiaabmhjkoohmaaGreatKeep
namespace Go.Proofs.YtiaabmhjkoohmaaGreat
set_option maxRecDepth 100000
set_option maxHeartbeats 25600000
set_option linter.unusedVariables false
set_option linter.unusedSimpArgs false
open Go.RowKit Tryz
open Lib (hid)
structure Slz (w : World) (base : Nat) (E : Int) (z Z : Sp) (A : Option Addr) (n c : Nat) (B : Option Addr) (m d : Nat) : Prop where
 ok : E = 0 → Z = z ∧ n = z.rows.length ∧ m = z.tk.length ∧ w.ownsRow base 79 2 (.slice A n c) n (z.rows.flatMap shC) ∧ w.ownsRow base 116 6 (.slice B m d) m (z.tk.flatMap tkC)
 no : E ≠ 0 → Z = sp0 ∧ A = none ∧ n = 0 ∧ c = 0 ∧ B = none ∧ m = 0 ∧ d = 0
def SlipU (E : Int) (z : Sp) (w : World) (e : Ending) (w' : World) : Prop :=
 (∃ (Z : Sp) (A : Option Addr) (n c : Nat) (B : Option Addr) (m d : Nat), e = .returned (.tuple #[.agg (spC Z A n c B m d), .int .i64 E]) ∧ Slz w' w.heap.size E z Z A n c B m d) ∧ Below w.heap.size w w'
theorem SlipR.u {E : Int} {z : Sp} {w w' : World} {e : Ending} (h : SlipR E z w e w') : SlipU E z w e w' := by
 obtain ⟨⟨h0, A, c, B, d, he, o1, o2⟩ | ⟨h0, he⟩, hb⟩ := h
 ·
  exact ⟨⟨z, A, _, c, B, _, d, by rw [he, h0], fun _ => ⟨rfl, rfl, rfl, o1, o2⟩, fun h => absurd h0 h⟩, hb⟩
 ·
  exact ⟨⟨sp0, none, 0, 0, none, 0, 0, he, fun h => absurd h h0, fun _ => ⟨rfl, rfl, rfl, rfl, rfl, rfl, rfl⟩⟩, hb⟩
theorem Slz.more {w : World} {base base' : Nat} {E : Int} {z Z : Sp} {A : Option Addr} {n c : Nat} {B : Option Addr} {m d : Nat} (h : Slz w base E z Z A n c B m d) (hb : base' ≤ base) : Slz w base' E z Z A n c B m d :=
 ⟨fun h0 => ⟨(h.ok h0).1, (h.ok h0).2.1, (h.ok h0).2.2.1, oM9 (h.ok h0).2.2.2.1 hb, oM9 (h.ok h0).2.2.2.2 hb⟩, h.no⟩
theorem Slz.below {w w' : World} {base : Nat} {E : Int} {z Z : Sp} {A : Option Addr} {n c : Nat} {B : Option Addr} {m d : Nat} (h : Slz w base E z Z A n c B m d) (hb : Below w.heap.size w w') : Slz w' base E z Z A n c B m d :=
 ⟨fun h0 => ⟨(h.ok h0).1, (h.ok h0).2.1, (h.ok h0).2.2.1, oB9 (h.ok h0).2.2.2.1 hb, oB9 (h.ok h0).2.2.2.2 hb⟩, h.no⟩
theorem Slz.grown {w w' : World} {base : Nat} {E : Int} {z Z : Sp} {A : Option Addr} {n c : Nat} {B : Option Addr} {m d : Nat} (h : Slz w base E z Z A n c B m d) {g : Nat} {t : TypeId} {cs : Array Value} (hk : Blk w g t cs) (h1 : 79 ≠ t) (h2 : 116 ≠ t) (hg : w.grownBy w' (some g)) : Slz w' base E z Z A n c B m d :=
 ⟨fun h0 => ⟨(h.ok h0).1, (h.ok h0).2.1, (h.ok h0).2.2.1, (h.ok h0).2.2.2.1.kept hg (Or.inr (obz (h.ok h0).2.2.2.1 hk h1).symm), (h.ok h0).2.2.2.2.kept hg (Or.inr (obz (h.ok h0).2.2.2.2 hk h2).symm)⟩, h.no⟩
theorem pgz (W : World) (g : Nat) (v0 v1 v2 v3 v4 v5 v6 v7 v8 v9 : Value) : W.grownBy ((((((((((W.setCell ⟨g, 0, none⟩ v0).setCell ⟨g, 1, none⟩ v1).setCell ⟨g, 2, none⟩ v2).setCell ⟨g, 3, none⟩ v3).setCell ⟨g, 4, none⟩ v4).setCell ⟨g, 5, none⟩ v5).setCell ⟨g, 6, none⟩ v6).setCell ⟨g, 7, none⟩ v7).setCell ⟨g, 8, none⟩ v8).setCell ⟨g, 9, none⟩ v9) (some g) := sg9 g [v0, v1, v2, v3, v4, v5, v6, v7, v8, v9] W 0
theorem Slz.err {w : World} {base : Nat} {E : Int} {z : Sp} (h : E ≠ 0) : Slz w base E z sp0 none 0 0 none 0 0 := ⟨fun h0 => absurd h0 h, fun _ => ⟨rfl, rfl, rfl, rfl, rfl, rfl, rfl⟩⟩
theorem RowR.u {E : Int} {L : List Sh} {w w' : World} {e : Ending} (h : RowR E L w e w') :
  (∃ (A : Option Addr) (n c : Nat), e = .returned (.tuple #[.slice A n c, .int .i64 E]) ∧ (E = 0 → n = L.length ∧ w'.ownsRow w.heap.size 79 2 (.slice A n c) n (L.flatMap shC))) ∧ Below w.heap.size w w' := by
 obtain ⟨⟨h0, v, he, ho⟩ | ⟨h0, he⟩, hb⟩ := h
 ·
  obtain ⟨A, c, rfl, _, _⟩ := ho.sl
  exact ⟨⟨A, _, c, by rw [he, h0], fun _ => ⟨rfl, ho.2⟩⟩, hb⟩
 ·
  exact ⟨⟨none, 0, 0, he, fun h => absurd h h0⟩, hb⟩
--%
theorem rslip_c (t : Tb) (As Ac Ak : Option Addr) (ns cs nc cc nk ck : Nat) (lim rnd : Int) (was : To) (B : Option Addr) (n d : Nat) (Z : Cln) (A1 : Option Addr) (n1 a1 : Nat) (C : Option Addr) (m b : Nat) (k : Int) (back : Bool) (w : World)
  (hl : 0 ≤ lim ∧ lim ≤ 10000) (hlt : lim = t.lim) (hx : Sh9 w C m Z.sh) (hy : Sh9 w B n was.rows) (hm : m ≤ 64) (re : Int) (z : Sp) (he : Hid (re = rslE t was Z k back)) (hz : Hid (z = rslZ t was Z k back)) :
  Calls prog 54 #[.agg #[.slice As ns cs, .slice Ac nc cc, .slice Ak nk ck, .int .i64 lim, .int .i64 rnd], .agg (toC was B n d), .agg (clC Z A1 n1 a1 C m b), .int .i64 k, .bool back] w (SlipU re z w) := by
 have HF0 := hid (Fr.start w)
 have HM : Hid (m = Z.sh.length) := hx.1
 obtain ⟨E1, hE1⟩ : ∃ E, E = bEz So9 Z.sum was.b := ⟨_, rfl⟩
 obtain ⟨V1, hV1⟩ : ∃ V, V = bothV So9 Z.sum was.b := ⟨_, rfl⟩
 have K1 := hid (fun W => bSub_c Z.sum was.b W E1 V1 hE1 hV1)
 obtain ⟨E2, hE2⟩ : ∃ E, E = stepE t.lim was.tx was.sh V1.c Z.tax back := ⟨_, rfl⟩
 obtain ⟨HH, hHH⟩ : ∃ V, V = partI (Z.tax - was.tx) (limI t.lim V1.c) back := ⟨_, rfl⟩
 have K2 := hid (fun W => hstep_g As Ac Ak ns cs nc cc nk ck lim rnd was.tx was.sh V1.c Z.tax back W hl E2 (by rw [hE2, hlt]; exact rfl))
 obtain ⟨E3, hE3⟩ : ∃ E, E = deltaE Z.sh was.rows := ⟨_, rfl⟩
 obtain ⟨L3, hL3⟩ : ∃ V, V = dLz Z.sh was.rows m := ⟨_, rfl⟩
 have K3 := hid (fun W (h1 : Below w.heap.size w W) => (sdelta_c Z.sh was.rows C B m b n d W hm (hx.below h1) (hy.below h1) E3 L3 hE3 hL3).mono fun _ _ h => h.u)
 obtain ⟨E4, hE4⟩ : ∃ E, E = mEz k V1 HH (Z.tax - was.tx - HH) L3 [] := ⟨_, rfl⟩
 have hL3n : L3.length = m := by rw [hL3]; exact deltaL_len _ _ _
 have hEz : rslH t was Z back = HH := by unfold rslH; rw [hHH, hV1]
 have HZ : Hid (z = makeZ k V1 HH (Z.tax - was.tx - HH) L3 []) := hz.out.trans (by unfold rslZ; rw [hEz, hV1, hL3, HM.out])
 have K4 := hid (fun W (A : Option Addr) (c : Nat) (hr : Sh9 W A m L3) => (smake_c k V1 HH (Z.tax - was.tx - HH) L3 [] A none m c 0 0 W hr ⟨rfl, by decide, fun h => absurd h (by omega)⟩ (by omega) (by omega) E4 z hE4 HZ).mono fun _ _ h => h.u)
 have H1 : Hid (re = sqz E1 (sqz E2 (sqz E3 E4))) := he.out.trans (by unfold rslE; rw [hEz, hE1, hE2, hE3, hE4, ← hV1, hHH, hL3, HM.out])
 have HPH : Hid (partI (Z.tax - was.tx) (limI lim V1.c) back = HH) := by unfold Hid; rw [hHH, hlt]
 have HLL := hid hL3n
 have HM64 := hid hm
 clear hl hlt hx hy hm he hz hE1 hV1 hE2 hHH hE3 hL3 hE4 hL3n hEz HZ HM
 obtain ⟨v1c, v1t, v1s⟩ := V1
 obtain ⟨⟨bc, bt, bs⟩, tx, sh, rows, net, tk, py⟩ := was
 obtain ⟨per, ⟨sc, st, ss⟩, ctx, csh⟩ := Z
 unfold SlipU spC at K4
 unfold SlipU spC toC clC
 dsimp only at K1 K2 K3 K4 H1 HPH ⊢
 generalize limI lim v1c = LM at *
 have HF1 := al9 (((((HF0.out.al 26 #[.slice As ns cs, .slice Ac nc cc, .slice Ak nk ck, .int .i64 lim, .int .i64 rnd]).al 82 #[.int .i64 bc, .int .i64 bt, .int .i64 bs, .int .i64 tx, .int .i64 sh, .slice B n d, .int .i64 net, .int .i64 tk, .int .i64 py]).al 121 #[.slice A1 n1 a1, .int .i64 sc, .int .i64 st, .int .i64 ss, .int .i64 ctx, .slice C m b]).al 45 #[.int .i64 0, .int .i64 0, .int .i64 0, .int .i64 0, .int .i64 0, .int .i64 0, .slice none 0 0, .int .i64 0, .slice none 0 0, .int .i64 0]))
 clear HF0
 go_enter func54, ntmps54
 have qz := HF1.out.b 2 rfl
 have c2_1 := qz.cv 1 (.int .i64 sc) rfl
 have c2_2 := qz.cv 2 (.int .i64 st) rfl
 have c2_3 := qz.cv 3 (.int .i64 ss) rfl
 clear qz
 have qz := HF1.out.b 1 rfl
 have c1_0 := qz.cv 0 (.int .i64 bc) rfl
 have c1_1 := qz.cv 1 (.int .i64 bt) rfl
 have c1_2 := qz.cv 2 (.int .i64 bs) rfl
 clear qz
 go_wp2_with fail
 refine (K1.out _).mono ?_
 rintro e W1 ⟨rfl, hb⟩
 clear c2_1 c2_2 c2_3 c1_0 c1_1 c1_2
 have HF2 := hid (HF1.out.ca hb)
 clear hb HF1
 have HF3 := al9 ((HF2.out.al 41 #[.int .i64 v1c, .int .i64 v1t, .int .i64 v1s]))
 clear HF2
 obtain ⟨c3_0, c3_1, c3_2, c3_3, c3_4, c3_5, c3_6, c3_7, c3_8, c3_9⟩ := (HF3.out.b 3 rfl).q10
 obtain ⟨f3_0, f3_1, f3_2, f3_3, f3_4, f3_5, f3_6, f3_7, f3_8, f3_9⟩ := (HF3.out.b 3 rfl).r10
 by_cases h0 : E1 = 0
 case neg =>
  have tr : (E1 != 0) = true := by simpa using h0
  have HE : Hid (re = E1) := H1.out.trans (sN9 h0)
  have HN0 : Hid (re ≠ 0) := by unfold Hid; rw [HE.out]; exact h0
  clear h0
  obtain ⟨c3_0_3, c3_1_3, c3_2_3, c3_3_3, c3_4_3, c3_5_3, c3_6_3, c3_7_3, c3_8_3, c3_9_3⟩ := (HF3.out.b 3 rfl).q10
  obtain ⟨f3_0_3, f3_1_3, f3_2_3, f3_3_3, f3_4_3, f3_5_3, f3_6_3, f3_7_3, f3_8_3, f3_9_3⟩ := (HF3.out.b 3 rfl).r10
  go_wp2_with fail
  refine bodyPost_ret (v := .tuple #[.agg #[.int .i64 0, .int .i64 0, .int .i64 0, .int .i64 0, .int .i64 0, .int .i64 0, .slice none 0 0, .int .i64 0, .slice none 0 0, .int .i64 0], .int .i64 E1]) (by simp [results, results54, go_sem, c3_0, c3_1, c3_2, c3_3, c3_4, c3_5, c3_6, c3_7, c3_8, c3_9, c3_0_3, c3_1_3, c3_2_3, c3_3_3, c3_4_3, c3_5_3, c3_6_3, c3_7_3, c3_8_3, c3_9_3]) rfl ⟨⟨sp0, none, 0, 0, none, 0, 0, by rw [HE.out]; rfl, Slz.err HN0.out⟩, ?_⟩
  have hg := HF3.out.ge 3 rfl
  exact bp9 HF3.out.bl hg (.int .i64 0) (.int .i64 0) (.int .i64 0) (.int .i64 0) (.int .i64 0) (.int .i64 0) (.slice none 0 0) (.int .i64 0) (.slice none 0 0) (.int .i64 0)
 have H2 := hid (H1.out.trans (sE9 h0))
 subst h0
 clear c3_0 f3_0 c3_1 f3_1 c3_2 f3_2 c3_3 f3_3 c3_4 f3_4 c3_5 f3_5 c3_6 f3_6 c3_7 f3_7 c3_8 f3_8 c3_9 f3_9
 obtain ⟨c0_0, c0_1, c0_2, c0_3, c0_4⟩ := (HF3.out.b 0 rfl).q5
 have c1_3 := (HF3.out.b 1 rfl).cv 3 (.int .i64 tx) rfl
 have c1_4 := (HF3.out.b 1 rfl).cv 4 (.int .i64 sh) rfl
 have c4_0 := (HF3.out.b 4 rfl).cv 0 (.int .i64 v1c) rfl
 have c2_4 := (HF3.out.b 2 rfl).cv 4 (.int .i64 ctx) rfl
 go_wp2_with fail
 refine (K2.out _).mono ?_
 rintro e W2 ⟨⟨x1, x2, x3, rfl, hq⟩, hb⟩
 clear c0_0 c0_1 c0_2 c0_3 c0_4 c1_3 c1_4 c4_0 c2_4
 have HF4 := hid (HF3.out.ca hb)
 clear hb HF3
 have HQ2 := hid hq
 clear hq
 have HF5 := al9 ((HF4.out.al 173 #[.int .i64 x2, .int .i64 x3]))
 clear HF4
 obtain ⟨c3_0, c3_1, c3_2, c3_3, c3_4, c3_5, c3_6, c3_7, c3_8, c3_9⟩ := (HF5.out.b 3 rfl).q10
 obtain ⟨f3_0, f3_1, f3_2, f3_3, f3_4, f3_5, f3_6, f3_7, f3_8, f3_9⟩ := (HF5.out.b 3 rfl).r10
 by_cases h0 : E2 = 0
 case neg =>
  have tr : (E2 != 0) = true := by simpa using h0
  have HE : Hid (re = E2) := H2.out.trans (sN9 h0)
  have HN0 : Hid (re ≠ 0) := by unfold Hid; rw [HE.out]; exact h0
  clear h0
  obtain ⟨c3_0_5, c3_1_5, c3_2_5, c3_3_5, c3_4_5, c3_5_5, c3_6_5, c3_7_5, c3_8_5, c3_9_5⟩ := (HF5.out.b 3 rfl).q10
  obtain ⟨f3_0_5, f3_1_5, f3_2_5, f3_3_5, f3_4_5, f3_5_5, f3_6_5, f3_7_5, f3_8_5, f3_9_5⟩ := (HF5.out.b 3 rfl).r10
  go_wp2_with fail
  refine bodyPost_ret (v := .tuple #[.agg #[.int .i64 0, .int .i64 0, .int .i64 0, .int .i64 0, .int .i64 0, .int .i64 0, .slice none 0 0, .int .i64 0, .slice none 0 0, .int .i64 0], .int .i64 E2]) (by simp [results, results54, go_sem, c3_0, c3_1, c3_2, c3_3, c3_4, c3_5, c3_6, c3_7, c3_8, c3_9, c3_0_5, c3_1_5, c3_2_5, c3_3_5, c3_4_5, c3_5_5, c3_6_5, c3_7_5, c3_8_5, c3_9_5]) rfl ⟨⟨sp0, none, 0, 0, none, 0, 0, by rw [HE.out]; rfl, Slz.err HN0.out⟩, ?_⟩
  have hg := HF5.out.ge 3 rfl
  exact bp9 HF5.out.bl hg (.int .i64 0) (.int .i64 0) (.int .i64 0) (.int .i64 0) (.int .i64 0) (.int .i64 0) (.slice none 0 0) (.int .i64 0) (.slice none 0 0) (.int .i64 0)
 have H3 := hid (H2.out.trans (sE9 h0))
 subst h0
 obtain ⟨hx1, hx2, hx3⟩ := HQ2.out rfl
 rw [HPH.out] at hx1
 rw [hx1] at hx3
 have HX1 := hid hx1
 have HX3 := hid hx3
 clear HQ2 hx1 hx2 hx3
 obtain rfl := HX1.out
 obtain rfl := HX3.out
 clear HX1 HX3
 clear c3_0 f3_0 c3_1 f3_1 c3_2 f3_2 c3_3 f3_3 c3_4 f3_4 c3_5 f3_5 c3_6 f3_6 c3_7 f3_7 c3_8 f3_8 c3_9 f3_9
 have c2_5 := (HF5.out.b 2 rfl).cv 5 (.slice C m b) rfl
 have c1_5 := (HF5.out.b 1 rfl).cv 5 (.slice B n d) rfl
 go_wp2_with fail
 refine (K3.out _ HF5.out.bl).mono ?_
 rintro e W3 ⟨⟨A3, n3, c3, rfl, hq⟩, hb⟩
 have HQ3 := hid hq
 clear hq K3
 clear c2_5 c1_5
 have HF3 := hid (HF5.out.ca hb)
 clear hb HF5
 obtain ⟨c3_0, c3_1, c3_2, c3_3, c3_4, c3_5, c3_6, c3_7, c3_8, c3_9⟩ := (HF3.out.b 3 rfl).q10
 obtain ⟨f3_0, f3_1, f3_2, f3_3, f3_4, f3_5, f3_6, f3_7, f3_8, f3_9⟩ := (HF3.out.b 3 rfl).r10
 by_cases h0 : E3 = 0
 case neg =>
  have tr : (E3 != 0) = true := by simpa using h0
  have HE : Hid (re = E3) := H3.out.trans (sN9 h0)
  have HN0 : Hid (re ≠ 0) := by unfold Hid; rw [HE.out]; exact h0
  clear h0
  obtain ⟨c3_0_5, c3_1_5, c3_2_5, c3_3_5, c3_4_5, c3_5_5, c3_6_5, c3_7_5, c3_8_5, c3_9_5⟩ := (HF3.out.b 3 rfl).q10
  obtain ⟨f3_0_5, f3_1_5, f3_2_5, f3_3_5, f3_4_5, f3_5_5, f3_6_5, f3_7_5, f3_8_5, f3_9_5⟩ := (HF3.out.b 3 rfl).r10
  go_wp2_with fail
  refine bodyPost_ret (v := .tuple #[.agg #[.int .i64 0, .int .i64 0, .int .i64 0, .int .i64 0, .int .i64 0, .int .i64 0, .slice none 0 0, .int .i64 0, .slice none 0 0, .int .i64 0], .int .i64 E3]) (by simp [results, results54, go_sem, c3_0, c3_1, c3_2, c3_3, c3_4, c3_5, c3_6, c3_7, c3_8, c3_9, c3_0_5, c3_1_5, c3_2_5, c3_3_5, c3_4_5, c3_5_5, c3_6_5, c3_7_5, c3_8_5, c3_9_5]) rfl ⟨⟨sp0, none, 0, 0, none, 0, 0, by rw [HE.out]; rfl, Slz.err HN0.out⟩, ?_⟩
  have hg := HF3.out.ge 3 rfl
  exact bp9 HF3.out.bl hg (.int .i64 0) (.int .i64 0) (.int .i64 0) (.int .i64 0) (.int .i64 0) (.int .i64 0) (.slice none 0 0) (.int .i64 0) (.slice none 0 0) (.int .i64 0)
 have H4 := hid (H3.out.trans (sE9 h0))
 subst h0
 obtain ⟨hn3, ho3⟩ := HQ3.out rfl
 rw [HLL.out] at hn3
 obtain rfl := hn3.symm
 have HSH : Hid (Sh9 W3 A3 m L3) := row_sh (ow9 sl9 ho3 HLL.out.symm (by have := HF3.out.bl.size; have := HM64.out; omega) (by decide))
 clear HQ3 ho3
 clear c3_0 f3_0 c3_1 f3_1 c3_2 f3_2 c3_3 f3_3 c3_4 f3_4 c3_5 f3_5 c3_6 f3_6 c3_7 f3_7 c3_8 f3_8 c3_9 f3_9
 have qz := HF3.out.b 4 rfl
 have c4_0 := qz.cv 0 (.int .i64 v1c) rfl
 have c4_1 := qz.cv 1 (.int .i64 v1t) rfl
 have c4_2 := qz.cv 2 (.int .i64 v1s) rfl
 clear qz
 have c5_1 := (HF3.out.b 5 rfl).cv 1 (.int .i64 (ctx - tx - x1)) rfl
 go_wp2_with fail
 refine (K4.out _ A3 c3 HSH.out).mono ?_
 rintro e W4 ⟨⟨⟨zp, ⟨zc, zt, zs⟩, ztx, zsh, zrows, znet, ztk, zpy⟩, A7, n7, c7, B7, m7, d7, rfl, hv⟩, hb⟩
 have HVV := hid (hv.more HF3.out.bl.size)
 clear hv K4 HSH
 clear c4_0 c4_1 c4_2 c5_1
 have HF4 := hid (HF3.out.ca hb)
 clear hb HF3
 obtain ⟨c3_0, c3_1, c3_2, c3_3, c3_4, c3_5, c3_6, c3_7, c3_8, c3_9⟩ := (HF4.out.b 3 rfl).q10
 obtain ⟨f3_0, f3_1, f3_2, f3_3, f3_4, f3_5, f3_6, f3_7, f3_8, f3_9⟩ := (HF4.out.b 3 rfl).r10
 dsimp only
 go_wp2_with fail
 have hg := HF4.out.ge 3 rfl
 refine bodyPost_ret (v := .tuple #[.agg #[.int .i64 zp, .int .i64 zc, .int .i64 zt, .int .i64 zs, .int .i64 ztx, .int .i64 zsh, .slice A7 n7 c7, .int .i64 znet, .slice B7 m7 d7, .int .i64 zpy], .int .i64 E4]) (by simp [results, results54, go_sem, c3_0, c3_1, c3_2, c3_3, c3_4, c3_5, c3_6, c3_7, c3_8, c3_9]) rfl ⟨⟨⟨zp, ⟨zc, zt, zs⟩, ztx, zsh, zrows, znet, ztk, zpy⟩, A7, n7, c7, B7, m7, d7, by rw [H4.out], ?_⟩, bp9 HF4.out.bl hg (.int .i64 zp) (.int .i64 zc) (.int .i64 zt) (.int .i64 zs) (.int .i64 ztx) (.int .i64 zsh) (.slice A7 n7 c7) (.int .i64 znet) (.slice B7 m7 d7) (.int .i64 zpy)⟩
 rw [H4.out]
 exact HVV.out.grown (HF4.out.b 3 rfl) (by decide) (by decide) (pgz _ _ (.int .i64 zp) (.int .i64 zc) (.int .i64 zt) (.int .i64 zs) (.int .i64 ztx) (.int .i64 zsh) (.slice A7 n7 c7) (.int .i64 znet) (.slice B7 m7 d7) (.int .i64 zpy))
theorem put6_gr (W : World) (g : Nat) (v0 v1 v2 v3 v4 v5 : Value) : W.grownBy (((((((W).setCell ⟨g, 0, none⟩ v0).setCell ⟨g, 1, none⟩ v1).setCell ⟨g, 2, none⟩ v2).setCell ⟨g, 3, none⟩ v3).setCell ⟨g, 4, none⟩ v4).setCell ⟨g, 5, none⟩ v5) (some g) := sg9 g [v0, v1, v2, v3, v4, v5] W 0
theorem put9_gr (W : World) (g : Nat) (v0 v1 v2 v3 v4 v5 v6 v7 v8 : Value) : W.grownBy ((((((((((W).setCell ⟨g, 0, none⟩ v0).setCell ⟨g, 1, none⟩ v1).setCell ⟨g, 2, none⟩ v2).setCell ⟨g, 3, none⟩ v3).setCell ⟨g, 4, none⟩ v4).setCell ⟨g, 5, none⟩ v5).setCell ⟨g, 6, none⟩ v6).setCell ⟨g, 7, none⟩ v7).setCell ⟨g, 8, none⟩ v8) (some g) := sg9 g [v0, v1, v2, v3, v4, v5, v6, v7, v8] W 0
structure ClnV (w : World) (base : Nat) (E : Int) (V Z : Cln) (A : Option Addr) (n a : Nat) (B : Option Addr) (m b : Nat) : Prop where
 ok : E = 0 → Z = V ∧ ClnOwn w base V A n a B m b
section
variable {w w' : World} {base base' : Nat} {E : Int} {V Z : Cln} {A : Option Addr} {n a : Nat} {B : Option Addr} {m b : Nat}
theorem ClnOwn.below (h : ClnOwn w base V A n a B m b) (hb : Below w.heap.size w w') : ClnOwn w' base V A n a B m b := ⟨h.lp, h.ls, oB9 h.per hb, oB9 h.sh hb⟩
theorem ClnV.below (h : ClnV w base E V Z A n a B m b) (hb : Below w.heap.size w w') : ClnV w' base E V Z A n a B m b := ⟨fun h0 => ⟨(h.ok h0).1, (h.ok h0).2.below hb⟩⟩
theorem ClnV.grown (h : ClnV w base E V Z A n a B m b) {g : Nat} {t : TypeId} {cs : Array Value} (hk : Blk w g t cs) (h1 : 41 ≠ t) (h2 : 79 ≠ t) (hg : w.grownBy w' (some g)) : ClnV w' base E V Z A n a B m b :=
 ⟨fun h0 => ⟨(h.ok h0).1, (h.ok h0).2.lp, (h.ok h0).2.ls, (h.ok h0).2.per.kept hg (Or.inr (obz (h.ok h0).2.per hk h1).symm), (h.ok h0).2.sh.kept hg (Or.inr (obz (h.ok h0).2.sh hk h2).symm)⟩⟩
theorem ReckR.v {e : Ending} (h : ReckR E V w e w') (hb : base' ≤ w.heap.size) : (∃ (Z : Cln) (A : Option Addr) (n a : Nat) (B : Option Addr) (m b : Nat), e = .returned (.tuple #[.agg (clC Z A n a B m b), .int .i64 E]) ∧ ClnV w' base' E V Z A n a B m b) ∧ Below w.heap.size w w' := by
 obtain ⟨⟨Z, A, n, a, B, m, b, he, h0⟩, hb'⟩ := h
 exact ⟨⟨Z, A, n, a, B, m, b, he, ⟨fun hE => ⟨(h0 hE).1, (h0 hE).2.lp, (h0 hE).2.ls, oM9 (h0 hE).2.per hb, oM9 (h0 hE).2.sh hb⟩⟩⟩, hb'⟩
end
def NewR (re : Int) (E : Em) (fq days : Int) (w : World) (e : Ending) (w' : World) : Prop :=
 ((re = 0 ∧ ∃ p y o, e = .returned (.tuple #[.pointer (some ⟨p, 0, none⟩), .int .i64 0]) ∧ Ea9 w' w.heap.size w.heap.size fq days p y o E) ∨ (re ≠ 0 ∧ e = .returned (.tuple #[.pointer none, .int .i64 re]))) ∧ Below w.heap.size w w'
--%
theorem rnew_c (t : Tb) (As Ac Ak : Option Addr) (ns cs nc cc nk ck : Nat) (lim rnd : Int) (fq days : Int) (gy : Nat) (s kd a f : Int) (al : Bool) (w : World) (hs : ScSl w As ns t.sch) (hc : CtSl w Ac nc t.cts) (hcc : nc ≤ cc) (hkd : KdSl w Ak nk t.kds) (hck : nk ≤ ck) (hl : lim = t.lim) (hr : rnd = t.rnd)
  (hy : YrAt w gy fq days) (hb : keepE t = 0 → (∀ k, k < ns → (t.sch.getD k []).length ≤ 100000) ∧ (∀ k, k < nc → (t.cts.getD k ct0).bands.length ≤ 100000)) (re : Int) (he : Hid (re = newE t ⟨s, kd, a, f, al⟩)) :
  Calls prog 30 #[.agg #[.slice As ns cs, .slice Ac nc cc, .slice Ak nk ck, .int .i64 lim, .int .i64 rnd], .pointer (some ⟨gy, 0, none⟩), .agg #[.int .i64 s, .int .i64 kd, .int .i64 a, .int .i64 f, .bool al]] w (NewR re (newV t ⟨s, kd, a, f, al⟩) fq days w) := by
 have HF0 := hid (Fr.start w)
 have hns : ns = t.sch.length := hs.1
 have hnc : nc = t.cts.length := hc.1
 have hnk : nk = t.kds.length := hkd.1
 obtain ⟨E1, hE1⟩ : ∃ E1, E1 = keepE t := ⟨_, rfl⟩
 obtain ⟨E2, hE2⟩ : ∃ E1, E1 = fitE t.sch ⟨s, kd, a, f, al⟩ := ⟨_, rfl⟩
 have K1 := hid (fun W (hW : Below w.heap.size w W) => kcheck_c t As Ac Ak ns cs nc cc nk ck lim rnd W (hs.below hW) (hc.below hW) hcc (hkd.below hW) hck hl hr E1 hE1)
 have K2 := hid (fun W (hW : Below w.heap.size w W) => tfits_c t.sch As Ac Ak ns cs nc cc nk ck lim rnd s kd a f al W (hs.below hW) E2 hE2)
 have hlc : E1 = 0 → nc ≤ 6 ∧ ns ≤ 8 ∧ nk ≤ 12 := fun h => by
  rw [hE1] at h
  unfold keepE at h
  by_cases h0 : tbE t = 0
  ·
   obtain ⟨_, h1, h2, h3, _⟩ := tb_of h0; omega
  ·
   rw [if_pos h0] at h; exact absurd h h0
 have K3 : Hid (E1 = 0 → ∀ W, Calls prog 66 #[.int .i64 nc] W fun e w' => (∃ p B d, e = .returned (.tuple #[.pointer (some ⟨p, 0, none⟩), .int .i64 0]) ∧ W.heap.size ≤ p ∧ Ya9 w' W.heap.size p (yr0 nc) none 0 B d) ∧ Below W.heap.size W w') := fun h W => ynew_c nc W (by have := hlc h; omega)
 have K4 : Hid (E1 = 0 → ∀ W (hW : Below w.heap.size w W), Calls prog 67 #[.agg #[.slice As ns cs, .slice Ac nc cc, .slice Ak nk ck, .int .i64 lim, .int .i64 rnd]] W (CloneR t.sch t.cts t.kds ns nc nk lim rnd W)) := fun h W hW => tclone_c t.sch t.cts t.kds As Ac Ak ns cs nc cc nk ck lim rnd W (hs.below hW) (hc.below hW) (hkd.below hW) (by have := hlc h; omega) (hb (by rw [← hE1]; exact h))
 have H1 : Hid (re = sqz E1 E2) := he.out.trans (by unfold newE; rw [hE1, hE2])
 have HY := hid hy
 have HN := hid (⟨hns, hnc, hnk⟩ : ns = t.sch.length ∧ nc = t.cts.length ∧ nk = t.kds.length)
 have HLR := hid (⟨hl, hr⟩ : lim = t.lim ∧ rnd = t.rnd)
 unfold CloneR at K4
 unfold NewR
 clear hs hc hcc hkd hck hl hr hy hb he hns hnc hnk hE1 hE2 hlc
 have HF1 := al9 (((HF0.out.al 26 #[.slice As ns cs, .slice Ac nc cc, .slice Ak nk ck, .int .i64 lim, .int .i64 rnd]).al 28 #[.int .i64 s, .int .i64 kd, .int .i64 a, .int .i64 f, .bool al]))
 clear HF0
 go_enter func30, ntmps30
 obtain ⟨c0_0, c0_1, c0_2, c0_3, c0_4⟩ := (HF1.out.b 0 rfl).q5
 go_wp2_with fail
 refine (K1.out _ HF1.out.bl).mono ?_
 rintro e W1 ⟨rfl, hb⟩
 clear c0_0 c0_1 c0_2 c0_3 c0_4
 have HF2 := hid (HF1.out.ca hb)
 clear hb HF1
 have HK3 : Hid (E1 = 0 → _) := K3
 have HK4 : Hid (E1 = 0 → _) := K4
 clear K3 K4
 by_cases h0 : E1 = 0
 case neg =>
  have tr : (E1 != 0) = true := by simpa using h0
  have HE := hid (H1.out.trans (sN9 h0))
  have HN0 : Hid (re ≠ 0) := by unfold Hid; rw [HE.out]; exact h0
  clear h0
  go_wp2_with fail
  refine bodyPost_ret (v := .tuple #[.pointer none, .int .i64 E1]) (by simp [results, results30, go_sem]) rfl ⟨Or.inr ⟨HN0.out, by rw [HE.out]⟩, HF2.out.bl⟩
 have H2 := hid (H1.out.trans (sE9 h0))
 have K3 := hid (HK3.out h0)
 have K4 := hid (HK4.out h0)
 subst h0
 clear HK3 HK4 H1
 obtain ⟨c0_0, c0_1, c0_2, c0_3, c0_4⟩ := (HF2.out.b 0 rfl).q5
 obtain ⟨c1_0, c1_1, c1_2, c1_3, c1_4⟩ := (HF2.out.b 1 rfl).q5
 go_wp2_with fail
 refine (K2.out _ HF2.out.bl).mono ?_
 rintro e W2 ⟨rfl, hb⟩
 clear c0_0 c0_1 c0_2 c0_3 c0_4 c1_0 c1_1 c1_2 c1_3 c1_4
 have HF3 := hid (HF2.out.ca hb)
 clear hb HF2
 by_cases h0 : E2 = 0
 case neg =>
  have tr : (E2 != 0) = true := by simpa using h0
  have HE : Hid (re = E2) := H2.out
  have HN0 : Hid (re ≠ 0) := by unfold Hid; rw [HE.out]; exact h0
  clear h0
  go_wp2_with fail
  refine bodyPost_ret (v := .tuple #[.pointer none, .int .i64 E2]) (by simp [results, results30, go_sem]) rfl ⟨Or.inr ⟨HN0.out, by rw [HE.out]⟩, HF3.out.bl⟩
 have H3 : Hid (re = 0) := H2.out.trans h0
 subst h0
 have c0_1 := (HF3.out.b 0 rfl).cv 1 (.slice Ac nc cc) rfl
 go_wp2_with fail
 refine (K3.out _).mono ?_
 rintro e W3 ⟨⟨y, B, d, rfl, hyp, hya⟩, hb⟩
 clear c0_1
 have HYA := hid (hya.more HF3.out.bl.size)
 have HYP := hid (Nat.le_trans HF3.out.bl.size hyp)
 have HFy := hid (HF3.out.ca hb)
 clear hb hyp hya K3 HF3
 go_wp2_with fail
 have G : Hid (∀ W, Fr w W [(w.heap.size, 26, #[.slice As ns cs, .slice Ac nc cc, .slice Ak nk ck, .int .i64 lim, .int .i64 rnd]), (w.heap.size + 1, 28, #[.int .i64 s, .int .i64 kd, .int .i64 a, .int .i64 f, .bool al])] → Below w.heap.size w W ∧ (W.cell? ⟨w.heap.size, 0, none⟩ = some (.slice As ns cs) ∧ W.cell? ⟨w.heap.size, 1, none⟩ = some (.slice Ac nc cc) ∧ W.cell? ⟨w.heap.size, 2, none⟩ = some (.slice Ak nk ck) ∧ W.cell? ⟨w.heap.size, 3, none⟩ = some (.int .i64 lim) ∧ W.cell? ⟨w.heap.size, 4, none⟩ = some (.int .i64 rnd) ∧ W.cell? ⟨w.heap.size + 1, 0, none⟩ = some (.int .i64 s) ∧ W.cell? ⟨w.heap.size + 1, 1, none⟩ = some (.int .i64 kd) ∧ W.cell? ⟨w.heap.size + 1, 2, none⟩ = some (.int .i64 a) ∧ W.cell? ⟨w.heap.size + 1, 3, none⟩ = some (.int .i64 f) ∧ W.cell? ⟨w.heap.size + 1, 4, none⟩ = some (.bool al))) := fun W hW => ⟨hW.bl, (hW.b 0 rfl).cv 0 _ rfl, (hW.b 0 rfl).cv 1 _ rfl, (hW.b 0 rfl).cv 2 _ rfl, (hW.b 0 rfl).cv 3 _ rfl, (hW.b 0 rfl).cv 4 _ rfl, (hW.b 1 rfl).cv 0 _ rfl, (hW.b 1 rfl).cv 1 _ rfl, (hW.b 1 rfl).cv 2 _ rfl, (hW.b 1 rfl).cv 3 _ rfl, (hW.b 1 rfl).cv 4 _ rfl⟩
 replace HYA := hid (HYA.out.below (b0 _).drew)
 have HF4 := hid (HFy.out.dr)
 refine wG9 G 11 (by kernel_rfl) HF4.out (fun hH9 => ?_)
 refine tkG 0 (h := ?_)
 refine tkG 2 (h := ?_)
 refine tkG 3 (h := ?_)
 refine tkG 4 (h := ?_)
 refine tkG 5 (h := ?_)
 refine w2z (i := 1) (j := 6) (by kernel_rfl) rfl rfl (fun Kx hK => ?_) (fun Kx hK => ?_)
 ·
  go_simp
  go_at_call 67
  refine (K4.out _ HF4.out.bl).mono ?_
  rintro e W4 ⟨⟨A5, c5, A6, c6, A7, c7, rfl, hot⟩, hb⟩
  replace HYA := hid (HYA.out.below hb)
  have HF5 := hid (HF4.out.ca hb)
  have HTB := hid (hot.lower HF4.out.bl.size)
  clear hot
  clear hb
  refine shG hK (G.out _ HF5.out) (h := fun hH9 => ?_)
  clear hK Kx
  refine tkO 6 (h := fun Kx hK => ?_)
  go_simp
  have HYA_ := HYA
  replace HYA := hid (HYA.out.below (bz1 _ (.cells #[.slice none 0 0] 143)))
  have HTB_ := HTB
  replace HTB := hid (HTB.out.below (bz1 _ (.cells #[.slice none 0 0] 143)))
  have HF6 := al8 (HF5.out.al 143 #[.slice none 0 0])
  refine shG hK (G.out _ (HF6.out.cut 2)) (h := fun hH9 => ?_)
  clear hK Kx
  refine tkG 7 (h := ?_)
  refine tkO 8 (h := fun Kx hK => ?_)
  go_simp
  have HTB2 := hid (HTB.out.below (bz1 _ (.cells #[.slice A5 ns c5, .slice A6 nc c6, .slice A7 nk c7, .int .i64 lim, .int .i64 rnd, .pointer (some ⟨gy, 0, none⟩), .int .i64 s, .int .i64 kd, .int .i64 a, .int .i64 f, .bool al, .int .i64 0, .slice none 0 0, .slice none 0 0, .pointer (some ⟨y, 0, none⟩), .pointer (some ⟨W4.heap.size, 0, none⟩)] 109)))
  have HYA2 := hid (HYA.out.below (bz1 _ (.cells #[.slice A5 ns c5, .slice A6 nc c6, .slice A7 nk c7, .int .i64 lim, .int .i64 rnd, .pointer (some ⟨gy, 0, none⟩), .int .i64 s, .int .i64 kd, .int .i64 a, .int .i64 f, .bool al, .int .i64 0, .slice none 0 0, .slice none 0 0, .pointer (some ⟨y, 0, none⟩), .pointer (some ⟨W4.heap.size, 0, none⟩)] 109)))
  have HFE := al8 (HF6.out.al 109 #[.slice A5 ns c5, .slice A6 nc c6, .slice A7 nk c7, .int .i64 lim, .int .i64 rnd, .pointer (some ⟨gy, 0, none⟩), .int .i64 s, .int .i64 kd, .int .i64 a, .int .i64 f, .bool al, .int .i64 0, .slice none 0 0, .slice none 0 0, .pointer (some ⟨y, 0, none⟩), .pointer (some ⟨W4.heap.size, 0, none⟩)])
  refine shG hK (G.out _ (HFE.out.cut 2)) (h := fun hH9 => ?_)
  clear hK Kx
  refine tkG 9 (h := ?_)
  refine tkG 10 (h := ?_)
  refine wD9 (by kernel_rfl) ?_ _
  clear G hH9
  try simp only [Exit.then]
  go_wp2_with fail
  have hp := HFE.out.ge 3 rfl
  have ho := HFE.out.ge 2 rfl
  refine bodyPost_ret (v := .tuple #[.pointer (some ⟨_, 0, none⟩), .int .i64 0]) (by simp [results, results30, go_sem]) rfl ⟨Or.inl ⟨H3.out, _, y, _, rfl, ⟨⟨⟨A5, c5, A6, c6, A7, c7, gy, none, 0, none, 0⟩, ?_, ?_⟩, hp, HYP.out, ho, Nat.le_refl _⟩⟩, HFE.out.bl⟩
  ·
   have h := HFE.out.b 3 rfl
   unfold emC newV
   dsimp only
   rw [← HN.out.1, ← HN.out.2.1, ← HN.out.2.2, ← HLR.out.1, ← HLR.out.2]
   exact h
  ·
   refine ⟨?_, HY.out.t HFE.out.bl, World.ownsRow_nil _ _ _ _, Iw9.nil _ _ _, ⟨none, 0, B, d, ?_⟩, ⟨.slice none 0 0, HFE.out.b 2 rfl, rfl, World.ownsRow_nil _ _ _ _⟩⟩
   ·
    unfold newV
    dsimp only
    rw [← HN.out.1, ← HN.out.2.1, ← HN.out.2.2]
    exact HTB2.out
   ·
    unfold newV
    dsimp only
    rw [← HN.out.2.1]
    exact HYA2.out
 ·
  go_simp
  have HYA_ := HYA
  replace HYA := hid (HYA.out.below (bz1 _ (.cells #[.slice none 0 0] 143)))
  have HF5 := al8 (HF4.out.al 143 #[.slice none 0 0])
  refine shG hK (G.out _ (HF5.out.cut 2)) (h := fun hH9 => ?_)
  clear hK Kx
  refine tkO 1 (h := fun Kx hK => ?_)
  go_simp
  go_at_call 67
  refine (K4.out _ HF5.out.bl).mono ?_
  rintro e W4 ⟨⟨A5, c5, A6, c6, A7, c7, rfl, hot⟩, hb⟩
  replace HYA := hid (HYA.out.below hb)
  have HF6 := hid (HF5.out.ca hb)
  have HTB := hid (hot.lower HF5.out.bl.size)
  clear hot
  clear hb
  refine shG hK (G.out _ (HF6.out.cut 2)) (h := fun hH9 => ?_)
  clear hK Kx
  refine tkG 7 (h := ?_)
  refine tkO 8 (h := fun Kx hK => ?_)
  go_simp
  have HTB2 := hid (HTB.out.below (bz1 _ (.cells #[.slice A5 ns c5, .slice A6 nc c6, .slice A7 nk c7, .int .i64 lim, .int .i64 rnd, .pointer (some ⟨gy, 0, none⟩), .int .i64 s, .int .i64 kd, .int .i64 a, .int .i64 f, .bool al, .int .i64 0, .slice none 0 0, .slice none 0 0, .pointer (some ⟨y, 0, none⟩), .pointer (some ⟨W3.heap.size, 0, none⟩)] 109)))
  have HYA2 := hid (HYA.out.below (bz1 _ (.cells #[.slice A5 ns c5, .slice A6 nc c6, .slice A7 nk c7, .int .i64 lim, .int .i64 rnd, .pointer (some ⟨gy, 0, none⟩), .int .i64 s, .int .i64 kd, .int .i64 a, .int .i64 f, .bool al, .int .i64 0, .slice none 0 0, .slice none 0 0, .pointer (some ⟨y, 0, none⟩), .pointer (some ⟨W3.heap.size, 0, none⟩)] 109)))
  have HFE := al8 (HF6.out.al 109 #[.slice A5 ns c5, .slice A6 nc c6, .slice A7 nk c7, .int .i64 lim, .int .i64 rnd, .pointer (some ⟨gy, 0, none⟩), .int .i64 s, .int .i64 kd, .int .i64 a, .int .i64 f, .bool al, .int .i64 0, .slice none 0 0, .slice none 0 0, .pointer (some ⟨y, 0, none⟩), .pointer (some ⟨W3.heap.size, 0, none⟩)])
  refine shG hK (G.out _ (HFE.out.cut 2)) (h := fun hH9 => ?_)
  clear hK Kx
  refine tkG 9 (h := ?_)
  refine tkG 10 (h := ?_)
  refine wD9 (by kernel_rfl) ?_ _
  clear G hH9
  try simp only [Exit.then]
  go_wp2_with fail
  have hp := HFE.out.ge 3 rfl
  have ho := HFE.out.ge 2 rfl
  refine bodyPost_ret (v := .tuple #[.pointer (some ⟨_, 0, none⟩), .int .i64 0]) (by simp [results, results30, go_sem]) rfl ⟨Or.inl ⟨H3.out, _, y, _, rfl, ⟨⟨⟨A5, c5, A6, c6, A7, c7, gy, none, 0, none, 0⟩, ?_, ?_⟩, hp, HYP.out, ho, Nat.le_refl _⟩⟩, HFE.out.bl⟩
  ·
   have h := HFE.out.b 3 rfl
   unfold emC newV
   dsimp only
   rw [← HN.out.1, ← HN.out.2.1, ← HN.out.2.2, ← HLR.out.1, ← HLR.out.2]
   exact h
  ·
   refine ⟨?_, HY.out.t HFE.out.bl, World.ownsRow_nil _ _ _ _, Iw9.nil _ _ _, ⟨none, 0, B, d, ?_⟩, ⟨.slice none 0 0, HFE.out.b 2 rfl, rfl, World.ownsRow_nil _ _ _ _⟩⟩
   ·
    unfold newV
    dsimp only
    rw [← HN.out.1, ← HN.out.2.1, ← HN.out.2.2]
    exact HTB2.out
   ·
    unfold newV
    dsimp only
    rw [← HN.out.2.1]
    exact HYA2.out
end Go.Proofs.YtiaabmhjkoohmaaGreat
