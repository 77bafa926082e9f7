/-
 Contract of retro.between. Conditions as named.
-/
import Derived.Test.YtiaabmhjkoohmaaGreatM6
namespace Go.Proofs.YtiaabmhjkoohmaaGreat
set_option maxRecDepth 100000
set_option maxHeartbeats 25600000
set_option linter.unusedVariables false
set_option linter.unusedSimpArgs false
open Go.RowKit Tryz
open Lib (hid)
def efC (z : Ef) (A : Option Addr) (n c : Nat) : Array Value := #[.int .i64 z.b.c, .int .i64 z.b.t, .int .i64 z.b.s, .int .i64 z.tx, .int .i64 z.sh, .slice A n c, .int .i64 z.net]
def BetR (E : Int) (V : Ef) (w : World) (e : Ending) (w' : World) : Prop :=
  ((E = 0 ∧ ∃ A' c', e = .returned (.tuple #[.agg (efC V A' V.rows.length c'), .int .i64 0]) ∧ w'.ownsRow w.heap.size 79 2 (.slice A' V.rows.length c') V.rows.length (V.rows.flatMap shC)) ∨
   (E ≠ 0 ∧ e = .returned (.tuple #[.agg (efC ef0 none 0 0), .int .i64 E]))) ∧ Below w.heap.size w w'
theorem st7 {w0 W : World} {g : Nat} (h : Below w0.heap.size w0 W) (hg : w0.heap.size ≤ g) (v0 v1 v2 v3 v4 v5 v6 : Value) : Below w0.heap.size w0 (((((((W.setCell ⟨g, 0, none⟩ v0).setCell ⟨g, 1, none⟩ v1).setCell ⟨g, 2, none⟩ v2).setCell ⟨g, 3, none⟩ v3).setCell ⟨g, 4, none⟩ v4).setCell ⟨g, 5, none⟩ v5).setCell ⟨g, 6, none⟩ v6) := (bSg (bSg (bSg (bSg (bSg (bSg (bSg h hg 0 v0) hg 1 v1) hg 2 v2) hg 3 v3) hg 4 v4) hg 5 v5) hg 6 v6)
theorem own_st7 {W : World} {base size n : Nat} {e : TypeId} {v : Value} {xs : List Value} (h : W.ownsRow base e size v n xs) {g : Nat} {t : TypeId} {cs : Array Value} (hk : Blk W g t cs) (hne : e ≠ t) (v0 v1 v2 v3 v4 v5 v6 : Value) : (((((((W.setCell ⟨g, 0, none⟩ v0).setCell ⟨g, 1, none⟩ v1).setCell ⟨g, 2, none⟩ v2).setCell ⟨g, 3, none⟩ v3).setCell ⟨g, 4, none⟩ v4).setCell ⟨g, 5, none⟩ v5).setCell ⟨g, 6, none⟩ v6).ownsRow base e size v n xs :=
 (oS9 (oS9 (oS9 (oS9 (oS9 (oS9 (oS9 h hk hne 0 v0) (hk.setJ 0 v0) hne 1 v1) ((hk.setJ 0 v0).setJ 1 v1) hne 2 v2) (((hk.setJ 0 v0).setJ 1 v1).setJ 2 v2) hne 3 v3) ((((hk.setJ 0 v0).setJ 1 v1).setJ 2 v2).setJ 3 v3) hne 4 v4) (((((hk.setJ 0 v0).setJ 1 v1).setJ 2 v2).setJ 3 v3).setJ 4 v4) hne 5 v5) ((((((hk.setJ 0 v0).setJ 1 v1).setJ 2 v2).setJ 3 v3).setJ 4 v4).setJ 5 v5) hne 6 v6)
theorem ev_fnS (o a : Nat → Int) : ∃ F G : Nat → Int, (∀ j, Hid (F j = okE (okO So9 (o j) (a j)) 10)) ∧ (∀ j, Hid (F j = 0 → G j = o j - a j)) ∧ ∀ j, Hid (F j ≠ 0 → G j = 0) := by
 refine ⟨fun j => okE (okO So9 (o j) (a j)) 10, fun j => if okE (okO So9 (o j) (a j)) 10 = 0 then o j - a j else 0, fun j => rfl, fun j h => ?_, fun j h => ?_⟩
 ·
  exact if_pos h
 ·
  exact if_neg h
def three (x y z : Int) : Nat → Int := fun j => if j = 0 then x else if j = 1 then y else z
def mixZ (G : Nat → Int) (k j : Nat) : Int := if j < k then G j else 0
theorem between_c (was now : Sp) (A A2 B B2 : Option Addr) (n c n2 c2 m d m2 d2 : Nat) (w : World) (hr : Sh9 w A n was.rows) (hs : Sh9 w A2 n2 now.rows) (hn : n2 ≤ 64) (re : Int) (V : Ef) (he : Hid (re = betE was now)) (hV : Hid (V = betV was now)) :
  Calls prog 58 #[.agg (spC was A n c B m d), .agg (spC now A2 n2 c2 B2 m2 d2)] w (BetR re V w) := by
 have HF0 := hid (Fr.start w)
 obtain ⟨E1, hE1⟩ : ∃ E, E = bEz So9 now.b was.b := ⟨_, rfl⟩
 obtain ⟨V1, hV1⟩ : ∃ V, V = bothV So9 now.b was.b := ⟨_, rfl⟩
 have K1 := hid (fun W => bSub_c now.b was.b W E1 V1 hE1 hV1)
 obtain ⟨F, G, hF, hG, hG0⟩ := ev_fnS (three now.tx now.sh now.net) (three was.tx was.sh was.net)
 have K3 := hid (fun j W => msub_c (three now.tx now.sh now.net j) (three was.tx was.sh was.net j) W (F j) (G j) (hF j) (hG j) (hG0 j))
 obtain ⟨E4, hE4⟩ : ∃ E, E = deltaE now.rows was.rows := ⟨_, rfl⟩
 obtain ⟨L4, hL4⟩ : ∃ L, L = dLz now.rows was.rows n2 := ⟨_, rfl⟩
 have K4 := hid (fun W (h1 : Sh9 W A n was.rows) (h2 : Sh9 W A2 n2 now.rows) => sdelta_c now.rows was.rows A2 A n2 c2 n c W hn h2 h1 E4 L4 hE4 hL4)
 have H1 : Hid (re = sqz E1 (sqz (F 0) (sqz (F 1) (sqz (F 2) E4)))) := he.out.trans (by
  unfold betE
  rw [← hE1, ← hE4, (hF 0).out, (hF 1).out, (hF 2).out]
  rfl)
 have HZ : Hid (re = 0 → V = ⟨V1, G 0, G 1, L4, G 2⟩) := fun h => by
  have h0 := H1.out.symm.trans h
  obtain ⟨h1, h0⟩ := sZ9 h0
  obtain ⟨f0, h0⟩ := sZ9 h0
  obtain ⟨f1, h0⟩ := sZ9 h0
  obtain ⟨f2, _⟩ := sZ9 h0
  rw [hV.out]
  unfold betV
  rw [(hG 0).out f0, (hG 1).out f1, (hG 2).out f2, hV1, hL4, hs.1]
  rfl
 have HRW := hid hr
 have HSW := hid hs
 clear hr hs hE1 hV1 hF hG hG0 hE4 hL4 he hV
 obtain ⟨ap, ⟨ac, at9, as9⟩, atx, ash, arows, anet, atk, apy⟩ := was
 obtain ⟨sp, ⟨sc, st, ss⟩, stx, ssh, srows, snet, stk, spy⟩ := now
 obtain ⟨vc, vt, vs⟩ := V1
 unfold BetR efC spC
 dsimp only at K1 K3 K4 HZ HRW HSW ⊢
 show Calls _ _ _ _ fun e w' => ((re = 0 ∧ ∃ A' c', e = .returned (.tuple #[.agg #[.int .i64 V.b.c, .int .i64 V.b.t, .int .i64 V.b.s, .int .i64 V.tx, .int .i64 V.sh, .slice A' V.rows.length c', .int .i64 V.net], .int .i64 0]) ∧ w'.ownsRow w.heap.size 79 2 (.slice A' V.rows.length c') V.rows.length (V.rows.flatMap shC)) ∨ (re ≠ 0 ∧ e = .returned (.tuple #[.agg #[.int .i64 0, .int .i64 0, .int .i64 0, .int .i64 0, .int .i64 0, .slice none 0 0, .int .i64 0], .int .i64 re]))) ∧ Below w.heap.size w w'
 have HF1 := al9 (((((HF0.out.al 45 #[.int .i64 ap, .int .i64 ac, .int .i64 at9, .int .i64 as9, .int .i64 atx, .int .i64 ash, .slice A n c, .int .i64 anet, .slice B m d, .int .i64 apy]).al 45 #[.int .i64 sp, .int .i64 sc, .int .i64 st, .int .i64 ss, .int .i64 stx, .int .i64 ssh, .slice A2 n2 c2, .int .i64 snet, .slice B2 m2 d2, .int .i64 spy]).al 73 #[.int .i64 0, .int .i64 0, .int .i64 0, .int .i64 0, .int .i64 0, .slice none 0 0, .int .i64 0]).al 73 #[.int .i64 0, .int .i64 0, .int .i64 0, .int .i64 0, .int .i64 0, .slice none 0 0, .int .i64 0]))
 clear HF0
 go_enter func58, ntmps58
 have qz := HF1.out.b 0 rfl
 have c0_1 := qz.cv 1 (.int .i64 ac) rfl
 have c0_2 := qz.cv 2 (.int .i64 at9) rfl
 have c0_3 := qz.cv 3 (.int .i64 as9) rfl
 clear qz
 have qz := HF1.out.b 1 rfl
 have c1_1 := qz.cv 1 (.int .i64 sc) rfl
 have c1_2 := qz.cv 2 (.int .i64 st) rfl
 have c1_3 := qz.cv 3 (.int .i64 ss) rfl
 clear qz
 go_wp2_with fail
 refine (K1.out _).mono ?_
 rintro e W1 ⟨rfl, hb⟩
 clear c0_1 c0_2 c0_3 c1_1 c1_2 c1_3
 have HF2 := hid (HF1.out.ca hb)
 clear hb HF1
 have qz := HF2.out.b 0 rfl
 have c0_4 := qz.cv 4 (.int .i64 atx) rfl
 have c0_5 := qz.cv 5 (.int .i64 ash) rfl
 have c0_7 := qz.cv 7 (.int .i64 anet) rfl
 clear qz
 have qz := HF2.out.b 1 rfl
 have c1_4 := qz.cv 4 (.int .i64 stx) rfl
 have c1_5 := qz.cv 5 (.int .i64 ssh) rfl
 have c1_7 := qz.cv 7 (.int .i64 snet) rfl
 clear qz
 have qz := HF2.out.b 3 rfl
 have c3_0 := qz.cv 0 (.int .i64 0) rfl
 have f3_0 := qz.free 0
 have c3_1 := qz.cv 1 (.int .i64 0) rfl
 have f3_1 := qz.free 1
 have c3_2 := qz.cv 2 (.int .i64 0) rfl
 have f3_2 := qz.free 2
 clear qz
 have HF3 := hid (HF2.out.st 3 rfl 0 (.int .i64 vc))
 clear HF2
 have HF4 := hid (HF3.out.st 3 rfl 1 (.int .i64 vt))
 clear HF3
 have HF5 := hid (HF4.out.st 3 rfl 2 (.int .i64 vs))
 clear HF4
 by_cases h0 : E1 = 0
 case neg =>
  have tr : (E1 != 0) = true := by simpa using h0
  have HE : Hid (re = E1) := H1.out.trans (sN9 h0)
  have HN0 : Hid (re ≠ 0) := by unfold Hid; rw [HE.out]; exact h0
  clear h0
  obtain ⟨c2_0, c2_1, c2_2, c2_3, c2_4, c2_5, c2_6⟩ := (HF5.out.b 2 rfl).q7
  obtain ⟨f2_0, f2_1, f2_2, f2_3, f2_4, f2_5, f2_6⟩ := (HF5.out.b 2 rfl).r7
  go_wp2_with fail
  refine bodyPost_ret (v := .tuple #[.agg #[.int .i64 0, .int .i64 0, .int .i64 0, .int .i64 0, .int .i64 0, .slice none 0 0, .int .i64 0], .int .i64 E1]) (by simp [results, results58, go_sem, c2_0, c2_1, c2_2, c2_3, c2_4, c2_5, c2_6]) rfl ⟨Or.inr ⟨HN0.out, by rw [HE.out]⟩, ?_⟩
  have hg := HF5.out.ge 2 rfl
  exact st7 HF5.out.bl hg (.int .i64 0) (.int .i64 0) (.int .i64 0) (.int .i64 0) (.int .i64 0) (.slice none 0 0) (.int .i64 0)
 have H2 := hid (H1.out.trans (sE9 h0))
 subst h0
 go_wp2_with fail
 clear c0_4 c0_5 c0_7 c1_4 c1_5 c1_7 c3_0 f3_0 c3_1 f3_1 c3_2 f3_2
 have HFL : Hid (Fr w _ [(w.heap.size, 45, #[.int .i64 ap, .int .i64 ac, .int .i64 at9, .int .i64 as9, .int .i64 atx, .int .i64 ash, .slice A n c, .int .i64 anet, .slice B m d, .int .i64 apy]), (w.heap.size + 1, 45, #[.int .i64 sp, .int .i64 sc, .int .i64 st, .int .i64 ss, .int .i64 stx, .int .i64 ssh, .slice A2 n2 c2, .int .i64 snet, .slice B2 m2 d2, .int .i64 spy]), (w.heap.size + 1 + 1, 73, #[.int .i64 0, .int .i64 0, .int .i64 0, .int .i64 0, .int .i64 0, .slice none 0 0, .int .i64 0]), (w.heap.size + 1 + 1 + 1, 73, #[.int .i64 vc, .int .i64 vt, .int .i64 vs, .int .i64 (mixZ G 0 0), .int .i64 (mixZ G 0 1), .slice none 0 0, .int .i64 (mixZ G 0 2)])]) := HF5
 go_loopw [42, 7, 9] (fun i _ _ wr => ∃ k : Nat, k ≤ 3 ∧ i = .int .i64 k ∧ Hid (∀ j, j < k → F j = 0) ∧ Hid (Fr w wr [(w.heap.size, 45, #[.int .i64 ap, .int .i64 ac, .int .i64 at9, .int .i64 as9, .int .i64 atx, .int .i64 ash, .slice A n c, .int .i64 anet, .slice B m d, .int .i64 apy]), (w.heap.size + 1, 45, #[.int .i64 sp, .int .i64 sc, .int .i64 st, .int .i64 ss, .int .i64 stx, .int .i64 ssh, .slice A2 n2 c2, .int .i64 snet, .slice B2 m2 d2, .int .i64 spy]), (w.heap.size + 1 + 1, 73, #[.int .i64 0, .int .i64 0, .int .i64 0, .int .i64 0, .int .i64 0, .slice none 0 0, .int .i64 0]), (w.heap.size + 1 + 1 + 1, 73, #[.int .i64 vc, .int .i64 vt, .int .i64 vs, .int .i64 (mixZ G k 0), .int .i64 (mixZ G k 1), .slice none 0 0, .int .i64 (mixZ G k 2)])])) (fun i _ _ _ => 3 - (intOf i).toNat)
 case atStart => exact ⟨0, by omega, rfl, fun j hj => absurd hj (by omega), HFL⟩
 case round =>
  clear HFL
  obtain ⟨k, hk', rfl, HFZ, HFr⟩ := hrel
  by_cases hk : k < 3
  case pos =>
   --<<
   obtain ⟨o, x, y, hix, hcx, hka, hup⟩ : ∃ (o : Nat) (x y : Int), (∀ W, (Instr.index 183 (.agg #[.pointer (some ⟨w.heap.size + 1 + 1 + 1, 3, none⟩), .int .i64 stx, .int .i64 atx, .pointer (some ⟨w.heap.size + 1 + 1 + 1, 4, none⟩), .int .i64 ssh, .int .i64 ash, .pointer (some ⟨w.heap.size + 1 + 1 + 1, 6, none⟩), .int .i64 snet, .int .i64 anet]) (.int .i64 k)).run prog W = .ok (.agg #[.pointer (some ⟨w.heap.size + 1 + 1 + 1, o, none⟩), .int .i64 x, .int .i64 y]) W) ∧ (#[.int .i64 vc, .int .i64 vt, .int .i64 vs, .int .i64 (mixZ G k 0), .int .i64 (mixZ G k 1), .slice none 0 0, .int .i64 (mixZ G k 2)] : Array Value)[o]? = some (.int .i64 0) ∧ (∀ W, Calls prog 92 #[.int .i64 x, .int .i64 y] W fun e w' => e = .returned (.tuple #[.int .i64 (G k), .int .i64 (F k)]) ∧ Below W.heap.size W w') ∧ (#[.int .i64 vc, .int .i64 vt, .int .i64 vs, .int .i64 (mixZ G k 0), .int .i64 (mixZ G k 1), .slice none 0 0, .int .i64 (mixZ G k 2)] : Array Value).setIfInBounds o (.int .i64 (G k)) = #[.int .i64 vc, .int .i64 vt, .int .i64 vs, .int .i64 (mixZ G (k + 1) 0), .int .i64 (mixZ G (k + 1) 1), .slice none 0 0, .int .i64 (mixZ G (k + 1) 2)] := by
    rcases (by omega : k = 0 ∨ k = 1 ∨ k = 2) with rfl | rfl | rfl
    ·
     exact ⟨3, stx, atx, fun _ => by kernel_rfl, rfl, fun W => K3.out 0 W, rfl⟩
    ·
     exact ⟨4, ssh, ash, fun _ => by kernel_rfl, rfl, fun W => K3.out 1 W, rfl⟩
    ·
     exact ⟨6, snet, anet, fun _ => by kernel_rfl, rfl, fun W => K3.out 2 W, rfl⟩
   have HSQ : Hid (F k ≠ 0 → re = F k) := fun h => H2.out.trans (by
    rcases (by omega : k = 0 ∨ k = 1 ∨ k = 2) with rfl | rfl | rfl
    ·
     rw [sN9 h]
    ·
     rw [sE9 (HFZ.out 0 (by omega)), sN9 h]
    ·
     rw [sE9 (HFZ.out 0 (by omega)), sE9 (HFZ.out 1 (by omega)), sN9 h])
   have HSN : Hid (F k = 0 → ∀ j, j < k + 1 → F j = 0) := fun h j hj => by
    rcases (by omega : j = k ∨ j < k) with rfl | hj
    ·
     exact h
    ·
     exact HFZ.out j hj
   have HUP := hid hup
   have HCX := hid hcx
   have K3k := hid hka
   have kz : ((k : Int)).toNat = k := by omega
   have k0 : (0 : Int) ≤ (k : Int) := by omega
   have k4 : (k : Int) < 3 := by omega
   clear hk' HFZ hup hcx hka K3
   generalize G k = gk at HUP K3k
   generalize F k = fk at K3k HSQ HSN
   obtain ⟨OK0, hok⟩ : ∃ a : Array Value, a = #[.int .i64 vc, .int .i64 vt, .int .i64 vs, .int .i64 (mixZ G k 0), .int .i64 (mixZ G k 1), .slice none 0 0, .int .i64 (mixZ G k 2)] := ⟨_, rfl⟩
   rw [← hok] at HCX HUP
   have HFa : Hid (Fr w wr [(w.heap.size, 45, #[.int .i64 ap, .int .i64 ac, .int .i64 at9, .int .i64 as9, .int .i64 atx, .int .i64 ash, .slice A n c, .int .i64 anet, .slice B m d, .int .i64 apy]), (w.heap.size + 1, 45, #[.int .i64 sp, .int .i64 sc, .int .i64 st, .int .i64 ss, .int .i64 stx, .int .i64 ssh, .slice A2 n2 c2, .int .i64 snet, .slice B2 m2 d2, .int .i64 spy]), (w.heap.size + 1 + 1, 73, #[.int .i64 0, .int .i64 0, .int .i64 0, .int .i64 0, .int .i64 0, .slice none 0 0, .int .i64 0]), (w.heap.size + 1 + 1 + 1, 73, OK0)]) := by rw [hok]; exact HFr
   clear HFr hok
   have HF6 := al9 ((HFa.out.al 182 #[.pointer (some ⟨w.heap.size + 1 + 1 + 1, o, none⟩), .int .i64 x, .int .i64 y]))
   clear HFa
   go_wp2_with fail
   generalize hw5 : wr.alloc (.cells #[.pointer (some ⟨w.heap.size + 1 + 1 + 1, o, none⟩), .int .i64 x, .int .i64 y] 182) = w5 at *
   clear hw5
   have qz := HF6.out.b 4 rfl
   have c4_0 := qz.cv 0 (.pointer (some ⟨w.heap.size + 1 + 1 + 1, o, none⟩)) rfl
   have c4_1 := qz.cv 1 (.int .i64 x) rfl
   have c4_2 := qz.cv 2 (.int .i64 y) rfl
   clear qz
   have c3 := (HF6.out.b 3 rfl).cv o (.int .i64 0) HCX.out
   have f3 := (HF6.out.b 3 rfl).free o
   go_region_law (go_simp; go_at_call 92; (with_reducible refine (K3k.out _).mono ?_); rintro e w6 ⟨rfl, hb6⟩; have hB6 : Below w5.heap.size w5 w6 := bT (b0 _).drew hb6; have e0 := ((HF6.out.ca hB6).b 4 rfl).cv 0 (.pointer (some ⟨w.heap.size + 1 + 1 + 1, o, none⟩)) rfl; have e1 := ((HF6.out.ca hB6).b 3 rfl).cv o (.int .i64 0) HCX.out; have e2 := ((HF6.out.ca hB6).b 3 rfl).free o)
   all_goals
    trace "GOAL"
    have HF6 := hid (((HF6.out.ca hB6).cut 4).st 3 rfl o (.int .i64 gk))
    clear hB6 hb6 e0 e1 e2
    simp only [Exit.inBlock, Exit.then]
    by_cases h0 : fk = 0
    case pos =>
     have HSM := hid (HSN.out h0)
     subst h0
     clear HSN HSQ K3k
     go_wp2_with fail
     go_roundw
     case rel =>
      refine ⟨k + 1, by omega, by go_num, HSM.out, ?_⟩
      have h := HF6.out
      unfold Hid
      rw [← HUP.out]
      exact h
     case measure => simp [intOf]; omega
    case neg =>
     have tr : (fk != 0) = true := by simpa using h0
     have HE := hid (HSQ.out h0)
     have HN0 : Hid (re ≠ 0) := by unfold Hid; rw [HE.out]; exact h0
     clear h0 HSN HSQ K3k
     obtain ⟨c2_0, c2_1, c2_2, c2_3, c2_4, c2_5, c2_6⟩ := (HF6.out.b 2 rfl).q7
     obtain ⟨f2_0, f2_1, f2_2, f2_3, f2_4, f2_5, f2_6⟩ := (HF6.out.b 2 rfl).r7
     go_wp2_with fail
     refine bodyPost_ret (v := .tuple #[.agg #[.int .i64 0, .int .i64 0, .int .i64 0, .int .i64 0, .int .i64 0, .slice none 0 0, .int .i64 0], .int .i64 fk]) (by simp [results, results58, go_sem, c2_0, c2_1, c2_2, c2_3, c2_4, c2_5, c2_6]) rfl ⟨Or.inr ⟨HN0.out, by rw [HE.out]⟩, ?_⟩
     have hg := HF6.out.ge 2 rfl
     exact st7 HF6.out.bl hg (.int .i64 0) (.int .i64 0) (.int .i64 0) (.int .i64 0) (.int .i64 0) (.slice none 0 0) (.int .i64 0)
   -->>
  obtain rfl : k = 3 := by omega
  have H7 : Hid (re = E4) := H2.out.trans (by rw [sE9 (HFZ.out 0 (by omega)), sE9 (HFZ.out 1 (by omega)), sE9 (HFZ.out 2 (by omega))])
  have HFa : Hid (Fr w wr [(w.heap.size, 45, #[.int .i64 ap, .int .i64 ac, .int .i64 at9, .int .i64 as9, .int .i64 atx, .int .i64 ash, .slice A n c, .int .i64 anet, .slice B m d, .int .i64 apy]), (w.heap.size + 1, 45, #[.int .i64 sp, .int .i64 sc, .int .i64 st, .int .i64 ss, .int .i64 stx, .int .i64 ssh, .slice A2 n2 c2, .int .i64 snet, .slice B2 m2 d2, .int .i64 spy]), (w.heap.size + 1 + 1, 73, #[.int .i64 0, .int .i64 0, .int .i64 0, .int .i64 0, .int .i64 0, .slice none 0 0, .int .i64 0]), (w.heap.size + 1 + 1 + 1, 73, #[.int .i64 vc, .int .i64 vt, .int .i64 vs, .int .i64 (G 0), .int .i64 (G 1), .slice none 0 0, .int .i64 (G 2)])]) := HFr
  clear HFr hk hk' HFZ H2 K3
  generalize G 0 = g0 at *
  generalize G 1 = g1 at *
  generalize G 2 = g2 at *
  have c0_6 := (HFa.out.b 0 rfl).cv 6 (.slice A n c) rfl
  have c1_6 := (HFa.out.b 1 rfl).cv 6 (.slice A2 n2 c2) rfl
  go_wp2_with fail
  refine (K4.out _ (HRW.out.below HFa.out.bl) (HSW.out.below HFa.out.bl)).mono ?_
  rintro e w7 ⟨⟨h0, v, rfl, ho⟩ | ⟨h0, rfl⟩, hb⟩
  ·
   obtain ⟨A7, c7, rfl⟩ := oL9 ho.2
   have HLN := hid ho.1
   have HO := hid (oM9 ho.2 HFa.out.bl.size)
   have HZZ := hid (HZ.out (H7.out.trans h0))
   have HE := hid (H7.out.trans h0)
   subst h0
   have HF9 := hid (HFa.out.ca hb)
   clear ho hb HZ H7 K4 c0_6 c1_6 HFa
   have qz := HF9.out.b 3 rfl
   have c3_0 := qz.cv 0 (.int .i64 vc) rfl
   have f3_0 := qz.free 0
   have c3_1 := qz.cv 1 (.int .i64 vt) rfl
   have f3_1 := qz.free 1
   have c3_2 := qz.cv 2 (.int .i64 vs) rfl
   have f3_2 := qz.free 2
   have c3_3 := qz.cv 3 (.int .i64 g0) rfl
   have f3_3 := qz.free 3
   have c3_4 := qz.cv 4 (.int .i64 g1) rfl
   have f3_4 := qz.free 4
   have c3_5 := qz.cv 5 (.slice none 0 0) rfl
   have f3_5 := qz.free 5
   have c3_6 := qz.cv 6 (.int .i64 g2) rfl
   have f3_6 := qz.free 6
   clear qz
   obtain ⟨c2_0, c2_1, c2_2, c2_3, c2_4, c2_5, c2_6⟩ := (HF9.out.b 2 rfl).q7
   obtain ⟨f2_0, f2_1, f2_2, f2_3, f2_4, f2_5, f2_6⟩ := (HF9.out.b 2 rfl).r7
   replace HO := hid (oS9 HO.out (HF9.out.b 3 rfl) (by decide) 5 (.slice A7 L4.length c7))
   have HF6 := hid (HF9.out.st 3 rfl 5 (.slice A7 L4.length c7))
   clear HF9
   go_wp2_with fail
   obtain rfl := HZZ.out
   have hg := HF6.out.ge 2 rfl
   refine bodyPost_ret (v := .tuple #[.agg #[.int .i64 vc, .int .i64 vt, .int .i64 vs, .int .i64 g0, .int .i64 g1, .slice A7 L4.length c7, .int .i64 g2], .int .i64 0]) (by simp [results, results58, go_sem, c2_0, c2_1, c2_2, c2_3, c2_4, c2_5, c2_6]) rfl ⟨Or.inl ⟨HE.out, A7, c7, ?_, ?_⟩, ?_⟩
   ·
    rfl
   ·
    exact own_st7 HO.out (HF6.out.b 2 rfl) (by decide) (.int .i64 vc) (.int .i64 vt) (.int .i64 vs) (.int .i64 g0) (.int .i64 g1) (.slice A7 L4.length c7) (.int .i64 g2)
   ·
    exact st7 HF6.out.bl hg (.int .i64 vc) (.int .i64 vt) (.int .i64 vs) (.int .i64 g0) (.int .i64 g1) (.slice A7 L4.length c7) (.int .i64 g2)
  ·
   --<<
   have HE := hid H7.out
   have HN0 : Hid (re ≠ 0) := by unfold Hid; rw [HE.out]; exact h0
   have tr : (E4 != 0) = true := by simpa using h0
   have HF9 := hid (HFa.out.ca hb)
   clear h0 hb HZ H7 K4 c0_6 c1_6 HFa
   obtain ⟨c2_0, c2_1, c2_2, c2_3, c2_4, c2_5, c2_6⟩ := (HF9.out.b 2 rfl).q7
   obtain ⟨f2_0, f2_1, f2_2, f2_3, f2_4, f2_5, f2_6⟩ := (HF9.out.b 2 rfl).r7
   have c3_5 := (HF9.out.b 3 rfl).cv 5 (.slice none 0 0) rfl
   have f3_5 := (HF9.out.b 3 rfl).free 5
   have HF6 := hid (HF9.out.st 3 rfl 5 (.slice none 0 0))
   clear HF9
   obtain ⟨c2_0_6, c2_1_6, c2_2_6, c2_3_6, c2_4_6, c2_5_6, c2_6_6⟩ := (HF6.out.b 2 rfl).q7
   obtain ⟨f2_0_6, f2_1_6, f2_2_6, f2_3_6, f2_4_6, f2_5_6, f2_6_6⟩ := (HF6.out.b 2 rfl).r7
   go_wp2_with fail
   refine bodyPost_ret (v := .tuple #[.agg #[.int .i64 0, .int .i64 0, .int .i64 0, .int .i64 0, .int .i64 0, .slice none 0 0, .int .i64 0], .int .i64 E4]) (by simp [results, results58, go_sem, c2_0, c2_1, c2_2, c2_3, c2_4, c2_5, c2_6, c2_0_6, c2_1_6, c2_2_6, c2_3_6, c2_4_6, c2_5_6, c2_6_6]) rfl ⟨Or.inr ⟨HN0.out, by rw [HE.out]⟩, ?_⟩
   have hg := HF6.out.ge 2 rfl
   exact st7 HF6.out.bl hg (.int .i64 0) (.int .i64 0) (.int .i64 0) (.int .i64 0) (.int .i64 0) (.slice none 0 0) (.int .i64 0)
   -->>
end Go.Proofs.YtiaabmhjkoohmaaGreat
