/-
  Contract of social.Period. Conditions as named.
-/
import Derived.Test.YtpheeblpfcipaaaSocial
import Derived.Test.YtpheeblpfcipaaaBase2
import Derived.Test.YtpheeblpfcipaaaTable5
namespace Go.Proofs.Ytpheeblpfcipaaa
set_option linter.unusedVariables false
open Go.RowKit
/-- both sides of a contribution of so much that counts -/
def shI (c : Ct) (x : Int) : Sh := ⟨roundI (bandS (·.r) c.bands x) 10000 c.rd, roundI (bandS (·.e) c.bands x) 10000 c.rd⟩
def shC (s : Sh) : List Value := [.int .i64 s.a, .int .i64 s.b]
theorem bandS_bd (l : List Bd) (hl : bandsErr l = 0) (x : Int) (hx : mrB x = true) : (0 ≤ bandS (·.r) l x ∧ bandS (·.r) l x ≤ 8000000000000000) ∧ (0 ≤ bandS (·.e) l x ∧ bandS (·.e) l x ≤ 8000000000000000) := by
  have g := goodB l hl
  have hx' := mr_iff.1 hx
  have h1 := prog_bd x (fun k => (l.getD k bd0).f) (fun k => (l.getD k bd0).r) l.length (fun i hi => (g.f i hi).1) g.r hx'.2 l.length (Nat.le_refl _)
  have h2 := prog_bd x (fun k => (l.getD k bd0).f) (fun k => (l.getD k bd0).e) l.length (fun i hi => (g.f i hi).1) g.e hx'.2 l.length (Nat.le_refl _)
  have h3 := g.hi
  unfold bandS
  dsimp only
  omega
/-- how much counts of the contribution at i in a period -/
def xAt (cts : List Ct) (b : Bs) (l : List Int) (i : Nat) : Int := xI (cts.getD i ct0) b (l.getD i 0)
def okA (cts : List Ct) (b : Bs) (l : List Int) (n : Nat) : Bool := bsR b && (List.range n).all fun i => mrB (l.getD i 0 + xAt cts b l i)
def rowA (cts : List Ct) (b : Bs) (l : List Int) (n : Nat) : List Sh := (List.range n).map fun i => shI (cts.getD i ct0) (xAt cts b l i)
def stepTo (cts : List Ct) (b : Bs) (l : List Int) (n k : Nat) : List Int := (List.range n).map fun i => if i < k then l.getD i 0 + xAt cts b l i else l.getD i 0
def OwnS (w : World) (base : Nat) (v : Value) (n : Nat) (l : List Sh) : Prop := n = l.length ∧ w.ownsRow base 33 2 v n (l.flatMap shC)
theorem info_share : (Try.prog.info? 33).map (fun i => (i.zero, i.size, i.bytes)) = some (some (.agg #[.int .i64 0, .int .i64 0]), 2, 16) := by kernel_rfl
def PerR (cts : List Ct) (b : Bs) (l : List Int) (n : Nat) (w : World) (e : Ending) (w' : World) : Prop :=
  ((okA cts b l n = true ∧ ∃ v vn, e = .returned (.tuple #[v, vn, .int .i64 0]) ∧ OwnS w' w.heap.size v n (rowA cts b l n) ∧ OwnI w' w.heap.size vn n (stepTo cts b l n n)) ∨
   (okA cts b l n = false ∧ e = .returned (.tuple #[.slice none 0 0, .slice none 0 0, .int .i64 10]))) ∧ Below w.heap.size w w'
theorem stepTo_zero (cts : List Ct) (b : Bs) (l : List Int) : stepTo cts b l l.length 0 = l := by
  unfold stepTo
  apply List.ext_getElem
  · simp
  · intro i h1 h2
    simp [List.getD, List.getElem?_eq_getElem h2]
theorem stepTo_set (cts : List Ct) (b : Bs) (l : List Int) (n k : Nat) (y : Int) (hk : k < n) (hy : y = l.getD k 0 + xAt cts b l k) : ((stepTo cts b l n k).map (Value.int .i64)).set k (.int .i64 y) = (stepTo cts b l n (k + 1)).map (Value.int .i64) := by
  unfold stepTo
  apply List.ext_getElem
  · simp
  · intro i h1 h2
    rw [List.getElem_set]
    by_cases h : k = i
    · subst h; simp [hy]
    · rw [if_neg h]
      by_cases h3 : i < k
      · simp [h3, Nat.lt_succ_of_lt h3]
      · simp [h3, show ¬ i < k + 1 from by omega]
theorem okA_no (cts : List Ct) (b : Bs) (l : List Int) (n k : Nat) (hk : k < n) (h : mrB (l.getD k 0 + xAt cts b l k) = false) : okA cts b l n = false := by
  unfold okA
  rw [Bool.and_eq_false_iff]
  right
  rw [List.all_eq_false]
  exact ⟨k, by simpa using hk, by simp only [h]; decide⟩
theorem okA_yes (cts : List Ct) (b : Bs) (l : List Int) (n : Nat) (hb : bsR b = true) (h : ∀ k, k < n → mrB (l.getD k 0 + xAt cts b l k) = true) : okA cts b l n = true := by
  unfold okA
  rw [hb, Bool.true_and, List.all_eq_true]
  intro k hk
  exact h k (by simpa using hk)
theorem all_mr {l : List Int} (h : l.all mrB = true) (k : Nat) : -100000000000 ≤ l.getD k 0 ∧ l.getD k 0 ≤ 100000000000 := by
  rw [List.all_eq_true] at h
  by_cases hk : k < l.length
  · have := mr_iff.1 (h l[k] (List.getElem_mem hk))
    simp [List.getD, List.getElem?_eq_getElem hk]
    exact this
  · simp [List.getD, List.getElem?_eq_none (by omega : l.length ≤ k)]
--%%
set_option maxRecDepth 100000 in
set_option maxHeartbeats 3200000 in
theorem period_c (cts : List Ct) (As Ac Ak A : Option Addr) (ns cs nc cc nk ck c : Nat) (lim rnd : Int) (bc bt bs : Int) (l : List Int) (w : World) (hs : CtSl w Ac nc cts) (hok : ∀ k, k < nc → CtOK (cts.getD k ct0)) (hl : I64Sl w A nc l) (hr : l.all mrB = true) (hn : nc ≤ 1000) :
    Calls Try.prog 17 #[.agg #[.slice As ns cs, .slice Ac nc cc, .slice Ak nk ck, .int .i64 lim, .int .i64 rnd], .agg #[.int .i64 bc, .int .i64 bt, .int .i64 bs], .slice A nc c] w (PerR cts ⟨bc, bt, bs⟩ l nc w) := by
  have tn : ((nc : Int) != (nc : Int)) = false := by simp
  have HB := Lib.hid (bright_c ⟨bc, bt, bs⟩)
  cases hb : bsR ⟨bc, bt, bs⟩
  · rw [hb] at HB
    have HN : Hid (okA cts ⟨bc, bt, bs⟩ l nc = false) := by unfold Hid okA; rw [hb]; rfl
    clear hb
    go_enter Try.func17, Try.ntmps17
    go_wp2_with fail
    refine (HB.out _).mono ?_
    rintro e w1 ⟨rfl, hb1⟩
    go_wp2_with fail
    go_ret3
    exact ⟨Or.inr ⟨HN.out, rfl⟩, bT (bA (below1 _ _) _) hb1⟩
  rw [hb] at HB
  have HS := Lib.hid hs
  have HL := Lib.hid hl
  have HR := Lib.hid hr
  have HOK := Lib.hid hok
  have HBS := Lib.hid hb
  clear hs hl hr hok hb
  have y0 := Blk.mk (w.alloc (.cells #[.slice As ns cs, .slice Ac nc cc, .slice Ak nk ck, .int .i64 lim, .int .i64 rnd] 26)) 59 #[.int .i64 bc, .int .i64 bt, .int .i64 bs]
  rw [World.size_alloc] at y0
  have z0 := (Blk.mk w 26 #[.slice As ns cs, .slice Ac nc cc, .slice Ak nk ck, .int .i64 lim, .int .i64 rnd]).alloc (.cells #[.int .i64 bc, .int .i64 bt, .int .i64 bs] 59)
  have hb0 := bA (below1 w (.cells #[.slice As ns cs, .slice Ac nc cc, .slice Ak nk ck, .int .i64 lim, .int .i64 rnd] 26)) (.cells #[.int .i64 bc, .int .i64 bt, .int .i64 bs] 59)
  go_enter Try.func17, Try.ntmps17
  go_wp2_with fail
  refine (HB.out _).mono ?_
  rintro e w1 ⟨rfl, hb1⟩
  have y1 := y0.t hb1
  have z1 := z0.t hb1
  have hb2 := bT hb0 hb1
  go_wp2_with fail
  refine (right_sl A nc c l _ (HL.out.below hb2)).mono ?_
  rw [HR.out]
  rintro e w' ⟨rfl, rfl⟩
  go_wp2_with fail
  refine (clone64_c A nc c l _ (HL.out.below hb2) (by omega)).mono ?_
  rintro e w2 ⟨⟨vn0, rfl, hvn1, hvn⟩, hb3⟩
  have y2 := y1.t hb3
  have z2 := z1.t hb3
  have hb4 := bT hb2 hb3
  obtain ⟨q0, q1, q2, q3, q4⟩ := z2.all5
  have HV1 := Lib.hid hvn1
  clear hvn1
  go_wp2_with fail
  go_loopw [9, 35] (fun v i wr => ∃ k : Nat, k ≤ nc ∧ i = .int .i64 k ∧ Hid (∀ j, j < k → mrB (l.getD j 0 + xAt cts ⟨bc, bt, bs⟩ l j) = true) ∧ OwnS wr w.heap.size v k (rowA cts ⟨bc, bt, bs⟩ l k) ∧ OwnI wr w.heap.size vn0 nc (stepTo cts ⟨bc, bt, bs⟩ l nc k) ∧ Below w.heap.size w wr ∧ Blk wr (w.heap.size + 1) 59 #[.int .i64 bc, .int .i64 bt, .int .i64 bs]) (fun _ i _ => nc - (intOf i).toNat)
  case atStart => exact ⟨0, Nat.zero_le _, rfl, fun j hj => absurd hj (by omega), ⟨by simp [rowA], World.ownsRow_nil _ _ _ _⟩, ⟨by simp [stepTo], by
    have := stepTo_zero cts ⟨bc, bt, bs⟩ l
    rw [← HV1.out] at this
    rw [this]
    exact own_more hvn hb2.size⟩, hb4, y2⟩
  case round =>
    obtain ⟨k, hk', rfl, hM, ⟨ho1, ho⟩, ⟨hv1, hv⟩, hbl, y⟩ := hrel
    have HO1 := Lib.hid ho1
    have HV1 := Lib.hid hv1
    clear ho1 hv1
    by_cases hk : k < nc
    case neg =>
      obtain rfl : k = nc := by omega
      go_wp2_with fail
      go_ret3
      exact ⟨Or.inl ⟨okA_yes cts ⟨bc, bt, bs⟩ l _ HBS.out hM.out, _, _, rfl, ⟨HO1.out, ho⟩, ⟨HV1.out, hv⟩⟩, hbl⟩
    obtain ⟨b, off, rfl, hlt, hat⟩ := (HS.out.below hbl).2.2 (by omega)
    obtain ⟨c0, _, c1, ⟨A', n', c', c2, hbs⟩, c3, c4, c5⟩ := hat k hk
    obtain ⟨ba, offa, rfl, hlta, hata⟩ := (HL.out.below hbl).2.2 (by omega)
    have d0 := hata k hk
    have hOK := HOK.out k hk
    have har := all_mr HR.out k
    have hxs := x_bd (cts.getD k ct0) ⟨bc, bt, bs⟩ (l.getD k 0) HBS.out
    obtain ⟨x, hx⟩ : ∃ x, x = xAt cts ⟨bc, bt, bs⟩ l k := ⟨_, rfl⟩
    rw [show xI (cts.getD k ct0) ⟨bc, bt, bs⟩ (l.getD k 0) = x from hx.symm] at hxs
    have hsh : Hid (rowA cts ⟨bc, bt, bs⟩ l (k + 1) = rowA cts ⟨bc, bt, bs⟩ l k ++ [shI (cts.getD k ct0) x]) := by
      unfold Hid rowA
      rw [List.range_succ, List.map_append, hx]
      rfl
    have hset := Lib.hid (fun y => stepTo_set cts ⟨bc, bt, bs⟩ l nc k y hk)
    have hno := Lib.hid (okA_no cts ⟨bc, bt, bs⟩ l nc k hk)
    have hxm : mrB x = true := mr_t (by omega)
    have hcut : xI (cts.getD k ct0) ⟨bc, bt, bs⟩ (l.getD k 0) = x := hx.symm
    rw [← hx] at hno hset
    have HMX : Hid (mrB (l.getD k 0 + x) = true → ∀ j, j < k + 1 → mrB (l.getD j 0 + xAt cts ⟨bc, bt, bs⟩ l j) = true) := fun h j hj => by
      rcases (by omega : j = k ∨ j < k) with rfl | hj
      · rw [← hx]; exact h
      · exact hM.out j hj
    have HCt := Lib.hid hat
    clear hx hat hata
    unfold shI at hsh
    generalize l.getD k 0 = ah at *
    generalize cts.getD k ct0 = ct at *
    obtain ⟨nm, base, bands, pc, yc, rd⟩ := ct
    obtain ⟨_, okb, okm, okp, oky, okl⟩ := hOK
    dsimp only at c0 c1 c2 c3 c4 c5 hbs okb okm okp oky okl hcut hsh
    have hbd := bandS_bd bands okl x hxm
    have KO := Lib.hid (on_c nm base pc yc rd A' n' c' ⟨bc, bt, bs⟩)
    have KU := Lib.hid (under_c nm base pc yc rd A' n' c' (onI base ⟨bc, bt, bs⟩) ah · (by omega) (by omega))
    unfold xI at hcut
    dsimp only at hcut
    rw [hcut] at KU
    clear hcut
    have KD := Lib.hid (fun W h => sdue_t nm base pc yc rd A' n' c' bands x W h okl hxm okm (in53_iff.2 (by omega)) (in53_iff.2 (by omega)))
    generalize onI base ⟨bc, bt, bs⟩ = o at *
    generalize roundI (bandS (·.r) bands x) 10000 rd = ra at *
    generalize roundI (bandS (·.e) bands x) 10000 rd = rb at *
    clear hbd okl
    have y2 := y.alloc (.cells #[.string nm, .int .i64 base, .slice A' n' c', .int .i64 pc, .int .i64 yc, .int .i64 rd] 31)
    have cb := Blk.mk wr 31 #[.string nm, .int .i64 base, .slice A' n' c', .int .i64 pc, .int .i64 yc, .int .i64 rd]
    have HO := Lib.hid (ho.alloc (.cells #[.string nm, .int .i64 base, .slice A' n' c', .int .i64 pc, .int .i64 yc, .int .i64 rd] 31))
    have HV := Lib.hid (hv.alloc (.cells #[.string nm, .int .i64 base, .slice A' n' c', .int .i64 pc, .int .i64 yc, .int .i64 rd] 31))
    have hb5 := bA hbl (.cells #[.string nm, .int .i64 base, .slice A' n' c', .int .i64 pc, .int .i64 yc, .int .i64 rd] 31)
    have d1 := ((below1 wr (.cells #[.string nm, .int .i64 base, .slice A' n' c', .int .i64 pc, .int .i64 yc, .int .i64 rd] 31)).cell (p := ⟨ba, offa + k, none⟩) hlta).trans d0
    have hbs1 := hbs.below (below1 wr (.cells #[.string nm, .int .i64 base, .slice A' n' c', .int .i64 pc, .int .i64 yc, .int .i64 rd] 31))
    have hsz := hbl.size
    have hlt2 : ba < (wr.alloc (.cells #[.string nm, .int .i64 base, .slice A' n' c', .int .i64 pc, .int .i64 yc, .int .i64 rd] 31)).heap.size := by simp; omega
    clear ho hv
    go_wp2_with fail
    generalize hW5 : wr.alloc (.cells #[.string nm, .int .i64 base, .slice A' n' c', .int .i64 pc, .int .i64 yc, .int .i64 rd] 31) = w5 at *
    clear hW5
    have G : Hid (∀ W, Below w5.heap.size w5 W → Below w5.heap.size w5 W ∧ W.cell? ⟨wr.heap.size, 0, none⟩ = some (.string nm) ∧ W.cell? ⟨wr.heap.size, 1, none⟩ = some (.int .i64 base) ∧ W.cell? ⟨wr.heap.size, 2, none⟩ = some (.slice A' n' c') ∧ W.cell? ⟨wr.heap.size, 3, none⟩ = some (.int .i64 pc) ∧ W.cell? ⟨wr.heap.size, 4, none⟩ = some (.int .i64 yc) ∧ W.cell? ⟨wr.heap.size, 5, none⟩ = some (.int .i64 rd) ∧ W.cell? ⟨w.heap.size + 1, 0, none⟩ = some (.int .i64 bc) ∧ W.cell? ⟨w.heap.size + 1, 1, none⟩ = some (.int .i64 bt) ∧ W.cell? ⟨w.heap.size + 1, 2, none⟩ = some (.int .i64 bs) ∧ W.cell? ⟨ba, offa + k, none⟩ = some (.int .i64 ah)) := fun W hW =>
      ⟨hW, (cb.t hW).cell 0, (cb.t hW).cell 1, (cb.t hW).cell 2, (cb.t hW).cell 3, (cb.t hW).cell 4, (cb.t hW).cell 5, (y2.t hW).cell 0, (y2.t hW).cell 1, (y2.t hW).cell 2, (hW.cell (p := ⟨ba, offa + k, none⟩) hlt2).trans d1⟩
    go_region_held3 (fun W => Below w5.heap.size w5 W ∧ W.cell? ⟨wr.heap.size, 0, none⟩ = some (.string nm) ∧ W.cell? ⟨wr.heap.size, 1, none⟩ = some (.int .i64 base) ∧ W.cell? ⟨wr.heap.size, 2, none⟩ = some (.slice A' n' c') ∧ W.cell? ⟨wr.heap.size, 3, none⟩ = some (.int .i64 pc) ∧ W.cell? ⟨wr.heap.size, 4, none⟩ = some (.int .i64 yc) ∧ W.cell? ⟨wr.heap.size, 5, none⟩ = some (.int .i64 rd) ∧ W.cell? ⟨w.heap.size + 1, 0, none⟩ = some (.int .i64 bc) ∧ W.cell? ⟨w.heap.size + 1, 1, none⟩ = some (.int .i64 bt) ∧ W.cell? ⟨w.heap.size + 1, 2, none⟩ = some (.int .i64 bs) ∧ W.cell? ⟨ba, offa + k, none⟩ = some (.int .i64 ah))
      (first | assumption | exact G.out _ (b0 _).drew | (exact sK G.out (by assumption) (by assumption)))
      (first | (go_at_call 32; refine (KO.out _).mono ?_; rintro e w6 ⟨rfl, hb6⟩) | (go_at_call 31; refine (KU.out _).mono ?_; rintro e w7 ⟨rfl, hb7⟩))
    have hB : Below w5.heap.size w5 w7 := (show Below w5.heap.size w5 w7 ∧ _ from by assumption).1
    have cb2 := cb.t hB
    have y3 := y2.t hB
    have HO2 := Lib.hid (own_below HO.out hB)
    have HV2 := Lib.hid (own_below HV.out hB)
    have hb8 := bT hb5 hB
    obtain ⟨p0, p1, p2, p3, p4, p5⟩ := cb2.all6
    have hbs2 := hbs1.below hB
    have d2 := (hB.cell (p := ⟨ba, offa + k, none⟩) hlt2).trans d1
    have hs7 := hB.size
    go_wp2_with fail
    refine (KD.out _ hbs2).mono ?_
    rintro e w8 ⟨rfl, hb9⟩
    have y4 := y3.t hb9
    have HO3 := Lib.hid (own_below HO2.out hb9)
    have HV3 := Lib.hid (own_below HV2.out hb9)
    have hb10 := bT hb8 hb9
    have hlt3 : ba < w7.heap.size := by omega
    have d3 := (hb9.cell (p := ⟨ba, offa + k, none⟩) hlt3).trans d2
    have hs8 := hb9.size
    have hlt4 : ba < w8.heap.size := by omega
    have d4 := ((below1 w8 (.cells #[.int .i64 ra, .int .i64 rb] 33)).cell (p := ⟨ba, offa + k, none⟩) hlt4).trans d3
    obtain ⟨g, cap, hvn, hgb, hgl, hgc, hg⟩ := own_form HV3.out (by omega)
    subst hvn
    have hg0 := hg.frozenAt k
    have hg1 := hg.cellAt k (by omega)
    have hgk : ((stepTo cts ⟨bc, bt, bs⟩ l nc k).map (Value.int .i64))[k]? = some (.int .i64 ((stepTo cts ⟨bc, bt, bs⟩ l nc k).getD k 0)) := map_getD_int _ k (by rw [← HV1.out]; exact hk)
    rw [hgk] at hg1
    have HG := Lib.hid hg
    clear hgk hg
    have kz : ((k : Int)).toNat = k := by omega
    generalize (stepTo cts ⟨bc, bt, bs⟩ l nc k).getD k 0 = old at hg1
    have sb := Blk.mk w8 33 #[.int .i64 ra, .int .i64 rb]
    have hsg : w8.heap.size ≠ g := by omega
    have hm0 : mrB ah = true := mr_t (by omega)
    cases hm : mrB (ah + x)
    · have HN := Lib.hid (hno.out hm)
      have HM := Lib.hid (show ¬ (mrB ah = true ∧ mrB x = true ∧ mrB (ah + x) = true) from by rw [hm]; simp)
      clear hm
      go_wp2_with fail
      refine (add_f ah x _ HM.out).mono ?_
      rintro e w10 ⟨rfl, hb11⟩
      have e1 := (hb11.cell (p := ⟨g, k, none⟩) (show g < _ by simp; omega)).trans (((below1 w8 (.cells #[.int .i64 ra, .int .i64 rb] 33)).cell (p := ⟨g, k, none⟩) hgl).trans hg1)
      have e0 := (own_below (HG.out.alloc (.cells #[.int .i64 ra, .int .i64 rb] 33)) hb11).frozenAt k
      have hbz := bS (bT (bA hb10 _) hb11) (p := ⟨g, k, none⟩) hgb (.int .i64 0)
      clear hgc
      go_wp2_with fail
      go_ret3
      exact ⟨Or.inr ⟨HN.out, rfl⟩, hbz⟩
    · have HM := HMX.out hm
      have HMM := Lib.hid HM
      clear HM
      go_wp2_with fail
      refine (add_t ah x _ hm0 hxm hm).mono ?_
      rintro e w10 ⟨rfl, hb11⟩
      have e1 := (hb11.cell (p := ⟨g, k, none⟩) (show g < _ by simp; omega)).trans (((below1 w8 (.cells #[.int .i64 ra, .int .i64 rb] 33)).cell (p := ⟨g, k, none⟩) hgl).trans hg1)
      have HGG := own_below (HG.out.alloc (.cells #[.int .i64 ra, .int .i64 rb] 33)) hb11
      have e0 := HGG.frozenAt k
      have hst := HGG.stored k (.int .i64 (ah + x))
      rw [hset.out _ rfl] at hst
      have hbz := bS (bT (bA hb10 _) hb11) (p := ⟨g, k, none⟩) hgb (.int .i64 (ah + x))
      have sb2 := (sb.t hb11).far (a := ⟨g, k, none⟩) hsg (.int .i64 (ah + x))
      have y5 := ((y4.alloc (.cells #[.int .i64 ra, .int .i64 rb] 33)).t hb11).grown hst.2 (own_blk HGG ((y4.alloc (.cells #[.int .i64 ra, .int .i64 rb] 33)).t hb11) (by decide))
      have HO4 := (own_below (HO3.out.alloc (.cells #[.int .i64 ra, .int .i64 rb] 33)) hb11).kept hst.2 (own_own (own_below (HO3.out.alloc (.cells #[.int .i64 ra, .int .i64 rb] 33)) hb11) HGG (by decide))
      have HO5 := Lib.hid HO4
      have HST := Lib.hid hst
      obtain ⟨s0, s1, s2, s3⟩ := sb2.all2
      have hsz5 := hbz.size
      clear hst HO4 HGG hgc
      go_wp2_with (at_builtin; refine wpList_app1 _ rfl _ _ 51 rfl 33 _ 2 16 Try.underlying51 info_share rfl (by decide) rfl HO5.out _ rfl (by first | rfl | simp) rfl (by simp [Value.oneCell']) (by omega) (by omega) (by first | omega | exact hsz5 | (simp; omega)) ?_; intro v' w11 ho' hg)
      go_roundw
      case rel =>
        refine ⟨k + 1, by omega, by go_num, HMM.out, ⟨by simp [rowA], ?_⟩, ⟨by simp [stepTo], HST.out.1.kept hg (own_own HST.out.1 HO5.out (by decide))⟩, bP hbz HO5.out hg (Nat.le_refl _), y5.grown hg (own_blk HO5.out y5 (by decide))⟩
        rw [hsh.out, List.flatMap_append]
        simpa [shC] using ho'
      case measure => simp [intOf]; omega
--%%
end Go.Proofs.Ytpheeblpfcipaaa
