/-
  Contracts of a book's Sweep: the library's DeleteFunc, and Sweep itself. Conditions as named.
-/
import Derived.Test.YtfhbnojhmeodiaaDoorBook7
namespace Go.Proofs.YtfhbnojhmeodiaaDoor
set_option linter.unusedVariables false
open Go.RowKit
/-- the first one that is gone -/
def firG (l : List Od) : Nat := l.findIdx goneO
theorem firG_le (l : List Od) : firG l ≤ l.length := List.findIdx_le_length
theorem firG_of {l : List Od} {q : Nat} (hq : q < l.length) (h1 : goneO (l.getD q od0) = true) (h2 : ∀ j, j < q → goneO (l.getD j od0) = false) : firG l = q := by
  unfold firG
  rw [List.findIdx_eq hq]
  rw [getD_at l od0 hq] at h1
  exact ⟨h1, fun j hj => by have := h2 j hj; rwa [getD_at l od0 (by omega)] at this⟩
theorem firG_none {l : List Od} (h : ∀ j, j < l.length → goneO (l.getD j od0) = false) : firG l = l.length := by
  unfold firG
  rw [List.findIdx_eq_length]
  intro x hx
  obtain ⟨j, hj, rfl⟩ := List.getElem_of_mem hx
  have := h j hj
  rwa [getD_at l od0 hj] at this
theorem sweep_before {l : List Od} {k : Nat} (hk : k ≤ l.length) (h : ∀ j, j < k → goneO (l.getD j od0) = false) : sweepL (l.take k) = l.take k ∧ sweepI (l.take k) = [] := by
  have ha : ∀ z ∈ l.take k, goneO z = false := fun z hz => by
    obtain ⟨j, hj, rfl⟩ := List.getElem_of_mem hz
    rw [List.length_take] at hj
    rw [List.getElem_take]
    have := h j (by omega)
    rwa [getD_at l od0 (by omega)] at this
  constructor
  · exact List.filter_eq_self.2 fun z hz => by rw [ha z hz]; rfl
  · unfold sweepI
    rw [List.filter_eq_nil_iff.2 (fun z hz => by rw [ha z hz]; decide)]
    rfl
theorem firG_lt {l : List Od} {k : Nat} (h : k < firG l) : goneO (l.getD k od0) = false := by
  have hl : k < l.length := Nat.lt_of_lt_of_le h (firG_le l)
  have := List.not_of_lt_findIdx h
  rw [getD_at l od0 hl]
  simpa using this
theorem firG_at {l : List Od} (h : firG l < l.length) : goneO (l.getD (firG l) od0) = true := by
  have := List.findIdx_getElem (p := goneO) (xs := l) (w := h)
  rw [getD_at l od0 h]
  unfold firG
  exact this
--%%
def IdxG (l : List Od) (n : Nat) (g0 N : Nat) (W : World) (e : Ending) (w' : World) : Prop :=
  ((firG l < n ∧ e = .returned (.int .i64 (firG l : Nat)) ∧ OutI w' g0 N [(l.getD (firG l) od0).id]) ∨ (firG l = n ∧ e = .returned (.int .i64 (-1)) ∧ OutI w' g0 N [])) ∧ Kp N (fun k => k = g0) W w'
theorem own_at {w : World} {base n c : Nat} {A : Option Addr} {l : List Od} (h : OwnOd w base (.slice A n c) n l) : OdSl w A n l := by
  obtain ⟨A', c', he, _, hs⟩ := h.sl
  injection he with h1 _ _
  subst h1
  exact hs
set_option maxHeartbeats 1600000 in
theorem sidx_c (A : Option Addr) (n c : Nat) (l : List Od) (B g0 N : Nat) (W : World) (hs : OwnOd W B (.slice A n c) n l) (hg : ∀ g, (Value.slice A n c).ownBlock = some g → g < N ∧ ¬ g = g0) (ho : OutI W g0 N []) (hN : N ≤ W.heap.size) (hn : n ≤ 1000) :
    Calls Tryd.prog 42 #[.slice A n c, .func (Fn.func 55) #[] #[.pointer (some ⟨g0, 0, none⟩)]] W (IdxG l n g0 N W) := by
  have HS := Lib.hid hs
  have HG := Lib.hid hg
  have HO := Lib.hid ho
  have HL : Hid (n = l.length) := hs.1
  clear hs ho hg
  go_enter Tryd.func42, Tryd.ntmps42
  go_wp2_with fail
  go_loopw [5, 8] (fun _ i wr => ∃ k : Nat, k ≤ n ∧ i = .int .i64 k ∧ Hid (∀ j, j < k → goneO (l.getD j od0) = false) ∧ OutI wr g0 N [] ∧ Kp N (fun k => k = g0) W wr) (fun _ i _ => n - (intOf i).toNat)
  case atStart => exact ⟨0, Nat.zero_le _, rfl, fun j hj => absurd hj (by omega), HO.out, Kp.refl _ _ _⟩
  case round =>
    obtain ⟨k, hk', rfl, HN, hoi, hkp⟩ := hrel
    have HOI := Lib.hid hoi
    have HKP := Lib.hid hkp
    have hsz := hkp.size
    clear hoi hkp
    by_cases hk : k < n
    case neg =>
      obtain rfl : k = n := by omega
      go_wp2_with fail
      go_ret
      exact ⟨Or.inr ⟨(firG_none (fun j hj => HN.out j (by rw [HL.out]; exact hj))).trans HL.out.symm, rfl, HOI.out⟩, HKP.out⟩
    obtain ⟨b, off, rfl, hlt, hat⟩ := (own_at (show OwnOd wr B (.slice A n c) n l from ⟨HS.out.1, own_kp HS.out.2 HKP.out HG.out⟩)).2.2 (by omega)
    have hcl := hat k hk
    have HNX : Hid (goneO (l.getD k od0) = false → ∀ j, j < k + 1 → goneO (l.getD j od0) = false) := fun h j hj => by
      rcases (by omega : j = k ∨ j < k) with rfl | hj
      · exact h
      · exact HN.out j hj
    have HYX : Hid (goneO (l.getD k od0) = true → firG l = k ∧ (l.getD (firG l) od0).id = (l.getD k od0).id) := fun h => by
      have e := firG_of (by rw [← HL.out]; exact hk) h HN.out
      exact ⟨e, by rw [e]⟩
    generalize l.getD k od0 = zz at *
    obtain ⟨id, pr, am, ra, tt, tk, ar⟩ := zz
    obtain ⟨c0, c1, c2, c3, c4, c5, c6⟩ : wr.cell? ⟨b, off + k * 7, none⟩ = some (.int .i64 id) ∧ wr.cell? ⟨b, off + k * 7 + 1, none⟩ = some (.int .i64 pr) ∧ wr.cell? ⟨b, off + k * 7 + 2, none⟩ = some (.int .i64 am) ∧ wr.cell? ⟨b, off + k * 7 + 3, none⟩ = some (.int .i64 ra) ∧ wr.cell? ⟨b, off + k * 7 + 4, none⟩ = some (.int .i64 tt) ∧ wr.cell? ⟨b, off + k * 7 + 5, none⟩ = some (.int .i64 tk) ∧ wr.cell? ⟨b, off + k * 7 + 6, none⟩ = some (.int .i64 ar) := ⟨hcl 0 _ rfl, hcl 1 _ rfl, hcl 2 _ rfl, hcl 3 _ rfl, hcl 4 _ rfl, hcl 5 _ rfl, hcl 6 _ rfl⟩
    have KS := Lib.hid (sgone_c id pr am ra tt tk ar g0 N [] wr HOI.out (by omega) (by simp))
    obtain ⟨gb, hgb⟩ : ∃ b, b = goneO ⟨id, pr, am, ra, tt, tk, ar⟩ := ⟨_, rfl⟩
    unfold GoneR at KS
    rw [← hgb] at KS HNX HYX
    clear hcl hat hgb
    go_wp2_with fail
    refine KS.out.mono ?_
    rintro e w2 ⟨rfl, ho2, hk2, _⟩
    have HO2 := Lib.hid ho2
    have HK2 := Lib.hid (HKP.out.trans hk2)
    clear ho2 hk2
    cases gb
    · have HN2 := Lib.hid (HNX.out rfl)
      go_wp2_with fail
      go_roundw
      case rel => exact ⟨k + 1, by omega, by go_num, HN2.out, by simpa using HO2.out, HK2.out⟩
      case measure => simp [intOf]; omega
    · have HY2 := Lib.hid (HYX.out rfl)
      go_wp2_with fail
      go_ret
      exact ⟨Or.inl ⟨by rw [HY2.out.1]; exact hk, by rw [HY2.out.1]; rfl, by rw [HY2.out.2]; simpa using HO2.out⟩, HK2.out⟩
--%%
theorem own_put7 {w : World} {base n cap g : Nat} {R : List Od} (h : w.ownsRow base 39 7 (.slice (some ⟨g, 0, none⟩) n cap) n (R.flatMap odC)) (i : Nat) (hi : i < R.length) (id pr am ra tt tk ar : Int) :
    (((((((w.setCell ⟨g, i * 7, none⟩ (.int .i64 id)).setCell ⟨g, i * 7 + 1, none⟩ (.int .i64 pr)).setCell ⟨g, i * 7 + 2, none⟩ (.int .i64 am)).setCell ⟨g, i * 7 + 3, none⟩ (.int .i64 ra)).setCell ⟨g, i * 7 + 4, none⟩ (.int .i64 tt)).setCell ⟨g, i * 7 + 5, none⟩ (.int .i64 tk)).setCell ⟨g, i * 7 + 6, none⟩ (.int .i64 ar)).ownsRow base 39 7 (.slice (some ⟨g, 0, none⟩) n cap) n ((R.set i ⟨id, pr, am, ra, tt, tk, ar⟩).flatMap odC) := by
  have h7 := own_put (own_put (own_put (own_put (own_put (own_put (own_put h (i * 7) (.int .i64 id)) (i * 7 + 1) (.int .i64 pr)) (i * 7 + 2) (.int .i64 am)) (i * 7 + 3) (.int .i64 ra)) (i * 7 + 4) (.int .i64 tt)) (i * 7 + 5) (.int .i64 tk)) (i * 7 + 6) (.int .i64 ar)
  have hX : ((R.take i).flatMap odC).length = i * 7 := by rw [odC_flat, List.length_take]; omega
  have e := odC_self R i hi
  rw [odC_set R i hi]
  rw [e] at h7
  generalize R.getD i od0 = z at *
  generalize (R.take i).flatMap odC = X at *
  generalize (R.drop (i + 1)).flatMap odC = Y at *
  rw [List.set_append_right _ _ (by omega), List.set_append_right _ _ (by omega), List.set_append_right _ _ (by omega), List.set_append_right _ _ (by omega), List.set_append_right _ _ (by omega), List.set_append_right _ _ (by omega), List.set_append_right _ _ (by omega)] at h7
  rw [show i * 7 - X.length = 0 by omega, show i * 7 + 1 - X.length = 1 by omega, show i * 7 + 2 - X.length = 2 by omega, show i * 7 + 3 - X.length = 3 by omega, show i * 7 + 4 - X.length = 4 by omega, show i * 7 + 5 - X.length = 5 by omega, show i * 7 + 6 - X.length = 6 by omega] at h7
  exact h7
theorem wpList_clearR {P : Program} {ops : Array Oper} {rest : List Oper} {o : Oper} {a : Act} {Q : Exit → Act → World → Prop} (w : World) (hgd : o.guard = none) (s : Operand) (t : TypeId)
    (ho : o.op = .call { callee := .builtin .clear, args := #[s], argTypes := #[t] }) (v : Value) (hs : a.eval s = v) (v' : Value) (w' : World)
    (hr : (Builtin.clear_ #[t] o.type #[v]).run P w = .ok v' w') (h : wpList P ops Q rest (a.put o.dst v') w') : wpList P ops Q (o :: rest) a w := by
  refine wpList_plain hgd fun K hK => ?_
  unfold Oper.wp execOp
  simp only [ho, resolve, invoke, builtin, Sem.run_bind, Sem.run_pure, Result.andThen_ok, List.map_toArray, List.map_cons, List.map_nil, hs, hr]
  exact hK _ _ h
theorem Kp.set7 {N : Nat} {X : Nat → Prop} {a b : World} (h : Kp N X a b) {g : Nat} (hp : N ≤ g ∨ X g) (j0 j1 j2 j3 j4 j5 j6 : Nat) (v0 v1 v2 v3 v4 v5 v6 : Value) :
    Kp N X a (((((((b.setCell ⟨g, j0, none⟩ v0).setCell ⟨g, j1, none⟩ v1).setCell ⟨g, j2, none⟩ v2).setCell ⟨g, j3, none⟩ v3).setCell ⟨g, j4, none⟩ v4).setCell ⟨g, j5, none⟩ v5).setCell ⟨g, j6, none⟩ v6) :=
  Kp.set (Kp.set (Kp.set (Kp.set (Kp.set (Kp.set (Kp.set h (p := ⟨g, j0, none⟩) hp _) (p := ⟨g, j1, none⟩) hp _) (p := ⟨g, j2, none⟩) hp _) (p := ⟨g, j3, none⟩) hp _) (p := ⟨g, j4, none⟩) hp _) (p := ⟨g, j5, none⟩) hp _) (p := ⟨g, j6, none⟩) hp _
theorem OutI.set7 {w : World} {g0 N : Nat} {xs : List Int} (h : OutI w g0 N xs) (g : Nat) (hp : g < N) (hne : g ≠ g0) (j0 j1 j2 j3 j4 j5 j6 : Nat) (v0 v1 v2 v3 v4 v5 v6 : Value) :
    OutI (((((((w.setCell ⟨g, j0, none⟩ v0).setCell ⟨g, j1, none⟩ v1).setCell ⟨g, j2, none⟩ v2).setCell ⟨g, j3, none⟩ v3).setCell ⟨g, j4, none⟩ v4).setCell ⟨g, j5, none⟩ v5).setCell ⟨g, j6, none⟩ v6) g0 N xs :=
  OutI.kp (OutI.kp (OutI.kp (OutI.kp (OutI.kp (OutI.kp (OutI.kp h ⟨g, j0, none⟩ hp hne _) ⟨g, j1, none⟩ hp hne _) ⟨g, j2, none⟩ hp hne _) ⟨g, j3, none⟩ hp hne _) ⟨g, j4, none⟩ hp hne _) ⟨g, j5, none⟩ hp hne _) ⟨g, j6, none⟩ hp hne _
theorem OutI.grown {w w' : World} {g0 N : Nat} {xs : List Int} (h : OutI w g0 N xs) {g : Nat} (hg : w.grownBy w' (some g)) (hp : g < N) (hne : g ≠ g0) : OutI w' g0 N xs := by
  obtain ⟨v, h1, h2⟩ := h.v
  refine ⟨h.lt, v, h1.grown hg (by simpa using Ne.symm hne), h2.kept hg (Or.inr fun he => ?_)⟩
  have := (h2.lt _ he).1
  omega
--%%
def DelR (A : Option Addr) (B : Nat) (l : List Od) (g0 N : Nat) (W : World) (e : Ending) (w' : World) : Prop :=
  (∃ v, e = .returned v ∧ OwnOd w' B v (sweepL l).length (sweepL l) ∧ ∀ g, v.ownBlock = some g → A = some ⟨g, 0, none⟩) ∧ OutI w' g0 N (sweepI l) ∧ Kp N (fun k => k = g0 ∨ A = some ⟨k, 0, none⟩) W w'
theorem getD_drop {R l : List Od} {j : Nat} (h : R.drop j = l.drop j) (hj : j < l.length) : R.getD j od0 = l.getD j od0 := by
  have := congrArg (fun x => x.getD 0 od0) h
  simpa [List.getD, List.getElem?_drop] using this
theorem row_next {R l : List Od} {j : Nat} (hd : R.drop j = l.drop j) (hj : j < l.length) : R.drop (j + 1) = l.drop (j + 1) := by
  have := congrArg (fun x => x.drop 1) hd
  simpa [List.drop_drop] using this
theorem row_put {R l : List Od} {i j : Nat} (z : Od) (hij : i < j) (hR : R.length = l.length) (hj : j < l.length) (ht : R.take i = sweepL (l.take j)) (hz : l.getD j od0 = z) (hg : goneO z = false) (hd : R.drop j = l.drop j) :
    (R.set i z).take (i + 1) = sweepL (l.take (j + 1)) ∧ (R.set i z).drop (j + 1) = l.drop (j + 1) ∧ (R.set i z).length = l.length := by
  refine ⟨?_, ?_, by simpa using hR⟩
  · rw [sweepL_snoc hj, hz, if_neg (by rw [hg]; decide), ← ht, List.take_set, List.take_add_one, List.getElem?_eq_getElem (by omega)]
    have hl : (R.take i).length = i := by rw [List.length_take]; omega
    rw [List.set_append_right _ _ (by omega), hl, Nat.sub_self]
    rfl
  · rw [List.drop_set_of_lt (by omega)]
    exact row_next hd hj
theorem row_skip {R l : List Od} {i j : Nat} (z : Od) (hj : j < l.length) (ht : R.take i = sweepL (l.take j)) (hz : l.getD j od0 = z) (hg : goneO z = true) (hd : R.drop j = l.drop j) :
    R.take i = sweepL (l.take (j + 1)) ∧ R.drop (j + 1) = l.drop (j + 1) := by
  refine ⟨?_, row_next hd hj⟩
  rw [sweepL_snoc hj, hz, if_pos hg, List.append_nil]; exact ht
theorem sweepI_next {l : List Od} {j : Nat} (z : Od) (hj : j < l.length) (hz : l.getD j od0 = z) : sweepI (l.take (j + 1)) = sweepI (l.take j) ++ (if goneO z = true then [z.id] else []) := by rw [sweepI_snoc hj, hz]
--%%
set_option maxRecDepth 100000 in
set_option maxHeartbeats 3200000 in
theorem sdelete_c (A : Option Addr) (n c : Nat) (l : List Od) (B g0 N : Nat) (W : World) (hs : OwnOd W B (.slice A n c) n l) (hg : ∀ g, (Value.slice A n c).ownBlock = some g → g < N ∧ ¬ g = g0) (ho : OutI W g0 N []) (hN : N ≤ W.heap.size) (hn : n ≤ 1000) :
    Calls Tryd.prog 54 #[.slice A n c, .func (Fn.func 55) #[] #[.pointer (some ⟨g0, 0, none⟩)]] W (DelR A B l g0 N W) := by
  have KI := Lib.hid (sidx_c A n c l B g0 N W hs hg ho hN hn)
  have HS := Lib.hid hs
  have HG := Lib.hid hg
  have HL : Hid (n = l.length) := hs.1
  obtain ⟨a, ha⟩ : ∃ a, a = firG l := ⟨_, rfl⟩
  unfold IdxG at KI
  rw [← ha] at KI
  have HA := Lib.hid ha
  clear hs ho hg ha
  go_enter Tryd.func54, Tryd.ntmps54
  go_wp2_with fail
  refine KI.out.mono ?_
  rintro e w1 ⟨⟨h1, rfl, ho1⟩ | ⟨h1, rfl, ho1⟩, hk1⟩
  case inr =>
    have HF : Hid (DelR A B l g0 N W (.returned (.slice A n c)) w1) := by
      have hb := sweep_before (l := l) (k := l.length) (Nat.le_refl _) (fun j hj => firG_lt (by rw [← HA.out, h1, HL.out]; exact hj))
      rw [List.take_length] at hb
      unfold Hid DelR
      rw [hb.1, hb.2]
      refine ⟨⟨_, rfl, ?_, fun g hg => ?_⟩, ho1, hk1.mono fun k hk => Or.inl hk⟩
      · rw [← HL.out]
        exact ⟨HS.out.1, own_kp HS.out.2 hk1 HG.out⟩
      · rcases HS.out.2.2 with hl | ⟨g', cap, cur, he, _⟩
        · rw [hl.1] at hg; cases hg
        · rw [he] at hg
          injection he with he _ _
          rw [he]
          injection hg with hg
          exact congrArg (fun k => some (⟨k, 0, none⟩ : Addr)) hg
    clear h1 ho1 hk1
    go_wp2_with fail
    go_ret
    exact HF.out
  have hbf := sweep_before (l := l) (k := a) (by rw [← HL.out]; omega) (fun j hj => firG_lt (by rw [← HA.out]; exact hj))
  have hat := firG_at (l := l) (by rw [← HA.out, ← HL.out]; exact h1)
  rw [← HA.out] at hat
  have hr1 := own_kp HS.out.2 hk1 HG.out
  obtain ⟨g, cg, hvg, hgB, hgl, hgc, _⟩ := own_form HS.out.2 (by omega)
  injection hvg with e1 _ e2
  subst e1; subst e2
  obtain ⟨hgN, hg0⟩ := HG.out g rfl
  have hal : a < l.length := by rw [← HL.out]; exact h1
  have HO1 : Hid (OutI w1 g0 N (sweepI (l.take (a + 1)))) := by
    unfold Hid
    rw [sweepI_snoc hal, if_pos hat, hbf.2]
    exact ho1
  have HT1 : Hid (l.take a = sweepL (l.take (a + 1))) := by
    unfold Hid
    rw [sweepL_snoc hal, if_pos hat, List.append_nil, hbf.1]
  have HK1 : Hid (Kp N (fun k => k = g0 ∨ (some (⟨g, 0, none⟩ : Addr)) = some ⟨k, 0, none⟩) W w1) := hk1.mono fun k hk => Or.inl hk
  have HR1 := Lib.hid hr1
  have hne : ((a : Int) == -1) = false := by simp
  clear hbf hat hr1 ho1 hk1 hal
  go_wp2_with fail
  go_loopw [5, 6] (fun ci cj wr => ∃ i j : Nat, ∃ R : List Od, ci = .int .i64 i ∧ cj = .int .i64 j ∧ i < j ∧ j ≤ n ∧ Hid (R.length = l.length ∧ R.take i = sweepL (l.take j) ∧ R.drop j = l.drop j) ∧ wr.ownsRow B 39 7 (.slice (some ⟨g, 0, none⟩) n c) n (R.flatMap odC) ∧ OutI wr g0 N (sweepI (l.take j)) ∧ Kp N (fun k => k = g0 ∨ (some (⟨g, 0, none⟩ : Addr)) = some ⟨k, 0, none⟩) W wr) (fun _ cj _ => n - (intOf cj).toNat)
  case atStart => exact ⟨a, a + 1, l, rfl, by go_num, by omega, by omega, ⟨rfl, HT1.out, rfl⟩, HR1.out, HO1.out, HK1.out⟩
  case round =>
    obtain ⟨i, j, R, rfl, rfl, hij, hjn, HRR, hrow, hout, hkp⟩ := hrel
    have HRW := Lib.hid hrow
    have HOU := Lib.hid hout
    have HKP := Lib.hid hkp
    have hsz := hkp.size
    clear hrow hout hkp
    by_cases hj : j < n
    case neg =>
      obtain rfl : j = n := by omega
      obtain ⟨w2, hr2, ho2, hg2⟩ := run_clear_own (P := Tryd.prog) wr 25 39 0 (.agg #[.int .i64 0, .int .i64 0, .int .i64 0, .int .i64 0, .int .i64 0, .int .i64 0, .int .i64 0]) 7 56 Tryd.underlying25 info_state rfl (fun u hu => od_one (l := [od0]) u (by simpa [odC, od0, Value.cells] using hu)) HRW.out i (c - i) (by omega)
      have HR2 := Lib.hid hr2
      have HF : Hid (DelR (some ⟨g, 0, none⟩) B l g0 N W (.returned (.slice (some ⟨g, 0, none⟩) i c)) w2) := by
        have e1 : (R.take i) = sweepL l := by rw [HRR.out.2.1, HL.out, List.take_length]
        have e2 : sweepI (l.take j) = sweepI l := by rw [HL.out, List.take_length]
        have hle : i ≤ R.length := by rw [HRR.out.1, ← HL.out]; omega
        have e3 : i = (sweepL l).length := by rw [← e1, List.length_take]; omega
        refine ⟨⟨_, rfl, ?_, fun g' hg' => congrArg (fun k => some (⟨k, 0, none⟩ : Addr)) (Option.some.inj hg')⟩, by rw [← e2]; exact OutI.grown HOU.out hg2 hgN hg0, HKP.out.trans (Kp.grown hg2 (by omega) (fun k hk => Or.inr (Or.inr (congrArg (fun k => some (⟨k, 0, none⟩ : Addr)) (Option.some.inj hk)))))⟩
        rw [odC_take R i (by omega), e1] at ho2
        rw [← e3]
        exact ⟨e3, ho2⟩
      clear hr2 ho2 hg2
      go_wp2_with (refine wpList_clearR _ rfl _ 25 rfl _ rfl _ w2 HR2.out ?_)
      go_ret
      exact HF.out
    have hjl : j < l.length := by rw [← HL.out]; exact hj
    have hzj := getD_drop HRR.out.2.2 hjl
    have HAT : Hid (∀ q, q < 7 → wr.cell? ⟨g, j * 7 + q, none⟩ = (odC (l.getD j od0))[q]?) := fun q hq => by
      rw [HRW.out.cellAt (j * 7 + q) (by omega), odC_at R j (by rw [HRR.out.1]; exact hjl) q hq, hzj]
    have HPUT := Lib.hid (fun z => row_put (R := R) (l := l) (i := i) (j := j) z hij HRR.out.1 hjl HRR.out.2.1)
    have HSKI := Lib.hid (fun z => row_skip (R := R) (l := l) (i := i) (j := j) z hjl HRR.out.2.1)
    have HNX := Lib.hid (fun z => sweepI_next (l := l) (j := j) z hjl)
    have hls := sweep_len l j (by omega)
    have hil : i < R.length := by rw [HRR.out.1]; omega
    have HIL := Lib.hid hil
    have HLR := Lib.hid HRR.out.1
    have HDR := Lib.hid HRR.out.2.2
    obtain ⟨z, hz⟩ : ∃ z, z = l.getD j od0 := ⟨_, rfl⟩
    have HZ : Hid (l.getD j od0 = z) := hz.symm
    rw [← hz] at HAT
    obtain ⟨id, pr, am, ra, tt, tk, ar⟩ := z
    have c0 : wr.cell? ⟨g, j * 7, none⟩ = some (.int .i64 id) := HAT.out 0 (by decide)
    have c1 : wr.cell? ⟨g, j * 7 + 1, none⟩ = some (.int .i64 pr) := HAT.out 1 (by decide)
    have c2 : wr.cell? ⟨g, j * 7 + 2, none⟩ = some (.int .i64 am) := HAT.out 2 (by decide)
    have c3 : wr.cell? ⟨g, j * 7 + 3, none⟩ = some (.int .i64 ra) := HAT.out 3 (by decide)
    have c4 : wr.cell? ⟨g, j * 7 + 4, none⟩ = some (.int .i64 tt) := HAT.out 4 (by decide)
    have c5 : wr.cell? ⟨g, j * 7 + 5, none⟩ = some (.int .i64 tk) := HAT.out 5 (by decide)
    have c6 : wr.cell? ⟨g, j * 7 + 6, none⟩ = some (.int .i64 ar) := HAT.out 6 (by decide)
    have hb2 := below1 wr (.cells #[.int .i64 id, .int .i64 pr, .int .i64 am, .int .i64 ra, .int .i64 tt, .int .i64 tk, .int .i64 ar] 39)
    have HB2 := Lib.hid hb2
    have KS := Lib.hid (sgone_c id pr am ra tt tk ar g0 N (sweepI (l.take j)) (wr.alloc (.cells #[.int .i64 id, .int .i64 pr, .int .i64 am, .int .i64 ra, .int .i64 tt, .int .i64 tk, .int .i64 ar] 39)) (HOU.out.t hb2) (by have := hb2.size; omega) (by omega))
    obtain ⟨gb, hgb⟩ : ∃ b, b = goneO ⟨id, pr, am, ra, tt, tk, ar⟩ := ⟨_, rfl⟩
    have HGB : Hid (goneO ⟨id, pr, am, ra, tt, tk, ar⟩ = gb) := hgb.symm
    unfold GoneR at KS
    rw [← hgb] at KS
    have HN2 : Hid (sweepI (l.take (j + 1)) = sweepI (l.take j) ++ (if gb = true then [id] else [])) := by
      unfold Hid; rw [HNX.out _ HZ.out, HGB.out]
    clear hzj HNX hls hil hz hgb HRR hb2
    go_wp2_with fail
    refine KS.out.mono ?_
    rintro e w2 ⟨rfl, ho2, hk2, hblk⟩
    have HO2 : Hid (OutI w2 g0 N (sweepI (l.take (j + 1)))) := by unfold Hid; rw [HN2.out]; exact ho2
    have hka : Kp N (fun k => k = g0) wr w2 := (Kp.below HB2.out (by omega)).trans hk2
    have HK2 := Lib.hid (HKP.out.trans (hka.mono fun k hk => Or.inl hk))
    have hrow2 : w2.ownsRow B 39 7 (.slice (some ⟨g, 0, none⟩) n c) n (R.flatMap odC) := own_kp HRW.out hka (fun g' hg' => by
      obtain rfl : g = g' := Option.some.inj hg'
      exact ⟨hgN, hg0⟩)
    have HR2 := Lib.hid hrow2
    cases gb
    · have hp := HPUT.out _ HZ.out HGB.out HDR.out
      have HP := Lib.hid hp
      have y := hblk _ _ (Blk.mk wr 39 #[.int .i64 id, .int .i64 pr, .int .i64 am, .int .i64 ra, .int .i64 tt, .int .i64 tk, .int .i64 ar])
      obtain ⟨y0, y1, y2, y3, y4, y5, y6⟩ := y.a7
      obtain ⟨f0, f1, f2, f3, f4, f5, f6⟩ : w2.frozen? ⟨g, i * 7, none⟩ = false ∧ w2.frozen? ⟨g, i * 7 + 1, none⟩ = false ∧ w2.frozen? ⟨g, i * 7 + 2, none⟩ = false ∧ w2.frozen? ⟨g, i * 7 + 3, none⟩ = false ∧ w2.frozen? ⟨g, i * 7 + 4, none⟩ = false ∧ w2.frozen? ⟨g, i * 7 + 5, none⟩ = false ∧ w2.frozen? ⟨g, i * 7 + 6, none⟩ = false := ⟨hrow2.frozenAt _, hrow2.frozenAt _, hrow2.frozenAt _, hrow2.frozenAt _, hrow2.frozenAt _, hrow2.frozenAt _, hrow2.frozenAt _⟩
      have hri : ∀ q, q < 7 → w2.cell? ⟨g, i * 7 + q, none⟩ = (odC (R.getD i od0))[q]? := fun q hq => by
        rw [hrow2.cellAt (i * 7 + q) (by omega), odC_at R i HIL.out q hq]
      generalize R.getD i od0 = zi at hri
      obtain ⟨i0, i1, i2, i3, i4, i5, i6⟩ := zi
      have d0 : w2.cell? ⟨g, i * 7, none⟩ = some (.int .i64 i0) := hri 0 (by decide)
      have d1 : w2.cell? ⟨g, i * 7 + 1, none⟩ = some (.int .i64 i1) := hri 1 (by decide)
      have d2 : w2.cell? ⟨g, i * 7 + 2, none⟩ = some (.int .i64 i2) := hri 2 (by decide)
      have d3 : w2.cell? ⟨g, i * 7 + 3, none⟩ = some (.int .i64 i3) := hri 3 (by decide)
      have d4 : w2.cell? ⟨g, i * 7 + 4, none⟩ = some (.int .i64 i4) := hri 4 (by decide)
      have d5 : w2.cell? ⟨g, i * 7 + 5, none⟩ = some (.int .i64 i5) := hri 5 (by decide)
      have d6 : w2.cell? ⟨g, i * 7 + 6, none⟩ = some (.int .i64 i6) := hri 6 (by decide)
      have k0 : (0 : Int) ≤ (i : Int) := by omega
      have k1 : (i : Int) < (n : Int) := by omega
      have k2 : ((i : Int)).toNat = i := by omega
      clear ho2 hk2 hblk hka hrow2 hp y hri
      go_wp2_with fail
      go_roundw
      case rel =>
        refine ⟨i + 1, j + 1, R.set i ⟨id, pr, am, ra, tt, tk, ar⟩, by go_num, by go_num, by omega, by omega, ⟨HP.out.2.2, HP.out.1, HP.out.2.1⟩, ?_, ?_, ?_⟩
        · exact own_put7 HR2.out i HIL.out id pr am ra tt tk ar
        · exact OutI.set7 HO2.out g hgN hg0 _ _ _ _ _ _ _ _ _ _ _ _ _ _
        · exact Kp.set7 HK2.out (Or.inr (Or.inr rfl)) _ _ _ _ _ _ _ _ _ _ _ _ _ _
      case measure => simp [intOf]; omega
    · have hp := HSKI.out _ HZ.out HGB.out HDR.out
      have HP := Lib.hid hp
      clear ho2 hk2 hblk hka hrow2 hp
      go_wp2_with fail
      go_roundw
      case rel => exact ⟨i, j + 1, R, rfl, by go_num, by omega, by omega, ⟨HLR.out, HP.out.1, HP.out.2⟩, HR2.out, HO2.out, HK2.out⟩
      case measure => simp [intOf]; omega
--%%
end Go.Proofs.YtfhbnojhmeodiaaDoor
