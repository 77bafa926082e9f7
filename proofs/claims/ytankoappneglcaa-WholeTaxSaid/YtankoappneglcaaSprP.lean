/-
  A year of one code: what was taxable, in whichever period. Words on two rows of one type. Conditions as named.
-/
import Derived.Test.YtankoappneglcaaTax5
import Derived.Test.YtankoappneglcaaTopP
namespace Go.Proofs.Ytankoappneglcaa
set_option linter.unusedVariables false
open Go.RowKit
/-- a cell of a row of the call's own, written -/
theorem own_set {w : World} {base size n cap g : Nat} {e : TypeId} {xs : List Value} (h : w.ownsRow base e size (.slice (some ⟨g, 0, none⟩) n cap) n xs) (j : Nat) (hj : j < n * size) (u : Value) :
    (w.setCell ⟨g, j, none⟩ u).ownsRow base e size (.slice (some ⟨g, 0, none⟩) n cap) n (xs.set j u) := by
  obtain ⟨h1, h2 | ⟨g', cap', cur, hv, hb, hg, hle, hm, hs, ht⟩⟩ := h
  · cases h2.1
  · injection hv with hA _ hc
    injection hA with hA
    injection hA with hg' _
    subst hg'
    subst hc
    refine ⟨by rw [List.length_set]; exact h1, Or.inr ⟨g, cap, cur.setIfInBounds j u, rfl, hb, heap_setCell_same w g j cur e u hg, hle, hm, by simpa using hs, ?_⟩⟩
    rw [← ht]
    simp [List.take_set]
theorem grown_set (W : World) (b j : Nat) (v : Value) : W.grownBy (W.setCell ⟨b, j, none⟩ v) (some b) :=
  ⟨rfl, rfl, rfl, by simp [World.setCell], fun k _ hne => heap_setCell_other W ⟨b, j, none⟩ k v (fun h => hne (by rw [h]))⟩
theorem own_row {w : World} {base size n cap g : Nat} {e : TypeId} {xs : List Value} (h : w.ownsRow base e size (.slice (some ⟨g, 0, none⟩) n cap) n xs) : (∀ j, j < n * size → w.cell? ⟨g, j, none⟩ = xs[j]?) ∧ ∀ j, w.frozen? ⟨g, j, none⟩ = false := by
  refine ⟨fun j hj => h.cellAt j hj, fun j => ?_⟩
  obtain ⟨h1, h2 | ⟨g', cap', cur, hv, hb, hg, hle, hm, hs, ht⟩⟩ := h
  · cases h2.1
  · injection hv with hA _ hc
    injection hA with hA
    injection hA with hg' _
    subst hg'
    exact frozen_of_row w g j cur e hg
/-- two rows in different blocks -/
def Apart (a b : Value) : Prop := ∀ g, a.ownBlock = some g → b.ownBlock ≠ some g
theorem apart_keep {w w' : World} {a b : Value} {base size n : Nat} {e : TypeId} {xs : List Value} (hd : Apart a b) (hb : w.ownsRow base e size b n xs) (hg : w.grownBy w' a.ownBlock) : w'.ownsRow base e size b n xs := by
  refine hb.kept hg ?_
  cases h : b.ownBlock with
  | none => exact Or.inl rfl
  | some g => exact Or.inr fun he => hd g he.symm h
theorem apart_keep' {w w' : World} {a b : Value} {base size n : Nat} {e : TypeId} {xs : List Value} (hd : Apart a b) (ha : w.ownsRow base e size a n xs) (hg : w.grownBy w' b.ownBlock) : w'.ownsRow base e size a n xs := by
  refine ha.kept hg ?_
  cases h : a.ownBlock with
  | none => exact Or.inl rfl
  | some g => exact Or.inr fun he => hd g h he.symm
theorem apart_l {w : World} {a a' b : Value} {base size n : Nat} {e : TypeId} {xs : List Value} {z : Nat} (hd : Apart a b) (hb : w.ownsRow base e size b n xs) (h : a'.ownBlock = a.ownBlock ∨ a'.ownBlock = some z) (hz : w.heap.size ≤ z) : Apart a' b := by
  intro g hg hbg
  rcases h with h | h
  · exact hd g (h ▸ hg) hbg
  · rw [h] at hg
    injection hg with hg
    have := (hb.lt g hbg).2
    omega
theorem apart_r {w : World} {a b b' : Value} {base size n : Nat} {e : TypeId} {xs : List Value} {z : Nat} (hd : Apart a b) (ha : w.ownsRow base e size a n xs) (h : b'.ownBlock = b.ownBlock ∨ b'.ownBlock = some z) (hz : w.heap.size ≤ z) : Apart a b' := by
  intro g hg hbg
  rcases h with h | h
  · exact hd g hg (h ▸ hbg)
  · rw [h] at hbg
    injection hbg with hbg
    have := (ha.lt g hg).2
    omega
--%%
def OwnSt (w : World) (base : Nat) (v : Value) (n : Nat) (l : List St) : Prop := n = l.length ∧ w.ownsRow base 42 6 v n (l.flatMap stC)
theorem info_step : (Try.prog.info? 42).map (fun i => (i.zero, i.size, i.bytes)) = some (some (.agg #[.int .i64 0, .int .i64 0, .int .i64 0, .int .i64 0, .bool false, .int .i64 0]), 6, 48) := by kernel_rfl
theorem OwnSt.sl {w : World} {base : Nat} {v : Value} {n : Nat} {l : List St} (h : OwnSt w base v n l) : ∃ A c, v = .slice A n c ∧ StSl w A n l := by
  obtain ⟨A, c, rfl, _, hs⟩ := own_sl stC 6 st0 stC_len h.2 h.1 (by decide)
  exact ⟨A, c, rfl, hs⟩
def sumI1 (l : List Int) : Nat → Int
  | 0 => 0
  | k + 1 => sumI1 l k + l.getD k 0
theorem sumI1_bd (l : List Int) (n : Nat) (h : ∀ j, j < n → -1000000000 ≤ l.getD j 0 ∧ l.getD j 0 ≤ 1000000000) : ∀ k, k ≤ n → -(k * 1000000000 : Int) ≤ sumI1 l k ∧ sumI1 l k ≤ k * 1000000000 := by
  intro k
  induction k with
  | zero => intro _; simp [sumI1]
  | succ k ih =>
    intro hk
    have h1 := ih (by omega)
    have h2 := h k (by omega)
    rw [sumI1]
    omega
def stA (c : Cd) (l : List Int) (k : Nat) : List St := (l.take k).map fun x => ⟨c, x⟩
def stB (c : Cd) (k : Nat) : List St := List.replicate k ⟨c, 0⟩
def stE (c : Cd) (n : Nat) (s : Int) : List St := ⟨c, s⟩ :: List.replicate (n - 1) ⟨c, 0⟩
theorem stA_snoc (c : Cd) (l : List Int) (k : Nat) (h : k < l.length) : stA c l (k + 1) = stA c l k ++ [⟨c, l.getD k 0⟩] := map_take_snoc (fun x : Int => (⟨c, x⟩ : St)) l k 0 h
theorem stB_snoc (c : Cd) (k : Nat) : stB c (k + 1) = stB c k ++ [⟨c, 0⟩] := by simp [stB, List.replicate_succ']
theorem stB_set (c : Cd) (k : Nat) (s : Int) (h : 0 < k) : ((stB c k).flatMap stC).set 5 (.int .i64 s) = (stE c k s).flatMap stC := by
  obtain ⟨j, rfl⟩ : ∃ j, k = j + 1 := ⟨k - 1, by omega⟩
  rw [stB, stE, List.replicate_succ, List.flatMap_cons, List.flatMap_cons]
  simp [stC]
theorem stA_get (c : Cd) (l : List Int) (k j : Nat) (hk : k ≤ l.length) (h : j < k) : (stA c l k).getD j st0 = ⟨c, l.getD j 0⟩ := by
  simp [stA, List.getD, h, List.getElem?_eq_getElem (show j < l.length by omega)]
theorem stE_get (c : Cd) (n : Nat) (s : Int) (j : Nat) (h : j < n) : (stE c n s).getD j st0 = ⟨c, if j = 0 then s else 0⟩ := by
  cases j with
  | zero => simp [stE]
  | succ j => simp [stE, List.getD, show j < n - 1 by omega]
theorem stA_sum (c : Cd) (l : List Int) (k : Nat) (hk : k ≤ l.length) : ∀ j, j ≤ k → sumX (stA c l k) j = sumI1 l j := by
  intro j
  induction j with
  | zero => intro _; rfl
  | succ j ih =>
    intro hj
    rw [sumX, sumI1, ih (by omega), stA_get c l k j hk (by omega)]
theorem stE_sum (c : Cd) (n : Nat) (s : Int) : ∀ j, j ≤ n → sumX (stE c n s) j = if j = 0 then 0 else s := by
  intro j
  induction j with
  | zero => intro _; rfl
  | succ j ih =>
    intro hj
    rw [sumX, ih (by omega), stE_get c n s j (by omega)]
    by_cases h : j = 0
    · simp [h]
    · simp [h]
theorem exE_zero2 {sch : List (List Bd)} {c : Cd} {n d : Int} (h : fitE sch c = 0) (hp : partB n d = true) (tx : Int) (h1 : -90000000000 ≤ tx) (h2 : tx ≤ 90000000000) : exE sch c tx n d = 0 := by
  have hc := (fit_ok h).1
  have hf := free_bd c n d hc hp
  unfold exE
  rw [if_neg (by simpa using h)]
  unfold chargeE
  rw [if_neg (by simpa using hc), if_neg (by rw [hp]; decide)]
  have m1 := mr_t (x := tx) (by omega)
  have m2 := mr_t (x := tx - freeI c.k c.a n d) (by omega)
  by_cases h4 : c.k = 4
  · rw [if_pos h4, if_pos m1]
  · rw [if_neg h4, if_pos (show mrB tx = true ∧ mrB (tx - freeI c.k c.a n d) = true from ⟨m1, m2⟩)]
/-- a year of one code that doesn't stand alone: nothing is refused, and what is due hangs on the sum -/
theorem year_of {sch : List (List Bd)} {rnd nom : Int} {c : Cd} (hfit : fitE sch c = 0) (hal : c.al = false) (hnom : 1 ≤ nom ∧ nom ≤ 1000) (l : List St) (n : Nat) (hc : ∀ j, j < n → (l.getD j st0).c = c) (hx : ∀ j, j < n → -80000000000 ≤ (l.getD j st0).x ∧ (l.getD j st0).x ≤ 80000000000)
    (hs : ∀ j, j ≤ n → -80000000000 ≤ sumX l j ∧ sumX l j ≤ 80000000000) (k : Nat) (hk : k < n) : yE sch rnd nom l k = 0 ∧ dueA sch rnd nom l (k + 1) = dueV sch rnd c (sumX l (k + 1)) (min ((k : Int) + 1) nom) nom := by
  have h1 := hs k (by omega)
  have h2 := hx k hk
  have h3 := hs (k + 1) (by omega)
  have hcc := hc k hk
  have e : sumX l (k + 1) = sumX l k + (l.getD k st0).x := rfl
  constructor
  · unfold yE
    rw [if_pos ⟨mr_t (by omega), mr_t (by omega), mr_t (by rw [← e]; omega)⟩]
    unfold nextE
    rw [hcc, if_pos hal, ← e]
    exact exE_zero2 hfit (partB_iff.2 (by omega)) _ (by omega) (by omega)
  · rw [dueA]
    unfold nextV
    rw [hcc, if_pos hal, ← e]
theorem exV_le (sch : List (List Bd)) (c : Cd) (tx n d : Int) (hok : ∀ k, k < sch.length → bandsErr (sch.getD k []) = 0) (hr : exE sch c tx n d = 0) : exV sch c tx n d ≤ chargeV c tx n d * 10000 := by
  unfold exE at hr
  by_cases h1 : fitE sch c = 0
  case neg =>
    rw [if_pos h1] at hr
    exact absurd hr h1
  rw [if_neg (by simpa using h1)] at hr
  obtain ⟨hc0, hs0, hs1, hf0, hf3⟩ := fit_ok h1
  obtain ⟨hp, hv0, hv1, _⟩ := charge_ok hr
  have hBE := hok c.s.toNat (by omega)
  have g := goodB _ hBE
  unfold exV
  generalize chargeV c tx n d = x at *
  by_cases h4 : c.k = 4
  · rw [if_pos h4]; omega
  rw [if_neg h4]
  by_cases h3 : c.k = 3
  · rw [if_pos h3]
    have hf := hf3 h3
    have := g.r c.f.toNat (by omega)
    exact Int.mul_le_mul_of_nonneg_left this.2 hv0
  · rw [if_neg h3, ← scale_val hBE n d x hp]
    have h5 := bandS_top _ (scale_err hBE n d hp) x hv0
    have h6 := top_bd _ _ (goodB _ (scale_err hBE n d hp)).r
    have h7 := Int.mul_le_mul_of_nonneg_left h6.2 hv0
    omega
theorem due_bd (sch : List (List Bd)) (rnd : Int) (c : Cd) (tx n d : Int) (hok : ∀ k, k < sch.length → bandsErr (sch.getD k []) = 0) (hr : exE sch c tx n d = 0) : 0 ≤ dueV sch rnd c tx n d ∧ dueV sch rnd c tx n d ≤ chargeV c tx n d + 1 := by
  have h1 := exV_le sch c tx n d hok hr
  have h2 := exV_bd sch c tx n d hok hr
  unfold dueV roundI
  have h3 : 0 ≤ exV sch c tx n d / 10000 := by omega
  have h4 : exV sch c tx n d / 10000 ≤ chargeV c tx n d := by omega
  split <;> omega
theorem charge_bd (sch : List (List Bd)) (c : Cd) (tx n d : Int) (hfit : fitE sch c = 0) (hp : partB n d = true) : chargeV c tx n d ≤ max 0 tx + 999999000 := by
  have := free_bd c n d (fit_ok hfit).1 hp
  unfold chargeV
  split <;> omega
--%%
end Go.Proofs.Ytankoappneglcaa
