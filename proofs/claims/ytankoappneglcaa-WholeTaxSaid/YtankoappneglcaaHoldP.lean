/-
  Plain: what is withheld, period by period, and what is carried. No program.
-/
import Derived.Test.YtankoappneglcaaTake
namespace Go.Proofs.Ytankoappneglcaa
set_option linter.unusedVariables false
/-- what was withheld so far, and what is carried -/
structure Hs where
  w : Int
  s : Int
/-- a period: its cash, what is due by its end, whether something may be paid back -/
structure Py where
  c : Int
  d : Int
  b : Bool
def py0 : Py := ⟨0, 0, false⟩
def limI (lim cash : Int) : Int := max 0 cash * lim / 10000
def partI (need limit : Int) (back : Bool) : Int := if back = true then min need limit else max 0 (min need limit)
def heldI (lim : Int) (z : Hs) (p : Py) : Int := partI (p.d - z.w) (limI lim p.c) p.b
def stepH (lim : Int) (z : Hs) (p : Py) : Hs := ⟨z.w + heldI lim z p, p.d - z.w - heldI lim z p⟩
def stateA (lim : Int) (l : List Py) : Nat → Hs
  | 0 => ⟨0, 0⟩
  | k + 1 => stepH lim (stateA lim l k) (l.getD k py0)
def heldA (lim : Int) (l : List Py) (k : Nat) : Int := heldI lim (stateA lim l k) (l.getD k py0)
def heldL (lim : Int) (l : List Py) (n : Nat) : List Int := (List.range n).map (heldA lim l)
theorem heldL_snoc (lim : Int) (l : List Py) (n : Nat) : heldL lim l (n + 1) = heldL lim l n ++ [heldA lim l n] := by simp [heldL, List.range_succ]
theorem heldL_len (lim : Int) (l : List Py) (n : Nat) : (heldL lim l n).length = n := by simp [heldL]
theorem heldL_get (lim : Int) (l : List Py) (n k : Nat) (h : k < n) : (heldL lim l n).getD k 0 = heldA lim l k := by simp [heldL, List.getD, h]
/-- amounts with which nothing comes near the most -/
structure HsOK (z : Hs) : Prop where
  w : 0 ≤ z.w ∧ z.w ≤ 40000000000
  s : -40000000000 ≤ z.s ∧ z.s ≤ 40000000000
structure PyOK (p : Py) : Prop where
  c : -100000000000 ≤ p.c ∧ p.c ≤ 100000000000
  d : 0 ≤ p.d ∧ p.d ≤ 40000000000
theorem lim_bd {lim cash : Int} (hl : 0 ≤ lim ∧ lim ≤ 10000) (hc : cash ≤ 100000000000) : 0 ≤ limI lim cash ∧ limI lim cash ≤ max 0 cash := by
  unfold limI
  have h0 : 0 ≤ max 0 cash := by omega
  have h1 : 0 ≤ max 0 cash * lim := Int.mul_nonneg h0 hl.1
  have h2 : max 0 cash * lim ≤ max 0 cash * 10000 := Int.mul_le_mul_of_nonneg_left hl.2 h0
  exact ⟨Int.ediv_nonneg h1 (by decide), Int.ediv_le_of_le_mul (by decide) h2⟩
theorem part_le {need limit : Int} {back : Bool} (h : 0 ≤ limit) : partI need limit back ≤ limit := by
  unfold partI
  split <;> omega
theorem part_pos {need limit : Int} : 0 ≤ partI need limit false := by
  unfold partI
  rw [if_neg (by decide)]; omega
theorem part_cases {need limit : Int} {back : Bool} (h : 0 ≤ limit) : (partI need limit back = need ∧ need ≤ limit) ∨ (partI need limit back = limit ∧ limit < need) ∨ (partI need limit back = 0 ∧ need < 0) := by
  unfold partI
  split <;> omega
structure StepBd (lim : Int) (z : Hs) (p : Py) : Prop where
  l : 0 ≤ limI lim p.c ∧ limI lim p.c ≤ 100000000000
  n : -40000000000 ≤ p.d - z.w ∧ p.d - z.w ≤ 40000000000
  h : -40000000000 ≤ heldI lim z p ∧ heldI lim z p ≤ 40000000000
  ok : HsOK (stepH lim z p)
theorem step_bd {lim : Int} {z : Hs} {p : Py} (hl : 0 ≤ lim ∧ lim ≤ 10000) (hz : HsOK z) (hp : PyOK p) : StepBd lim z p := by
  have hw := hz.w
  have hd := hp.d
  have hc := hp.c
  have h1 := lim_bd hl hc.2
  have h2 := part_cases (need := p.d - z.w) (back := p.b) h1.1
  have e : heldI lim z p = partI (p.d - z.w) (limI lim p.c) p.b := rfl
  have hh : (heldI lim z p = p.d - z.w) ∨ (heldI lim z p = limI lim p.c ∧ limI lim p.c < p.d - z.w) ∨ (heldI lim z p = 0 ∧ p.d - z.w < 0) := by
    rw [e]; omega
  clear h2 e
  have e1 : (stepH lim z p).w = z.w + heldI lim z p := rfl
  have e2 : (stepH lim z p).s = p.d - z.w - heldI lim z p := rfl
  refine ⟨⟨h1.1, by omega⟩, by omega, by omega, ?_, ?_⟩
  · rw [e1]; omega
  · rw [e2]; omega
theorem state_ok {lim : Int} {l : List Py} (hl : 0 ≤ lim ∧ lim ≤ 10000) : ∀ k, (∀ j, j < k → PyOK (l.getD j py0)) → HsOK (stateA lim l k) := by
  intro k
  induction k with
  | zero => exact fun _ => ⟨⟨Int.le_refl _, (by decide : (0 : Int) ≤ 40000000000)⟩, ⟨(by decide : (-40000000000 : Int) ≤ 0), (by decide : (0 : Int) ≤ 40000000000)⟩⟩
  | succ k ih => exact fun h => (step_bd hl (ih fun j hj => h j (by omega)) (h k (by omega))).ok
/-- withheld and carried are what is due -/
theorem state_due (lim : Int) (l : List Py) (k : Nat) : (stateA lim l (k + 1)).w + (stateA lim l (k + 1)).s = (l.getD k py0).d := by
  show _ + heldI _ _ _ + (_ - _ - heldI _ _ _) = _
  omega
theorem held_le {lim : Int} (hl : 0 ≤ lim ∧ lim ≤ 10000) (l : List Py) (k : Nat) (hc : (l.getD k py0).c ≤ 100000000000) : heldA lim l k ≤ limI lim (l.getD k py0).c := part_le (lim_bd hl hc).1
theorem held_pos {lim : Int} (l : List Py) (k : Nat) (hb : (l.getD k py0).b = false) : 0 ≤ heldA lim l k := by
  unfold heldA heldI
  rw [hb]; exact part_pos
theorem held_short {lim : Int} (hl : 0 ≤ lim ∧ lim ≤ 10000) (l : List Py) (k : Nat) (hc : (l.getD k py0).c ≤ 100000000000) (hs : 0 < (stateA lim l (k + 1)).s) : heldA lim l k = limI lim (l.getD k py0).c := by
  have h : 0 < (l.getD k py0).d - (stateA lim l k).w - heldA lim l k := hs
  have h2 := part_cases (need := (l.getD k py0).d - (stateA lim l k).w) (back := (l.getD k py0).b) (lim_bd hl hc).1
  have e : heldA lim l k = partI ((l.getD k py0).d - (stateA lim l k).w) (limI lim (l.getD k py0).c) (l.getD k py0).b := rfl
  rw [← e] at h2
  omega
theorem last_short {lim : Int} (hl : 0 ≤ lim ∧ lim ≤ 10000) (l : List Py) (k : Nat) (hb : (l.getD k py0).b = true) (hc : (l.getD k py0).c ≤ 100000000000) (hz : HsOK (stateA lim l k)) (hs : (stateA lim l (k + 1)).s ≠ 0) :
    0 < (stateA lim l (k + 1)).s ∧ limI lim (l.getD k py0).c < (l.getD k py0).d := by
  have e1 : (stateA lim l (k + 1)).s = (l.getD k py0).d - (stateA lim l k).w - heldA lim l k := rfl
  have e : heldA lim l k = min ((l.getD k py0).d - (stateA lim l k).w) (limI lim (l.getD k py0).c) := by
    show partI _ _ _ = _
    unfold partI
    rw [hb, if_pos rfl]
  have hw := hz.w
  rw [e1] at hs ⊢
  omega
/-- what comes behind does not turn what was -/
theorem state_app (lim : Int) (l m : List Py) : ∀ k, k ≤ l.length → stateA lim (l ++ m) k = stateA lim l k := by
  intro k
  induction k with
  | zero => intro _; rfl
  | succ k ih =>
    intro hk
    show stepH lim (stateA lim (l ++ m) k) ((l ++ m).getD k py0) = stepH lim (stateA lim l k) (l.getD k py0)
    rw [ih (by omega)]
    have : (l ++ m).getD k py0 = l.getD k py0 := by simp [List.getD, List.getElem?_append_left (show k < l.length by omega)]
    rw [this]
end Go.Proofs.Ytankoappneglcaa
