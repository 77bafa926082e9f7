/-
  A scope with several labels, jumped to from wherever: what holds at each label, and a measure. No program, no conditions beyond those named.
-/
import Derived.Test.YtohdmfedappenaaDoorVoc3
import Derived.ScopeJumps
namespace Go.Proofs.YtohdmfedappenaaDoor
set_option linter.unusedVariables false
open Go.RowKit
/-- as Q; by a goto to a label: what holds there -/
def Exit.jumps (J : Nat → Act → World → Prop) (Q : Exit → Act → World → Prop) : Exit → Act → World → Prop
  | .goto l, a, w => J l a w
  | e, a, w => Q e a w
theorem Exit.jumps_ret {J : Nat → Act → World → Prop} {Q : Exit → Act → World → Prop} : Exit.jumps J Q .ret = Q .ret := rfl
theorem Exit.jumps_goto {J : Nat → Act → World → Prop} {Q : Exit → Act → World → Prop} (l : Nat) (a : Act) (w : World) : Exit.jumps J Q (.goto l) a w = J l a w := rfl
theorem jumps_mono {J J' : Nat → Act → World → Prop} {Q : Exit → Act → World → Prop} (h : ∀ l a w, J l a w → J' l a w) : ∀ e a w, Exit.jumps J Q e a w → Exit.jumps J' Q e a w := by
  intro e a w hh
  cases e with
  | goto l => exact h l a w hh
  | normal => exact hh
  | exit id => exact hh
  | ret => exact hh
  | panic ch => exact hh
  | outgrown => exact hh
section
variable {P : Program} {a : Act} {w : World} {Q : Exit → Act → World → Prop}
theorem wp_scope_many {c : Code} (R : Nat → Code) (J : Nat → Act → World → Prop) (μ : Nat → Act → World → Nat) (hf : ∀ l a w, J l a w → findLabel c l = some (.seq .skip (R l)))
    (first : c.wp P (Exit.jumps J Q) a w)
    (pass : ∀ l a w, J l a w → (R l).wp P (Exit.jumps (fun l' a' w' => J l' a' w' ∧ μ l' a' w' < μ l a w) Q) a w) : (Code.scope c).wp P Q a w := by
  have sk : ∀ {r : Code} {Q : Exit → Act → World → Prop} {a : Act} {w : World}, r.wp P Q a w → (Code.seq .skip r).wp P Q a w := fun h => wp_seq (wp_skip h)
  intro b k cs
  have hg : ∀ l a w, J l a w → gotoIn l (.inScope c :: k) = some (.code (.seq .skip (R l)) :: .inScope c :: k) := fun l a w h => by simp [gotoIn, hf l a w h]
  have key : ∀ n l a w, μ l a w = n → J l a w → ∃ e a' w', Q e a' w' ∧ Arrives P (lone (b.at a (.code (.seq .skip (R l)) :: .inScope c :: k)) cs w) b k cs e a' w' := by
    intro n
    induction n using Nat.strongRecOn with
    | _ n ih =>
      intro l a w hn hJ
      obtain ⟨e, a₁, w₁, hq, harr⟩ := sk (pass l a w hJ) b (.inScope c :: k) cs
      cases e with
      | normal => exact ⟨.normal, a₁, w₁, hq, Steps.trans harr (.one step_inScope)⟩
      | exit id => exact ⟨.exit id, a₁, w₁, hq, fun k' hk => harr k' (by simp [exitTo, hk])⟩
      | goto l' =>
        obtain ⟨hJ', hlt⟩ := hq
        obtain ⟨e₂, a₂, w₂, hq₂, harr₂⟩ := ih _ (by omega) l' a₁ w₁ rfl hJ'
        exact ⟨e₂, a₂, w₂, hq₂, .of_steps (harr _ (hg l' a₁ w₁ hJ')) harr₂⟩
      | ret => exact ⟨_, a₁, w₁, hq, harr⟩
      | panic ch => exact ⟨_, a₁, w₁, hq, harr⟩
      | outgrown => exact ⟨_, a₁, w₁, hq, harr⟩
  obtain ⟨e, a₁, w₁, hq, harr⟩ := first b (.inScope c :: k) cs
  cases e with
  | normal => exact ⟨.normal, a₁, w₁, hq, .head step_scope (Steps.trans harr (.one step_inScope))⟩
  | exit id => exact ⟨.exit id, a₁, w₁, hq, fun k' hk => .head step_scope (harr k' (by simp [exitTo, hk]))⟩
  | goto l' =>
    have hJ' : J l' a₁ w₁ := hq
    obtain ⟨e₂, a₂, w₂, hq₂, harr₂⟩ := key _ l' a₁ w₁ rfl hJ'
    exact ⟨e₂, a₂, w₂, hq₂, .of_steps (.head step_scope (harr _ (hg l' a₁ w₁ hJ'))) harr₂⟩
  | ret => exact ⟨_, a₁, w₁, hq, .of_steps (.one step_scope) harr⟩
  | panic ch => exact ⟨_, a₁, w₁, hq, .of_steps (.one step_scope) harr⟩
  | outgrown => exact ⟨_, a₁, w₁, hq, .of_steps (.one step_scope) harr⟩
/-- what stands behind a label -/
def labelRest (c : Code) (l : Nat) : Code := match findLabel c l with
  | some (.seq _ r) => r
  | _ => .skip
theorem wp_of_find {c r : Code} {l : Nat} (h : findLabel c l = some (.seq .skip r)) (hr : r.wp P Q a w) : (labelRest c l).wp P Q a w := by
  have e : labelRest c l = r := by unfold labelRest; rw [h]
  rw [e]; exact hr
theorem find_wp {c r : Code} {l : Nat} (h : findLabel c l = some (.seq .skip r)) (hr : (labelRest c l).wp P Q a w) : r.wp P Q a w := by
  have e : labelRest c l = r := by unfold labelRest; rw [h]
  rw [← e]; exact hr
/-- .. where a pass that comes to the next label by falling through hands on to it -/
theorem wp_scope_labels {c : Code} (J : Nat → Act → World → Prop) (μ : Nat → Act → World → Nat) (hf0 : ∀ l a w, J l a w → ∃ r, findLabel c l = some (.seq .skip r))
    (pass : ∀ l a w, J l a w → (∀ l' a' w', J l' a' w' → μ l' a' w' < μ l a w → (labelRest c l').wp P (Exit.jumps (fun l'' a'' w'' => J l'' a'' w'' ∧ μ l'' a'' w'' < μ l a w) Q) a' w') → (labelRest c l).wp P (Exit.jumps (fun l' a' w' => J l' a' w' ∧ μ l' a' w' < μ l a w) Q) a w)
    (first : (∀ l a w, J l a w → (labelRest c l).wp P (Exit.jumps J Q) a w) → c.wp P (Exit.jumps J Q) a w) : (Code.scope c).wp P Q a w := by
  have hf : ∀ l a w, J l a w → findLabel c l = some (.seq .skip (labelRest c l)) := fun l a w h => by
    obtain ⟨r, hr⟩ := hf0 l a w h
    have e : labelRest c l = r := by unfold labelRest; rw [hr]
    rw [e]; exact hr
  generalize labelRest c = R at *
  have all : ∀ n l a w, μ l a w = n → J l a w → (R l).wp P (Exit.jumps (fun l' a' w' => J l' a' w' ∧ μ l' a' w' < μ l a w) Q) a w := by
    intro n
    induction n using Nat.strongRecOn with
    | _ n ih =>
      intro l a w hn hJ
      refine pass l a w hJ fun l' a' w' hJ' hlt => ?_
      refine Code.wp_mono (jumps_mono fun l'' a'' w'' h => ⟨h.1, Nat.lt_trans h.2 hlt⟩) (ih (μ l' a' w') (by omega) l' a' w' rfl hJ')
  exact wp_scope_many R J μ hf (first fun l a w h => Code.wp_mono (jumps_mono fun l' a' w' h => h.1) (all _ l a w rfl h)) fun l a w h => all _ l a w rfl h
end
end Go.Proofs.YtohdmfedappenaaDoor
