/-
  A region that draws its order, by what each of its operations leaves: whatever order is drawn, the same is known behind it. No program, no conditions beyond those named.
-/
import Derived.Test.YtbliblhipecgfaaGreatDoorM0
import Derived.Orders
import Derived.Deep.RegionHeld3
namespace Go.Proofs.YtbliblhipecgfaaGreatDoor
set_option linter.unusedVariables false
open Go.RowKit
section
variable {P : Program} {ops : Array Oper} {Q : Exit → Act → World → Prop}
/-- how many are still to come -/
def todo (b : Nat → Bool) : Nat → Nat
  | 0 => 0
  | n + 1 => todo b n + if b n = true then 0 else 1
theorem todo_le (b : Nat → Bool) : ∀ n, todo b n ≤ n
  | 0 => Nat.le_refl _
  | n + 1 => by have := todo_le b n; unfold todo; split <;> omega
theorem todo_more (b : Nat → Bool) (i : Nat) (hb : b i = false) : ∀ n, i < n → todo (fun j => if j = i then true else b j) n + 1 = todo b n
  | 0, h => by omega
  | n + 1, h => by
    have hlow : ∀ m, m ≤ i → todo (fun j => if j = i then true else b j) m = todo b m := by
      intro m
      induction m with
      | zero => intro _; rfl
      | succ m ih =>
        intro hm
        unfold todo
        rw [ih (by omega), if_neg (show ¬ m = i by omega)]
    rcases Nat.lt_or_ge i n with hlt | hge
    · have := todo_more b i hb n hlt
      unfold todo
      rw [if_neg (show ¬ n = i by omega)]
      omega
    · have : n = i := by omega
      subst this
      unfold todo
      rw [hlow n (Nat.le_refl _), if_pos rfl, if_pos rfl, hb]
      simp
theorem todo_zero (b : Nat → Bool) : ∀ n, todo b n = 0 → ∀ i, i < n → b i = true
  | 0, _, i, hi => by omega
  | n + 1, h, i, hi => by
    unfold todo at h
    have h2 : b n = true := by
      cases hb : b n
      · simp [hb] at h
      · rfl
    rcases Nat.lt_or_ge i n with hlt | hge
    · exact todo_zero b n (by omega) i hlt
    · have : i = n := by omega
      subst this; exact h2
def bitsOf (n : Nat) (b : Nat → Bool) (l : Array Bool) : Prop := l.size = n ∧ ∀ i, i < n → l[i]? = some (b i)
theorem bits_set {n : Nat} {b : Nat → Bool} {l : Array Bool} (h : bitsOf n b l) (i : Nat) (hi : i < n) : bitsOf n (fun j => if j = i then true else b j) (l.setIfInBounds i true) := by
  refine ⟨by simpa using h.1, fun j hj => ?_⟩
  by_cases e : j = i
  · subst e
    have : j < l.size := by rw [h.1]; exact hi
    simp [this]
  · show _ = some (if j = i then true else b j)
    rw [if_neg e, Array.getElem?_setIfInBounds_ne (Ne.symm e)]
    exact h.2 j hj
theorem wpAny_inv (J : (Nat → Bool) → Act → World → Prop) (hord : ∀ (i : Nat) (o : Oper), ops[i]? = some o → ∀ e ∈ o.after, e.on < i)
    (step : ∀ b a w, J b a w → ∀ (i : Nat) (o : Oper), ops[i]? = some o → b i = false → (∀ e ∈ o.after, Region.binds .any e = true → b e.on = true) → ∀ K : Act → World → Prop, (∀ a' w', J (fun j => if j = i then true else b j) a' w' → K a' w') →
      if Region.wanted o (yielded ops a.tmps) = true then Oper.wp P o a w K Q else K (a.put o.dst undef) w)
    (done : ∀ b a w, J b a w → (∀ i, i < ops.size → b i = true) → Q .normal a w) :
    ∀ (fuel : Nat) (b : Nat → Bool) (l : Array Bool) (a : Act) (w : World), bitsOf ops.size b l → todo b ops.size ≤ fuel → J b a w → wpAny P .any ops Q fuel l a w := by
  have ready0 : ∀ (b : Nat → Bool) (l : Array Bool), bitsOf ops.size b l → Region.ready .any ops l = [] → ∀ i, i < ops.size → b i = true := by
    intro b l hb hr i
    induction i using Nat.strongRecOn with
    | ind i ih =>
      intro hi
      cases hbi : b i
      · exfalso
        have hm : i ∈ Region.ready .any ops l := by
          rw [mem_ready]
          refine ⟨by rw [Array.getD_eq_getD_getElem?, hb.2 i hi, hbi]; rfl, ops[i], by simp [hi], fun e he hbd => ?_⟩
          have hlt := hord i ops[i] (by simp [hi]) e he
          have := ih e.on hlt (by omega)
          rw [Array.getD_eq_getD_getElem?, hb.2 e.on (by omega), this]; rfl
        rw [hr] at hm
        cases hm
      · rfl
  intro fuel
  induction fuel with
  | zero =>
    intro b l a w hb ht hJ
    have hall := todo_zero b ops.size (by omega)
    refine ⟨?_, done b a w hJ hall⟩
    cases hr : Region.ready .any ops l with
    | nil => rfl
    | cons i rest =>
      exfalso
      have hm : i ∈ Region.ready .any ops l := by rw [hr]; simp
      obtain ⟨h0, o, ho, _⟩ := mem_ready.1 hm
      have hi := (Array.getElem?_eq_some_iff.1 ho).1
      rw [Array.getD_eq_getD_getElem?, hb.2 i hi, hall i hi] at h0
      cases h0
  | succ fuel ih =>
    intro b l a w hb ht hJ
    refine ⟨fun hr => done b a w hJ (ready0 b l hb hr), fun i hm => ?_⟩
    obtain ⟨h0, o, ho, hafter⟩ := mem_ready.1 hm
    have hi := (Array.getElem?_eq_some_iff.1 ho).1
    rw [Array.getD_eq_getD_getElem?, hb.2 i hi] at h0
    have hbi : b i = false := h0
    have haft : ∀ e ∈ o.after, Region.binds .any e = true → b e.on = true := fun e he hbd => by
      have h1 := hafter e he hbd
      have hlt := hord i o ho e he
      rw [Array.getD_eq_getD_getElem?, hb.2 e.on (by omega)] at h1
      exact h1
    refine wpOp_step ho (fun K hK => step b a w hJ i o ho hbi haft K fun a' w' hJ' => hK a' w' ?_)
    exact ih _ _ a' w' (bits_set hb i hi) (by have := todo_more b i hbi ops.size hi; omega) hJ'
/-- what holds at each state of a region, told by which of its operations have come up -/
theorem wp_region_inv {id : Nat} {a : Act} {w : World} (hm : P.follows .mixedOrders = true) (J : (Nat → Bool) → Act → World → Prop) (hord : (ops.toList.zipIdx.all fun p => p.1.after.all fun e => decide (e.on < p.2)) = true)
    (h0 : J (fun _ => false) a w.drew)
    (step : ∀ b a w, J b a w → ∀ (i : Nat) (o : Oper), ops[i]? = some o → b i = false → (∀ e ∈ o.after, Region.binds .any e = true → b e.on = true) → ∀ K : Act → World → Prop, (∀ a' w', J (fun j => if j = i then true else b j) a' w' → K a' w') →
      if Region.wanted o (yielded ops a.tmps) = true then Oper.wp P o a w K Q else K (a.put o.dst undef) w)
    (done : ∀ b a w, J b a w → (∀ i, i < ops.size → b i = true) → Q .normal a w) : (Code.region id ops true).wp P Q a w := by
  refine wp_region_any hm (wpAny_inv J ?_ step done ops.size (fun _ => false) _ a w.drew ⟨by simp, fun i hi => by simp [hi]⟩ (todo_le _ _) h0)
  intro i o ho e he
  rw [List.all_eq_true] at hord
  have := hord (o, i) (by
    rw [List.mem_zipIdx_iff_getElem?]
    simpa using ho)
  dsimp only at this
  rw [Array.all_eq_true_iff_forall_mem] at this
  simpa using this e he
/-- likewise, told by the state at the region's head -/
theorem wp_region_invA {id : Nat} {a : Act} {w : World} (hm : P.follows .mixedOrders = true) (J : Act → (Nat → Bool) → Act → World → Prop) (hord : (ops.toList.zipIdx.all fun p => p.1.after.all fun e => decide (e.on < p.2)) = true)
    (h0 : J a (fun _ => false) a w.drew)
    (step : ∀ b a' w, J a b a' w → ∀ (i : Nat) (o : Oper), ops[i]? = some o → b i = false → (∀ e ∈ o.after, Region.binds .any e = true → b e.on = true) → ∀ K : Act → World → Prop, (∀ a' w', J a (fun j => if j = i then true else b j) a' w' → K a' w') →
      if Region.wanted o (yielded ops a'.tmps) = true then Oper.wp P o a' w K Q else K (a'.put o.dst undef) w)
    (done : ∀ b a' w, J a b a' w → (∀ i, i < ops.size → b i = true) → Q .normal a' w) : (Code.region id ops true).wp P Q a w := wp_region_inv hm (J a) hord h0 step done
end
end Go.Proofs.YtbliblhipecgfaaGreatDoor
