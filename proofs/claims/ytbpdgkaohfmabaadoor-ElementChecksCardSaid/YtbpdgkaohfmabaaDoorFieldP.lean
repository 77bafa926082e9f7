/-
  What strings.Fields makes of an element's text. No program, no conditions beyond those named.
-/
import Derived.Test.YtbpdgkaohfmabaaDoorElemT
import Derived.Test.YtbpdgkaohfmabaaDoorName
import Derived.Lib.Fields
namespace Go.Proofs.YtbpdgkaohfmabaaDoor
set_option linter.unusedVariables false
/-- a byte that stands in a word: no blank -/
def inkB (c : Int) : Bool := decide (33 ≤ c ∧ c ≤ 126)
def Ink (l : List UInt8) : Prop := ∀ b ∈ l, 33 ≤ b.toNat ∧ b.toNat ≤ 126
theorem ink_sp {b : UInt8} (h : 33 ≤ b.toNat ∧ b.toNat ≤ 126) : Lib.isSp b = false := by
  unfold Lib.isSp
  simp only [Bool.or_eq_false_iff, beq_eq_false_iff_ne, ne_eq]
  refine ⟨⟨⟨⟨⟨?_, ?_⟩, ?_⟩, ?_⟩, ?_⟩, ?_⟩ <;> (rintro rfl; revert h; decide)
theorem fieldsGo_word : ∀ (l cur r : List UInt8), Ink l → cur ++ l ≠ [] → Lib.fieldsGo cur (l ++ 32 :: r) = (cur ++ l) :: Lib.fieldsGo [] r
  | [], cur, r, _, hne => by
    simp at hne
    rw [List.nil_append, List.append_nil, Lib.fieldsGo_end cur 32 r (by decide) hne]
  | b :: l, cur, r, h, _ => by
    rw [List.cons_append, Lib.fieldsGo_more cur b _ (ink_sp (h b (by simp)))]
    rw [fieldsGo_word l (cur ++ [b]) r (fun x hx => h x (by simp [hx])) (by simp)]
    simp
theorem fieldsGo_last : ∀ (l cur : List UInt8), Ink l → cur ++ l ≠ [] → Lib.fieldsGo cur l = [cur ++ l]
  | [], cur, _, hne => by
    simp at hne
    unfold Lib.fieldsGo
    cases cur with
    | nil => exact absurd rfl hne
    | cons _ _ => simp
  | b :: l, cur, h, _ => by
    rw [Lib.fieldsGo_more cur b _ (ink_sp (h b (by simp)))]
    rw [fieldsGo_last l (cur ++ [b]) (fun x hx => h x (by simp [hx])) (by simp)]
    simp
theorem ink_of_gB {l : List UInt8} (h : ∀ i, i < l.length → 33 ≤ gB l i ∧ gB l i ≤ 126) : Ink l := by
  intro b hb
  obtain ⟨i, hi, rfl⟩ := List.getElem_of_mem hb
  have := h i hi
  have e : gB l i = (l[i].toNat : Int) := by unfold gB; simp [List.getD, List.getElem?_eq_getElem hi]
  rw [e] at this
  omega
theorem ink_app {a b : List UInt8} (ha : Ink a) (hb : Ink b) : Ink (a ++ b) := fun x hx => by
  rcases List.mem_append.1 hx with h | h
  · exact ha x h
  · exact hb x h
theorem ink_name {l : List UInt8} (h : nameB l = true) : Ink l ∧ 1 ≤ l.length ∧ l.length ≤ 16 := by
  unfold nameB at h
  simp only [Bool.and_eq_true, decide_eq_true_eq] at h
  refine ⟨ink_of_gB fun i hi => ?_, h.1⟩
  have := nmTo_iff.1 h.2 i hi
  unfold nmI at this
  simp at this
  omega
theorem ink_dec (u : Nat) : Ink (Lib.decDigits u) := ink_of_gB fun i hi => by
  have := dTo_iff.1 (dec_facts u).d i hi
  unfold dI at this
  simp at this
  omega
theorem ink_text (x : Int) : Ink (textB x) ∧ textB x ≠ [] := by
  constructor
  · unfold textB textI
    refine ink_app ?_ (ink_app (ink_app (ink_app (ink_dec _) ?_) ?_) (ink_dec _))
    · intro b hb; split at hb
      · simp at hb; subst hb; decide
      · simp at hb
    · intro b hb; simp at hb; subst hb; decide
    · intro b hb; split at hb
      · simp at hb; subst hb; decide
      · simp at hb
  · unfold textB textI; simp
theorem fields_text2 (k : List UInt8) (a : Int) (h : Ink k) (hk : 1 ≤ k.length) : Lib.fields (k ++ 32 :: textB a) = [k, textB a] := by
  have hne : k ≠ [] := by rintro rfl; simp at hk
  unfold Lib.fields
  rw [fieldsGo_word k [] _ h (by simpa using hne), fieldsGo_last _ [] (ink_text a).1 (by simpa using (ink_text a).2)]
  simp
theorem fields_text3 (k : List UInt8) (a u : Int) (h : Ink k) (hk : 1 ≤ k.length) : Lib.fields (k ++ 32 :: (textB a ++ 32 :: 120 :: textB u)) = [k, textB a, 120 :: textB u] := by
  have hne : k ≠ [] := by rintro rfl; simp at hk
  have h3 : Ink (120 :: textB u) := by
    intro b hb
    rcases List.mem_cons.1 hb with rfl | hb
    · decide
    · exact (ink_text u).1 b hb
  unfold Lib.fields
  rw [fieldsGo_word k [] _ h (by simpa using hne), fieldsGo_word _ [] _ (ink_text a).1 (by simpa using (ink_text a).2), fieldsGo_last _ [] h3 (by simp)]
  simp
/-- the words of an element's text -/
def elW (k : ByteArray) (a u : Int) : List ByteArray := k :: ⟨(textB a).toArray⟩ :: (if u = 100 then [] else [⟨(120 :: textB u).toArray⟩])
theorem fields_el (k : ByteArray) (a u : Int) (h : nameB k.data.toList = true) : (Lib.fields (elT k a u)).map (fun l => (⟨l.toArray⟩ : ByteArray)) = elW k a u := by
  obtain ⟨h1, h2, h3⟩ := ink_name h
  unfold elT elW
  by_cases hu : u = 100
  · rw [if_pos hu, if_pos hu, List.append_nil, fields_text2 _ a h1 h2]; rfl
  · rw [if_neg hu, if_neg hu, fields_text3 _ a u h1 h2]; rfl
theorem ink_el (k : ByteArray) (a u : Int) (h : nameB k.data.toList = true) : ∀ (j : Nat) b, (elT k a u)[j]? = some b → b.toNat < 128 := by
  intro j b hj
  have hm : b ∈ elT k a u := List.mem_of_getElem? hj
  unfold elT at hm
  rcases List.mem_append.1 hm with hm | hm
  · have := (ink_name h).1 b hm; omega
  · rcases List.mem_cons.1 hm with rfl | hm
    · decide
    · rcases List.mem_append.1 hm with hm | hm
      · have := (ink_text a).1 b hm; omega
      · split at hm
        · simp at hm
        · rcases List.mem_cons.1 hm with rfl | hm
          · decide
          · rcases List.mem_cons.1 hm with rfl | hm
            · decide
            · have := (ink_text u).1 b hm; omega
end Go.Proofs.YtbpdgkaohfmabaaDoor
