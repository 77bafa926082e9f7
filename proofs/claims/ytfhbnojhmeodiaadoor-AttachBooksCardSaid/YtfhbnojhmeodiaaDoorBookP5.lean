/-
  Books of orders, by lists: what the law OrderSweeps counts. No program.
-/
import Derived.Test.YtfhbnojhmeodiaaDoorBookP4
namespace Go.Proofs.YtfhbnojhmeodiaaDoor
set_option linter.unusedVariables false
theorem sweepI_drop {l : List Od} {k : Nat} (hk : k < l.length) : sweepI l = sweepI (l.take k) ++ ((if goneO (l.getD k od0) = true then [(l.getD k od0).id] else []) ++ sweepI (l.drop (k + 1))) := by
  have e : sweepI l = sweepI (l.take (k + 1)) ++ sweepI (l.drop (k + 1)) := by
    unfold sweepI
    rw [← List.map_append, ← List.filter_append, List.take_append_drop]
  rw [e, sweepI_snoc hk, List.append_assoc]
theorem sweepL_drop {l : List Od} {k : Nat} (hk : k < l.length) : sweepL l = sweepL (l.take k) ++ ((if goneO (l.getD k od0) = true then [] else [l.getD k od0]) ++ sweepL (l.drop (k + 1))) := by
  have e : sweepL l = sweepL (l.take (k + 1)) ++ sweepL (l.drop (k + 1)) := by
    unfold sweepL
    rw [← List.filter_append, List.take_append_drop]
  rw [e, sweepL_snoc hk, List.append_assoc]
theorem getD_mid {α : Type} (a : List α) (x : α) (b : List α) (d : α) : a.length < (a ++ x :: b).length ∧ (a ++ x :: b).getD a.length d = x := by
  constructor
  · simp
  · simp [List.getD]
/-- an order that is gone: its number is the next one that is told -/
theorem sweep_gone {l : List Od} {k : Nat} (hk : k < l.length) (h : goneO (l.getD k od0) = true) :
    (sweepI (l.take k)).length < (sweepI l).length ∧ (sweepI l).getD (sweepI (l.take k)).length 0 = (l.getD k od0).id ∧ (sweepI (l.take (k + 1))).length = (sweepI (l.take k)).length + 1 ∧ (sweepL (l.take (k + 1))).length = (sweepL (l.take k)).length := by
  have e := sweepI_drop hk
  have e1 := sweepI_snoc hk
  have e2 := sweepL_snoc hk
  rw [if_pos h] at e e1 e2
  have g := getD_mid (sweepI (l.take k)) (l.getD k od0).id (sweepI (l.drop (k + 1))) 0
  refine ⟨by rw [e]; exact g.1, ?_, by rw [e1]; simp, by rw [e2]; simp⟩
  have : sweepI l = sweepI (l.take k) ++ (l.getD k od0).id :: sweepI (l.drop (k + 1)) := e
  rw [this]; exact g.2
/-- one that stays is the next one that is there -/
theorem sweep_stays {l : List Od} {k : Nat} (hk : k < l.length) (h : ¬ goneO (l.getD k od0) = true) :
    (sweepL (l.take k)).length < (sweepL l).length ∧ (sweepL l).getD (sweepL (l.take k)).length od0 = l.getD k od0 ∧ (sweepI (l.take (k + 1))).length = (sweepI (l.take k)).length ∧ (sweepL (l.take (k + 1))).length = (sweepL (l.take k)).length + 1 := by
  have e := sweepL_drop hk
  have e1 := sweepI_snoc hk
  have e2 := sweepL_snoc hk
  rw [if_neg h] at e e1 e2
  have g := getD_mid (sweepL (l.take k)) (l.getD k od0) (sweepL (l.drop (k + 1))) od0
  refine ⟨by rw [e]; exact g.1, ?_, by rw [e1]; simp, by rw [e2]; simp⟩
  have : sweepL l = sweepL (l.take k) ++ l.getD k od0 :: sweepL (l.drop (k + 1)) := e
  rw [this]; exact g.2
/-- what the law counts beside what the book tells -/
def Ow (l : List Od) (k : Nat) (may : Bool) (s n : Int) : Prop :=
  (may = true → owedT l k = ⟨0, s, n⟩ ∧ s ≤ 100000000000) ∧ (may = false → owedT l k = ⟨10, 0, 0⟩)
theorem ow_start (l : List Od) : Ow l 0 true 0 0 := ⟨fun _ => ⟨rfl, by decide⟩, fun h => by cases h⟩
theorem ow_none {l : List Od} {k : Nat} {may : Bool} {s n : Int} (h : Ow l k may s n) (hz : (l.getD k od0).«to» = 0) : Ow l (k + 1) may s (n + 1) := by
  constructor
  · intro hm
    obtain ⟨e, hs⟩ := h.1 hm
    refine ⟨?_, hs⟩
    rw [owedT, e, owStep, if_neg (by simp), if_pos hz]
  · intro hm
    rw [owedT, h.2 hm, owStep, if_pos (by decide)]
theorem ow_off {l : List Od} {k : Nat} {may : Bool} {s n s2 n2 : Int} (h : Ow l k may s n) (hz : ¬ (l.getD k od0).«to» = 0) (hb : ¬ mrB ((l.getD k od0).«to» - (l.getD k od0).tk) = true) : Ow l (k + 1) false s2 n2 := by
  refine ⟨fun h => (by cases h), fun _ => ?_⟩
  cases hm : may with
  | true =>
    obtain ⟨e, hs⟩ := h.1 hm
    rw [owedT, e, owStep, if_neg (by simp), if_neg hz, if_pos (fun h => hb h.2.2)]
  | false => rw [owedT, h.2 hm, owStep, if_pos (by decide)]
theorem ow_zero {l : List Od} {k : Nat} {may : Bool} {s n : Int} (h : Ow l k may s n) (hz : ¬ (l.getD k od0).«to» = 0) (hm : mrB (l.getD k od0).«to» = true ∧ mrB (l.getD k od0).tk = true) (hl : (l.getD k od0).«to» - (l.getD k od0).tk ≤ 0) (hb : mrB ((l.getD k od0).«to» - (l.getD k od0).tk) = true) (hs0 : 0 ≤ s) : Ow l (k + 1) may s n := by
  have m0 : max 0 ((l.getD k od0).«to» - (l.getD k od0).tk) = 0 := by omega
  constructor
  · intro hm'
    obtain ⟨e, hs⟩ := h.1 hm'
    refine ⟨?_, hs⟩
    rw [owedT, e, owStep, if_neg (by simp), if_neg hz, if_neg (fun h => h ⟨hm.1, hm.2, hb⟩), m0]
    dsimp only
    rw [if_neg (fun h => h ⟨mr_iff.2 (by omega), by decide, mr_iff.2 (by omega)⟩)]
    simp
  · intro hm'
    rw [owedT, h.2 hm', owStep, if_pos (by decide)]
theorem ow_more {l : List Od} {k : Nat} {may : Bool} {s n : Int} (h : Ow l k may s n) (hz : ¬ (l.getD k od0).«to» = 0) (hm : mrB (l.getD k od0).«to» = true ∧ mrB (l.getD k od0).tk = true) (hl : 0 < (l.getD k od0).«to» - (l.getD k od0).tk) (hb : mrB ((l.getD k od0).«to» - (l.getD k od0).tk) = true) (hs0 : 0 ≤ s) :
    Ow l (k + 1) (may && decide (s + ((l.getD k od0).«to» - (l.getD k od0).tk) ≤ 100000000000)) (s + ((l.getD k od0).«to» - (l.getD k od0).tk)) n := by
  have m0 : max 0 ((l.getD k od0).«to» - (l.getD k od0).tk) = (l.getD k od0).«to» - (l.getD k od0).tk := by omega
  cases hm' : may with
  | true =>
    obtain ⟨e, hs⟩ := h.1 hm'
    by_cases h9 : s + ((l.getD k od0).«to» - (l.getD k od0).tk) ≤ 100000000000
    · refine ⟨fun _ => ⟨?_, h9⟩, fun h => by rw [decide_eq_true h9] at h; cases h⟩
      rw [owedT, e, owStep, if_neg (by simp), if_neg hz, if_neg (fun h => h ⟨hm.1, hm.2, hb⟩), m0]
      dsimp only
      rw [if_neg (fun h => h ⟨mr_iff.2 (by omega), hb, mr_iff.2 (by omega)⟩)]
    · refine ⟨fun h => (by rw [decide_eq_false h9] at h; cases h), fun _ => ?_⟩
      rw [owedT, e, owStep, if_neg (by simp), if_neg hz, if_neg (fun h => h ⟨hm.1, hm.2, hb⟩), m0]
      dsimp only
      rw [if_pos (fun h => h9 (mr_iff.1 h.2.2).2)]
  | false => exact ⟨fun h => by simp at h, fun _ => by rw [owedT, h.2 hm', owStep, if_pos (by decide)]⟩
theorem goneO_iff {z : Od} : goneO z = true ↔ (0 < z.«to» ∧ z.«to» ≤ z.tk) ∧ z.ar = 0 := by
  unfold goneO overO
  simp
/-- the bounds of all orders of a book that was put together stay -/
theorem tookT_ok {l : List Od} {ts : List Tk} (h : ∀ z ∈ l, OrOK z.id z.pr z.am z.ra z.«to») : ∀ k, ∀ z ∈ (tookT l ts k).2, OrOK z.id z.pr z.am z.ra z.«to» :=
  tookT_one h (fun m x hm hx => by
    have hx1 := tookX_at hx
    have h2 := hm (m.getD (atO m x.o) od0) (by rw [getD_at m od0 hx1]; exact List.getElem_mem hx1)
    exact h2)
theorem tookL_ok {l : List Od} {ts : List Tk} (h : ∀ z ∈ l, OrOK z.id z.pr z.am z.ra z.«to») : ∀ z ∈ tookL l ts, OrOK z.id z.pr z.am z.ra z.«to» := by
  unfold tookL
  split
  · exact tookT_ok h _
  · exact h
/-- a book of orders that may be, with amounts that may be -/
structure GoodT (l : List Od) : Prop where
  len : l.length ≤ 8
  ids : IdsO l
  ok : ∀ z ∈ l, OrOK z.id z.pr z.am z.ra z.«to»
  mr : ∀ z ∈ l, mrB z.tk = true ∧ mrB z.ar = true
theorem Good.t {l : List Od} (h : Good l) : GoodT l := ⟨h.len, h.ids, h.ok, h.mr⟩
theorem GoodT.took {l : List Od} (h : GoodT l) (ts : List Tk) : GoodT (tookL l ts) := ⟨by rw [tookL_len]; exact h.len, tookL_ids h.ids, tookL_ok h.ok, tookL_mr h.mr⟩
theorem GoodT.at {l : List Od} (h : GoodT l) {k : Nat} (hk : k < l.length) : OrOK (l.getD k od0).id (l.getD k od0).pr (l.getD k od0).am (l.getD k od0).ra (l.getD k od0).«to» ∧ mrB (l.getD k od0).tk = true ∧ mrB (l.getD k od0).ar = true := by
  rw [getD_at l od0 hk]
  exact ⟨h.ok _ (List.getElem_mem hk), h.mr _ (List.getElem_mem hk)⟩
end Go.Proofs.YtfhbnojhmeodiaaDoor
