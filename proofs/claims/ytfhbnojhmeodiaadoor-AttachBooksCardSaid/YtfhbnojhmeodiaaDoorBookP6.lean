/-
  Books of orders, by lists: a period in which all orders of a book are served, and take. No program.
-/
import Derived.Test.YtfhbnojhmeodiaaDoorBookP5
namespace Go.Proofs.YtfhbnojhmeodiaaDoor
set_option linter.unusedVariables false
open Go.RowKit
def updO (z : Od) (x : Tk) : Od := { z with tk := z.tk + x.ta, ar := x.ca }
/-- the book behind the first k of those that took -/
def upTo (l : List Od) (ts : List Tk) (k : Nat) : List Od := (List.range l.length).map fun j => if j < k then updO (l.getD j od0) (ts.getD j tk0) else l.getD j od0
theorem upTo_len (l : List Od) (ts : List Tk) (k : Nat) : (upTo l ts k).length = l.length := by simp [upTo]
theorem upTo_get (l : List Od) (ts : List Tk) (k j : Nat) (hj : j < l.length) : (upTo l ts k).getD j od0 = if j < k then updO (l.getD j od0) (ts.getD j tk0) else l.getD j od0 := by
  unfold upTo
  rw [List.getD, List.getElem?_map, List.getElem?_range hj]; rfl
theorem upTo_zero (l : List Od) (ts : List Tk) : upTo l ts 0 = l := by
  unfold upTo
  refine List.ext_getElem (by simp) fun i h1 h2 => ?_
  simp [List.getD, h2]
theorem upTo_id (l : List Od) (ts : List Tk) (k : Nat) : (upTo l ts k).map Od.id = l.map Od.id := by
  unfold upTo
  rw [List.map_map]
  refine List.ext_getElem (by simp) fun i h1 h2 => ?_
  have h3 : i < l.length := by simpa using h2
  rw [List.getElem_map, List.getElem_range, List.getElem_map]
  simp only [Function.comp]
  split
  · show (l.getD i od0).id = _
    rw [getD_at l od0 h3]
  · rw [getD_at l od0 h3]
theorem upTo_step (l : List Od) (ts : List Tk) (k : Nat) (hk : k < l.length) : (upTo l ts k).set k (updO (l.getD k od0) (ts.getD k tk0)) = upTo l ts (k + 1) := by
  unfold upTo
  refine List.ext_getElem (by simp) fun i h1 h2 => ?_
  have h3 : i < l.length := by simpa using h2
  rw [List.getElem_set, List.getElem_map, List.getElem_map, List.getElem_range]
  by_cases h : k = i
  · subst h
    rw [if_pos rfl, if_pos (by omega)]
  · rw [if_neg h]
    by_cases h4 : i < k
    · rw [if_pos h4, if_pos (by omega)]
    · rw [if_neg h4, if_neg (by omega)]
/-- one behind the other takes, each what is its own -/
def InTurn (l : List Od) (ts : List Tk) : Prop := ts.length = l.length ∧ ∀ k, k < l.length → (ts.getD k tk0).o = (l.getD k od0).id
def takeOK (z : Od) (x : Tk) : Prop := (mrB z.tk = true ∧ mrB x.ta = true ∧ mrB (z.tk + x.ta) = true) ∧ mrB x.ca = true
theorem took_turn {l : List Od} {ts : List Tk} (hd : IdsO l) (h : InTurn l ts) : ∀ k, k ≤ l.length → ((tookT l ts k).1 = 0 → (tookT l ts k).2 = upTo l ts k ∧ ∀ j, j < k → takeOK (l.getD j od0) (ts.getD j tk0)) ∧ ((tookT l ts k).1 ≠ 0 → (tookT l ts k).1 = 10) := by
  intro k
  induction k with
  | zero => exact fun _ => ⟨fun _ => ⟨(upTo_zero l ts).symm, fun j hj => absurd hj (by omega)⟩, fun h => absurd rfl h⟩
  | succ k ih =>
    intro hk
    obtain ⟨ih1, ih2⟩ := ih (by omega)
    rw [tookT]
    by_cases h0 : (tookT l ts k).1 = 0
    · obtain ⟨e, hal⟩ := ih1 h0
      rw [if_neg (fun h => h h0), e]
      have hl : k < l.length := by omega
      have hlu : k < (upTo l ts k).length := by rw [upTo_len]; exact hl
      have hg : (upTo l ts k).getD k od0 = l.getD k od0 := by rw [upTo_get l ts k k hl, if_neg (by omega)]
      have hat : atO (upTo l ts k) (ts.getD k tk0).o = k := at_of_get (ids_map (upTo_id l ts k).symm hd) hlu (by rw [hg, h.2 k hl])
      have hX : tookX (upTo l ts k) (ts.getD k tk0) = if ¬ (mrB (l.getD k od0).tk = true ∧ mrB (ts.getD k tk0).ta = true ∧ mrB ((l.getD k od0).tk + (ts.getD k tk0).ta) = true) then 10 else if mrB (ts.getD k tk0).ca = false then 10 else 0 := by
        unfold tookX
        rw [hat, if_neg (fun h => h hlu), hg]
      have hA : tookA (upTo l ts k) (ts.getD k tk0) = upTo l ts (k + 1) := by
        unfold tookA
        rw [hat, hg]
        exact upTo_step l ts k hl
      by_cases h1 : mrB (l.getD k od0).tk = true ∧ mrB (ts.getD k tk0).ta = true ∧ mrB ((l.getD k od0).tk + (ts.getD k tk0).ta) = true
      · rw [if_neg (fun h => h h1)] at hX
        cases h2 : mrB (ts.getD k tk0).ca with
        | false =>
          rw [if_pos h2] at hX
          rw [hX, if_pos (by decide)]
          exact ⟨fun h => by simp at h, fun _ => rfl⟩
        | true =>
          rw [if_neg (by rw [h2]; decide)] at hX
          rw [hX, if_neg (by decide), hA]
          refine ⟨fun _ => ⟨rfl, fun j hj => ?_⟩, fun h => absurd rfl h⟩
          rcases (by omega : j = k ∨ j < k) with rfl | hj
          · exact ⟨h1, h2⟩
          · exact hal j hj
      · rw [if_pos h1] at hX
        rw [hX, if_pos (by decide)]
        exact ⟨fun h => by simp at h, fun _ => rfl⟩
    · rw [if_pos h0]
      exact ⟨fun h => absurd h h0, ih2⟩
theorem took_turn_t {l : List Od} {ts : List Tk} (hd : IdsO l) (h : InTurn l ts) (he : tookE l ts = 0) : tookL l ts = upTo l ts l.length ∧ ∀ j, j < l.length → takeOK (l.getD j od0) (ts.getD j tk0) := by
  have h1 := (took_turn hd h l.length (Nat.le_refl _)).1
  unfold tookL
  rw [if_pos he]
  unfold tookE at he
  rw [h.1] at he ⊢
  exact h1 he
theorem took_turn_f {l : List Od} {ts : List Tk} (hd : IdsO l) (h : InTurn l ts) (he : tookE l ts ≠ 0) : tookE l ts = 10 ∧ tookL l ts = l := by
  have h1 := (took_turn hd h l.length (Nat.le_refl _)).2
  unfold tookL
  rw [if_neg he]
  refine ⟨?_, rfl⟩
  unfold tookE at he ⊢
  rw [h.1] at he ⊢
  exact h1 he
theorem turn_tk (l : List Od) (net prot : Int) : InTurn l (tkL l net prot l.length) := ⟨tkL_len _ _ _ _, fun k hk => by rw [tkL_get _ _ _ _ _ hk]; rfl⟩
/-- a book whose orders never took more than their totals -/
structure GoodA (l : List Od) : Prop where
  len : l.length ≤ 8
  ids : IdsO l
  ok : ∀ z ∈ l, OdOK z
  tot : ∀ z ∈ l, 0 < z.«to» → z.tk + z.ar ≤ z.«to»
theorem Good.a {l : List Od} (h : Good l) : GoodA l := ⟨h.len, h.ids, fun z hz => by
    obtain ⟨a, b⟩ := h.zero z hz
    exact ⟨h.ok z hz, by omega, by omega⟩, fun z hz ht => by
    obtain ⟨a, b⟩ := h.zero z hz
    omega⟩
theorem GoodA.at {l : List Od} (h : GoodA l) {k : Nat} (hk : k < l.length) : OdOK (l.getD k od0) ∧ (0 < (l.getD k od0).«to» → (l.getD k od0).tk + (l.getD k od0).ar ≤ (l.getD k od0).«to») := by
  rw [getD_at l od0 hk]
  exact ⟨h.ok _ (List.getElem_mem hk), h.tot _ (List.getElem_mem hk)⟩
/-- the error of a period -/
def serveE (l : List Od) (net prot : Int) : Int := if ¬ (mrB net = true ∧ mrB prot = true) then 10 else if prot < 0 then 1 else if (List.range l.length).all (fun k => decide (oneE (l.getD k od0) net = 0)) = true then 0 else 10
theorem serveE_zero {l : List Od} {net prot : Int} (h : serveE l net prot = 0) : (mrB net = true ∧ mrB prot = true) ∧ 0 ≤ prot ∧ ∀ k, k < l.length → oneE (l.getD k od0) net = 0 := by
  unfold serveE at h
  by_cases h1 : mrB net = true ∧ mrB prot = true
  · rw [if_neg (fun h => h h1)] at h
    by_cases h2 : prot < 0
    · rw [if_pos h2] at h; cases h
    · rw [if_neg h2] at h
      by_cases h3 : (List.range l.length).all (fun k => decide (oneE (l.getD k od0) net = 0)) = true
      · refine ⟨h1, by omega, fun k hk => ?_⟩
        have := List.all_eq_true.1 h3 k (List.mem_range.2 hk)
        simpa using this
      · rw [if_neg h3] at h; cases h
  · rw [if_pos h1] at h; cases h
theorem serveE_all {l : List Od} {net prot : Int} (h1 : mrB net = true ∧ mrB prot = true) (h2 : 0 ≤ prot) (h3 : ∀ k, k < l.length → oneE (l.getD k od0) net = 0) : serveE l net prot = 0 := by
  unfold serveE
  rw [if_neg (fun h => h h1), if_neg (by omega), if_pos]
  rw [List.all_eq_true]
  intro k hk
  simpa using h3 k (List.mem_range.1 hk)
theorem serveE_one {l : List Od} {net prot : Int} (h1 : mrB net = true ∧ mrB prot = true) (h2 : 0 ≤ prot) {k : Nat} (hk : k < l.length) (h3 : oneE (l.getD k od0) net ≠ 0) : serveE l net prot = 10 := by
  unfold serveE
  rw [if_neg (fun h => h h1), if_neg (by omega), if_neg]
  intro h
  have := List.all_eq_true.1 h k (List.mem_range.2 hk)
  exact h3 (by simpa using this)
theorem serveE_o {l : List Od} {net prot : Int} (h : ¬ (mrB net = true ∧ mrB prot = true)) : serveE l net prot = 10 := by unfold serveE; rw [if_pos h]
theorem serveE_r {l : List Od} {net prot : Int} (h : mrB net = true ∧ mrB prot = true) (hp : prot < 0) : serveE l net prot = 1 := by unfold serveE; rw [if_neg (fun g => g h), if_pos hp]
/-- what stands behind a period, order by order -/
structure PerOd (z : Od) (x : Tk) (y : Od) : Prop where
  i : y.id = z.id ∧ y.pr = z.pr ∧ y.am = z.am ∧ y.ra = z.ra ∧ y.«to» = z.«to»
  tk : y.tk = z.tk + x.ta
  ar : y.ar = x.ca
  br : x.br = z.ar
  bd : 0 ≤ y.tk ∧ y.tk ≤ 100000000000
  ba : 0 ≤ y.ar ∧ y.ar ≤ 100000000000
  tot : 0 < y.«to» → y.tk + y.ar ≤ y.«to»
theorem per_od {l : List Od} {net prot : Int} (h : GoodA l) (hs : serveE l net prot = 0) (ht : tookE l (tkL l net prot l.length) = 0) {k : Nat} (hk : k < l.length) :
    PerOd (l.getD k od0) ((tkL l net prot l.length).getD k tk0) ((tookL l (tkL l net prot l.length)).getD k od0) := by
  obtain ⟨e, hal⟩ := took_turn_t h.ids (turn_tk l net prot) ht
  obtain ⟨h1, h2, h3⟩ := serveE_zero hs
  have hn := mr_iff.1 h1.1
  have hal := hal k hk
  obtain ⟨hok, htot⟩ := h.at hk
  have hd := oneD_bd hok hn (h3 k hk)
  have he := oneE_zero (h3 k hk)
  have hv := ordV_bd hok hn he.1
  rw [e, upTo_get _ _ _ _ hk, if_pos hk]
  rw [tkL_get _ _ _ _ _ hk] at hal ⊢
  have hb := mr_iff.1 hal.1.2.2
  have htk := hok.tk
  have har := hok.ar
  have hta : 0 ≤ (tkA l net prot k).ta ∧ (tkA l net prot k).ta ≤ oneD (l.getD k od0) net := by
    show 0 ≤ oneT _ _ _ ∧ oneT _ _ _ ≤ _
    unfold oneT; omega
  have hca : (tkA l net prot k).ca = oneD (l.getD k od0) net - (tkA l net prot k).ta := rfl
  have hcl : ordV (l.getD k od0) net ≤ leftI (l.getD k od0) := by unfold ordV; omega
  refine ⟨⟨rfl, rfl, rfl, rfl, rfl⟩, rfl, rfl, rfl, ?_, ?_, ?_⟩
  · show 0 ≤ (l.getD k od0).tk + (tkA l net prot k).ta ∧ (l.getD k od0).tk + (tkA l net prot k).ta ≤ _
    omega
  · show 0 ≤ (tkA l net prot k).ca ∧ (tkA l net prot k).ca ≤ _
    rw [hca]; omega
  · intro hto
    have hto' : 0 < (l.getD k od0).«to» := hto
    have := htot hto'
    show (l.getD k od0).tk + (tkA l net prot k).ta + (tkA l net prot k).ca ≤ (l.getD k od0).«to»
    have hle : leftI (l.getD k od0) = (l.getD k od0).«to» - (l.getD k od0).tk - (l.getD k od0).ar := by
      unfold leftI
      rw [if_neg (by omega)]; omega
    have hoD : oneD (l.getD k od0) net = ordV (l.getD k od0) net + (l.getD k od0).ar := rfl
    rw [hca]; omega
theorem GoodA.per {l : List Od} {net prot : Int} (h : GoodA l) (hs : serveE l net prot = 0) (ht : tookE l (tkL l net prot l.length) = 0) : GoodA (tookL l (tkL l net prot l.length)) := by
  have hl := tookL_len l (tkL l net prot l.length)
  have key : ∀ z ∈ tookL l (tkL l net prot l.length), OdOK z ∧ (0 < z.«to» → z.tk + z.ar ≤ z.«to») := fun z hz => by
    obtain ⟨k, hk, rfl⟩ := List.getElem_of_mem hz
    have hk' : k < l.length := by rw [hl] at hk; exact hk
    have P := per_od h hs ht hk'
    rw [getD_at (tookL l (tkL l net prot l.length)) od0 hk] at P
    obtain ⟨i1, i2, i3, i4, i5⟩ := P.i
    have ho := (h.at hk').1.o
    rw [← i1, ← i2, ← i3, ← i4, ← i5] at ho
    exact ⟨⟨ho, P.bd, P.ba⟩, P.tot⟩
  exact ⟨by rw [hl]; exact h.len, tookL_ids h.ids, fun z hz => (key z hz).1, fun z hz => (key z hz).2⟩
end Go.Proofs.YtfhbnojhmeodiaaDoor
