/-
  Plain: what orders take, one behind the other. No program.
-/
import Derived.Test.YtfhbnojhmeodiaaDoorOrd
namespace Go.Proofs.YtfhbnojhmeodiaaDoor
set_option linter.unusedVariables false
open Go.RowKit
/-- what an order came to in a period -/
structure Tk where
  o : Int
  br : Int
  or : Int
  du : Int
  ta : Int
  ca : Int
def tk0 : Tk := ⟨0, 0, 0, 0, 0, 0⟩
def tkC (z : Tk) : List Value := [.int .i64 z.o, .int .i64 z.br, .int .i64 z.or, .int .i64 z.du, .int .i64 z.ta, .int .i64 z.ca]
theorem tkC_len (z : Tk) : (tkC z).length = 6 := rfl
abbrev TkSl := RowSl tkC 6 tk0
def oneD (z : Od) (net : Int) : Int := ordV z net + z.ar
def oneE (z : Od) (net : Int) : Int := if ordE z net ≠ 0 then 10 else if oneD z net ≤ 100000000000 then 0 else 10
def oneT (z : Od) (net free : Int) : Int := max 0 (min (oneD z net) free)
def oneV (z : Od) (net free : Int) : Tk := ⟨z.id, z.ar, ordV z net, oneD z net, oneT z net free, oneD z net - oneT z net free⟩
/-- what is left behind the first k -/
def leftA (l : List Od) (net prot : Int) : Nat → Int
  | 0 => net
  | k + 1 => leftA l net prot k - oneT (l.getD k od0) net (max 0 (leftA l net prot k - prot))
def tkA (l : List Od) (net prot : Int) (k : Nat) : Tk := oneV (l.getD k od0) net (max 0 (leftA l net prot k - prot))
def tkL (l : List Od) (net prot : Int) (n : Nat) : List Tk := (List.range n).map (tkA l net prot)
theorem tkL_len (l : List Od) (net prot : Int) (n : Nat) : (tkL l net prot n).length = n := by simp [tkL]
theorem tkL_get (l : List Od) (net prot : Int) (n k : Nat) (h : k < n) : (tkL l net prot n).getD k tk0 = tkA l net prot k := by simp [tkL, List.getD, h]
theorem tkL_snoc (l : List Od) (net prot : Int) (k : Nat) : tkL l net prot (k + 1) = tkL l net prot k ++ [tkA l net prot k] := by simp [tkL, List.range_succ]
theorem oneE_zero {z : Od} {net : Int} (h : oneE z net = 0) : ordE z net = 0 ∧ oneD z net ≤ 100000000000 := by
  unfold oneE at h
  by_cases h1 : ordE z net = 0
  · rw [if_neg (by simpa using h1)] at h
    by_cases h2 : oneD z net ≤ 100000000000
    · exact ⟨h1, h2⟩
    · rw [if_neg h2] at h; cases h
  · rw [if_pos h1] at h; cases h
theorem oneE_ten {z : Od} {net : Int} (h : oneE z net ≠ 0) : oneE z net = 10 := by
  unfold oneE at *
  by_cases h1 : ordE z net ≠ 0
  · rw [if_pos h1]
  · rw [if_neg h1] at h ⊢
    by_cases h2 : oneD z net ≤ 100000000000
    · rw [if_pos h2] at h; exact absurd rfl h
    · rw [if_neg h2]
theorem oneD_bd {z : Od} (h : OdOK z) {net : Int} (hn : -100000000000 ≤ net ∧ net ≤ 100000000000) (he : oneE z net = 0) : 0 ≤ oneD z net ∧ oneD z net ≤ 100000000000 := by
  obtain ⟨h1, h2⟩ := oneE_zero he
  have h3 := ordV_bd h hn h1
  have h4 := h.ar
  refine ⟨?_, h2⟩
  unfold oneD
  omega
theorem left_step (a prot du : Int) (h0 : 0 ≤ prot) : (min a prot ≤ a - max 0 (min du (max 0 (a - prot)))) ∧ a - max 0 (min du (max 0 (a - prot))) ≤ a := by omega
theorem leftA_bd (l : List Od) (net prot : Int) (h0 : 0 ≤ prot) : ∀ k, min net prot ≤ leftA l net prot k ∧ leftA l net prot k ≤ net := by
  intro k
  induction k with
  | zero => rw [leftA]; omega
  | succ k ih =>
    have h := left_step (leftA l net prot k) prot (oneD (l.getD k od0) net) h0
    rw [leftA]
    unfold oneT
    omega
/-- the sum of what the first k took -/
def sumT (L : List Tk) : Nat → Int
  | 0 => 0
  | k + 1 => sumT L k + (L.getD k tk0).ta
theorem sumT_tk (l : List Od) (net prot : Int) (n : Nat) : ∀ k, k ≤ n → sumT (tkL l net prot n) k = net - leftA l net prot k := by
  intro k
  induction k with
  | zero => intro _; simp [sumT, leftA]
  | succ k ih =>
    intro hk
    rw [sumT, ih (by omega), tkL_get l net prot n k (by omega), leftA]
    show _ + oneT _ _ _ = _
    omega
/-- is one short ahead of place k? -/
def shortTo (L : List Tk) : Nat → Bool
  | 0 => false
  | k + 1 => shortTo L k || decide ((L.getD k tk0).ta < (L.getD k tk0).du)
def condT (L : List Tk) (k : Nat) : Bool := decide ((L.getD k tk0).br + (L.getD k tk0).or = (L.getD k tk0).du) && decide ((L.getD k tk0).ta + (L.getD k tk0).ca = (L.getD k tk0).du) && decide (0 ≤ (L.getD k tk0).ta) && !(shortTo L k && decide (0 < (L.getD k tk0).ta))
def okT (L : List Tk) (n : Nat) : Bool := (List.range n).all (condT L)
theorem okT_step (L : List Tk) (k : Nat) (h : okT L k = true) (h2 : condT L k = true) : okT L (k + 1) = true := by
  unfold okT at *
  rw [List.range_succ, List.all_append, h]
  simp [h2]
theorem okT_no (L : List Tk) (n k : Nat) (hk : k < n) (h : condT L k = false) : okT L n = false := by
  unfold okT
  rw [List.all_eq_false]
  exact ⟨k, List.mem_range.2 hk, by rw [h]; decide⟩
/-- none passes another -/
theorem short_tk (l : List Od) (net prot : Int) (n : Nat) (h0 : 0 ≤ prot) (hok : ∀ k, k < n → OdOK (l.getD k od0)) (hn : -100000000000 ≤ net ∧ net ≤ 100000000000) (he : ∀ k, k < n → oneE (l.getD k od0) net = 0) : ∀ k, k ≤ n → shortTo (tkL l net prot n) k = true → leftA l net prot k ≤ prot := by
  intro k
  induction k with
  | zero => intro _ h; cases h
  | succ k ih =>
    intro hk h
    rw [shortTo, tkL_get l net prot n k (by omega)] at h
    have hd := oneD_bd (hok k (by omega)) hn (he k (by omega))
    rw [leftA]
    have ht : (tkA l net prot k).ta = oneT (l.getD k od0) net (max 0 (leftA l net prot k - prot)) := rfl
    have hdu : (tkA l net prot k).du = oneD (l.getD k od0) net := rfl
    rw [ht, hdu] at h
    unfold oneT at *
    simp only [Bool.or_eq_true, decide_eq_true_eq] at h
    rcases h with h | h
    · have := ih (by omega) h
      omega
    · omega
theorem cond_tk (l : List Od) (net prot : Int) (n : Nat) (h0 : 0 ≤ prot) (hok : ∀ k, k < n → OdOK (l.getD k od0)) (hn : -100000000000 ≤ net ∧ net ≤ 100000000000) (he : ∀ k, k < n → oneE (l.getD k od0) net = 0) (k : Nat) (hk : k < n) : condT (tkL l net prot n) k = true := by
  have hs := short_tk l net prot n h0 hok hn he k (by omega)
  have hd := oneD_bd (hok k hk) hn (he k hk)
  unfold condT
  rw [tkL_get l net prot n k hk]
  have e1 : (tkA l net prot k).br + (tkA l net prot k).or = (tkA l net prot k).du := by show (l.getD k od0).ar + ordV _ _ = ordV _ _ + _; omega
  have e2 : (tkA l net prot k).ta + (tkA l net prot k).ca = (tkA l net prot k).du := by show oneT _ _ _ + (oneD _ _ - oneT _ _ _) = oneD _ _; omega
  have e3 : 0 ≤ (tkA l net prot k).ta := by show 0 ≤ oneT _ _ _; unfold oneT; omega
  have e4 : shortTo (tkL l net prot n) k = true → ¬ 0 < (tkA l net prot k).ta := by
    intro h
    have := hs h
    show ¬ 0 < oneT _ _ _
    unfold oneT
    omega
  cases hh : shortTo (tkL l net prot n) k
  · simp [e1, e2, e3]
  · have := e4 hh
    simp [e1, e2, e3]
    omega
theorem ok_tk (l : List Od) (net prot : Int) (n : Nat) (h0 : 0 ≤ prot) (hok : ∀ k, k < n → OdOK (l.getD k od0)) (hn : -100000000000 ≤ net ∧ net ≤ 100000000000) (he : ∀ k, k < n → oneE (l.getD k od0) net = 0) : okT (tkL l net prot n) n = true := by
  unfold okT
  rw [List.all_eq_true]
  intro k hk
  exact cond_tk l net prot n h0 hok hn he k (List.mem_range.1 hk)
end Go.Proofs.YtfhbnojhmeodiaaDoor
