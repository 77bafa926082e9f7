/-
  Lines cut into words, by lists of bytes; words quoted and joined; what is joined is cut back. No program, no conditions beyond those named.
-/
import Derived.Test.YtohdmfedappenaaDoorVoc
namespace Go.Proofs.YtohdmfedappenaaDoor
set_option linter.unusedVariables false
/-- may a byte be in a word without quotes; within quotes? -/
def plB (c : Int) : Bool := decide (33 ≤ c) && (decide (c ≤ 126) && (decide (c ≠ 34) && decide (c ≠ 35)))
def shB (c : Int) : Bool := decide (32 ≤ c) && (decide (c ≤ 126) && decide (c ≠ 34))
theorem plB_sh {c : Int} (h : plB c = true) : shB c = true := by
  unfold plB at h; unfold shB
  simp at h ⊢
  omega
def bI (c : UInt8) : Int := c.toNat
def wcons (a : List UInt8) (x : Int × List (List UInt8)) : Int × List (List UInt8) := if x.1 = 0 then (0, a :: x.2) else (x.1, [])
/-- the words of the rest of a line: between words (0), within one (1), within quotes (2), behind one (3) -/
def cutM : Nat → List UInt8 → Nat → List UInt8 → Int × List (List UInt8)
  | m, [], n, acc => if m = 0 then (0, []) else if m = 1 then (if acc = [] then (5, []) else (0, [acc])) else if m = 2 then (5, []) else (0, [acc])
  | m, c :: r, n, acc =>
    if m = 0 then
      if bI c = 35 then (0, []) else if bI c = 32 then cutM 0 r n [] else if n = 32 then (2, []) else if bI c = 34 then cutM 2 r n [] else if plB (bI c) = true then cutM 1 r n [c] else (5, [])
    else if m = 1 then
      if plB (bI c) = true then cutM 1 r n (acc ++ [c]) else if acc = [] then (5, []) else if bI c = 32 then wcons acc (cutM 0 r (n + 1) []) else if bI c = 35 then (0, [acc]) else (5, [])
    else if m = 2 then
      if shB (bI c) = true then cutM 2 r n (acc ++ [c]) else if bI c = 34 then cutM 3 r n acc else (5, [])
    else
      if bI c = 32 then wcons acc (cutM 0 r (n + 1) []) else if bI c = 35 then (0, [acc]) else (5, [])
/-- a line's words, and why there are none -/
def cutR (l : List UInt8) : Int × List (List UInt8) := if 512 < l.length then (2, []) else cutM 0 l 0 []
/-- what stands ahead, and what is still found -/
def glue (out : List (List UInt8)) (x : Int × List (List UInt8)) : Int × List (List UInt8) := if x.1 = 0 then (0, out ++ x.2) else (x.1, [])
theorem glue_wcons (out : List (List UInt8)) (a : List UInt8) (x : Int × List (List UInt8)) : glue out (wcons a x) = glue (out ++ [a]) x := by
  unfold glue wcons
  by_cases h : x.1 = 0
  · simp [h]
  · simp [h]
theorem cutM_behind (l : List UInt8) (n : Nat) (acc : List UInt8) (h : l = [] ∨ ∃ c r, l = c :: r ∧ (bI c = 32 ∨ bI c = 35)) : cutM 3 l n acc = wcons acc (cutM 0 l (n + 1) []) := by
  rcases h with rfl | ⟨c, r, rfl, h⟩
  · simp [cutM, wcons]
  · rcases h with h | h
    · simp only [cutM, h]; simp
    · simp only [cutM, h]; simp [wcons]
theorem cutM_end (l : List UInt8) (n : Nat) (acc : List UInt8) (ha : acc ≠ []) (h : l = [] ∨ ∃ c r, l = c :: r ∧ plB (bI c) = false) : cutM 1 l n acc = cutM 3 l n acc := by
  rcases h with rfl | ⟨c, r, rfl, h⟩
  · simp [cutM, ha]
  · simp only [cutM, h]; simp [ha]
/-- bytes that are all of a kind -/
def allB (p : Int → Bool) (l : List UInt8) : Bool := l.all fun c => p (bI c)
theorem cutM_plain : ∀ (s rest : List UInt8) (n : Nat) (acc : List UInt8), allB plB s = true → cutM 1 (s ++ rest) n acc = cutM 1 rest n (acc ++ s)
  | [], rest, n, acc, _ => by simp
  | c :: s, rest, n, acc, h => by
    have h1 : plB (bI c) = true ∧ allB plB s = true := by simpa [allB] using h
    rw [List.cons_append, show cutM 1 (c :: (s ++ rest)) n acc = cutM 1 (s ++ rest) n (acc ++ [c]) from by simp only [cutM, h1.1]; simp]
    rw [cutM_plain s rest n (acc ++ [c]) h1.2]
    simp
theorem cutM_shown : ∀ (s rest : List UInt8) (n : Nat) (acc : List UInt8), allB shB s = true → cutM 2 (s ++ 34 :: rest) n acc = cutM 3 rest n (acc ++ s)
  | [], rest, n, acc, _ => by
    have h34 : bI 34 = 34 := rfl
    have hs : shB 34 = false := by decide
    simp [cutM, h34, hs]
  | c :: s, rest, n, acc, h => by
    have h1 : shB (bI c) = true ∧ allB shB s = true := by simpa [allB] using h
    rw [List.cons_append, show cutM 2 (c :: (s ++ 34 :: rest)) n acc = cutM 2 (s ++ 34 :: rest) n (acc ++ [c]) from by simp only [cutM, h1.1]; simp]
    rw [cutM_shown s rest n (acc ++ [c]) h1.2]
    simp
/-- a word needs no quotes -/
def bareB (l : List UInt8) : Bool := decide (l ≠ []) && allB plB l
/-- why a word may not stand in a line; how it stands there -/
def qE (l : List UInt8) : Int := if allB shB l = true then 0 else 5
def qT (l : List UInt8) : List UInt8 := if allB shB l = true then (if bareB l = true then l else 34 :: (l ++ [34])) else []
theorem qT_bare {l : List UInt8} (h : bareB l = true) : qE l = 0 ∧ qT l = l := by
  have h1 : allB shB l = true := by
    unfold bareB at h
    simp only [Bool.and_eq_true] at h
    have := h.2
    unfold allB at this ⊢
    rw [List.all_eq_true] at this ⊢
    exact fun x hx => plB_sh (this x hx)
  unfold qE qT
  simp [h1, h]
theorem qT_quoted {l : List UInt8} (h1 : allB shB l = true) (h : bareB l = false) : qE l = 0 ∧ qT l = 34 :: (l ++ [34]) := by
  unfold qE qT
  simp [h1, h]
/-- one word and what is behind it -/
theorem cutM_word (w rest : List UInt8) (n : Nat) (hn : n < 32) (hw : allB shB w = true) (hr : rest = [] ∨ ∃ r, rest = 32 :: r) : cutM 0 (qT w ++ rest) n [] = wcons w (cutM 0 rest (n + 1) []) := by
  have hb : rest = [] ∨ ∃ c r, rest = c :: r ∧ (bI c = 32 ∨ bI c = 35) := by
    rcases hr with h | ⟨r, h⟩
    · exact Or.inl h
    · exact Or.inr ⟨32, r, h, Or.inl rfl⟩
  have hp : rest = [] ∨ ∃ c r, rest = c :: r ∧ plB (bI c) = false := by
    rcases hr with h | ⟨r, h⟩
    · exact Or.inl h
    · exact Or.inr ⟨32, r, h, by decide⟩
  cases hbare : bareB w
  · rw [(qT_quoted hw hbare).2]
    have e : cutM 0 (34 :: (w ++ [34]) ++ rest) n [] = cutM 2 (w ++ 34 :: rest) n [] := by
      have h34 : bI 34 = 34 := rfl
      simp [cutM, h34]
      omega
    rw [e, cutM_shown w rest n [] hw, cutM_behind _ _ _ hb]
    simp
  · rw [(qT_bare hbare).2]
    unfold bareB at hbare
    simp only [Bool.and_eq_true, decide_eq_true_eq] at hbare
    obtain ⟨hne, hpl⟩ := hbare
    cases w with
    | nil => exact absurd rfl hne
    | cons c s =>
      have h1 : plB (bI c) = true ∧ allB plB s = true := by simpa [allB] using hpl
      have hc : bI c ≠ 35 ∧ bI c ≠ 32 ∧ bI c ≠ 34 := by
        have := h1.1
        unfold plB at this
        simp at this
        omega
      have e : cutM 0 (c :: s ++ rest) n [] = cutM 1 (s ++ rest) n [c] := by
        have : n ≠ 32 := by omega
        simp [cutM, hc.1, hc.2.1, hc.2.2, this, h1.1]
      rw [e, cutM_plain s rest n [c] h1.2]
      rw [show [c] ++ s = c :: s from rfl, cutM_end rest n (c :: s) (by simp) hp, cutM_behind _ _ _ hb]
/-- words one behind the other, a blank between two -/
def joinQ : List (List UInt8) → List UInt8
  | [] => []
  | w :: ws => qT w ++ (match ws with | [] => [] | _ :: _ => 32 :: joinQ ws)
theorem cut_join : ∀ (ws : List (List UInt8)) (n : Nat), n + ws.length ≤ 32 → (∀ w ∈ ws, allB shB w = true) → cutM 0 (joinQ ws) n [] = (0, ws)
  | [], n, _, _ => by simp [joinQ, cutM]
  | [w], n, hn, h => by
    rw [show joinQ [w] = qT w ++ [] from rfl, cutM_word w [] n (by simp at hn; omega) (h w (by simp)) (Or.inl rfl)]
    simp [cutM, wcons]
  | w :: v :: ws, n, hn, h => by
    have ih := cut_join (v :: ws) (n + 1) (by simp at hn ⊢; omega) (fun x hx => h x (by simp at hx ⊢; exact Or.inr hx))
    have e : joinQ (w :: v :: ws) = qT w ++ 32 :: joinQ (v :: ws) := rfl
    rw [e, cutM_word w (32 :: joinQ (v :: ws)) n (by simp at hn; omega) (h w (by simp)) (Or.inr ⟨_, rfl⟩)]
    have e2 : cutM 0 (32 :: joinQ (v :: ws)) (n + 1) [] = cutM 0 (joinQ (v :: ws)) (n + 1) [] := by
      have h32 : bI 32 = 32 := rfl
      simp [cutM, h32]
    rw [e2, ih]
    simp [wcons]
/-- the first k words joined, or why they aren't -/
def joinT (ws : List (List UInt8)) : Nat → Int × List UInt8
  | 0 => (0, [])
  | k + 1 =>
    if (joinT ws k).1 ≠ 0 then joinT ws k
    else if qE (ws.getD k []) ≠ 0 then (5, [])
    else if 512 < ((joinT ws k).2 ++ ((if k = 0 then [] else [32]) ++ qT (ws.getD k []))).length then (2, [])
    else (0, (joinT ws k).2 ++ ((if k = 0 then [] else [32]) ++ qT (ws.getD k [])))
theorem joinQ_snoc : ∀ (ws : List (List UInt8)) (w : List UInt8), joinQ (ws ++ [w]) = joinQ ws ++ ((if ws = [] then [] else [32]) ++ qT w)
  | [], w => by simp [joinQ]
  | [v], w => by simp [joinQ]
  | v :: u :: ws, w => by
    have ih := joinQ_snoc (u :: ws) w
    rw [show (v :: u :: ws) ++ [w] = v :: u :: (ws ++ [w]) from rfl]
    rw [show joinQ (v :: u :: (ws ++ [w])) = qT v ++ 32 :: joinQ (u :: (ws ++ [w])) from rfl]
    rw [show u :: (ws ++ [w]) = (u :: ws) ++ [w] from rfl, ih]
    rw [show joinQ (v :: u :: ws) = qT v ++ 32 :: joinQ (u :: ws) from rfl]
    simp
/-- joined without an error: they are, and each may stand in a line -/
theorem joinT_ok (ws : List (List UInt8)) : ∀ k, k ≤ ws.length → (joinT ws k).1 = 0 → (joinT ws k).2 = joinQ (ws.take k) ∧ (∀ w ∈ ws.take k, allB shB w = true) ∧ (joinT ws k).2.length ≤ 512 := by
  intro k
  induction k with
  | zero => intro _ _; simp [joinT, joinQ]
  | succ k ih =>
    intro hk h
    rw [joinT] at h ⊢
    by_cases h0 : (joinT ws k).1 ≠ 0
    · rw [if_pos h0] at h; exact absurd h h0
    · rw [if_neg h0] at h ⊢
      have h0' : (joinT ws k).1 = 0 := by simpa using h0
      obtain ⟨i1, i2, i3⟩ := ih (by omega) h0'
      by_cases h1 : qE (ws.getD k []) ≠ 0
      · rw [if_pos h1] at h; exact absurd h (by decide)
      · rw [if_neg h1] at h ⊢
        by_cases h2 : 512 < ((joinT ws k).2 ++ ((if k = 0 then [] else [32]) ++ qT (ws.getD k []))).length
        · rw [if_pos h2] at h; exact absurd h (by decide)
        · rw [if_neg h2]
          have hg : ws.getD k [] = ws[k]'(by omega) := by simp [List.getD, List.getElem?_eq_getElem (show k < ws.length by omega)]
          have ht : ws.take (k + 1) = ws.take k ++ [ws.getD k []] := by rw [hg]; exact List.take_succ_eq_append_getElem (by omega)
          have hz : (ws.take k = []) ↔ k = 0 := by
            constructor
            · intro h
              have : (ws.take k).length = 0 := by rw [h]; rfl
              rw [List.length_take] at this
              omega
            · rintro rfl; rfl
          refine ⟨?_, ?_, Nat.le_of_not_lt h2⟩
          · rw [ht, joinQ_snoc, i1]
            by_cases hk0 : k = 0
            · rw [if_pos hk0, if_pos (hz.2 hk0)]
            · rw [if_neg hk0, if_neg (fun h => hk0 (hz.1 h))]
          · intro w hw
            rw [ht] at hw
            rcases List.mem_append.1 hw with hw | hw
            · exact i2 w hw
            · simp at hw
              subst hw
              unfold qE at h1
              by_cases h3 : allB shB (ws.getD k []) = true
              · simpa using h3
              · rw [if_neg h3] at h1; exact absurd (by decide) h1
theorem cut_joined (ws : List (List UInt8)) (hn : ws.length ≤ 32) (h : (joinT ws ws.length).1 = 0) : cutR (joinT ws ws.length).2 = (0, ws) := by
  obtain ⟨h1, h2, h3⟩ := joinT_ok ws ws.length (Nat.le_refl _) h
  rw [List.take_length] at h1 h2
  unfold cutR
  rw [if_neg (by omega), h1]
  exact cut_join ws 0 (by omega) h2
end Go.Proofs.YtohdmfedappenaaDoor
