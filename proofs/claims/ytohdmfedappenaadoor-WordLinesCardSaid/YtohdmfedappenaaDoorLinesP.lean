/-
  Texts cut into lines, and the lines put together again. No program, no conditions beyond those named.
-/
import Derived.Test.YtohdmfedappenaaDoorParseP
import Derived.Lib.SplitLaws
import Derived.Lib.Strings
namespace Go.Proofs.YtohdmfedappenaaDoor
set_option linter.unusedVariables false
/-- lines one behind the other, a line feed between two -/
def jn : List (List UInt8) → List UInt8
  | [] => []
  | w :: ws => w ++ (match ws with | [] => [] | _ :: _ => 10 :: jn ws)
theorem jn_snoc : ∀ (ws : List (List UInt8)) (w : List UInt8), jn (ws ++ [w]) = jn ws ++ ((if ws = [] then [] else [10]) ++ w)
  | [], w => by simp [jn]
  | [v], w => by simp [jn]
  | v :: u :: ws, w => by
    have ih := jn_snoc (u :: ws) w
    rw [show (v :: u :: ws) ++ [w] = v :: u :: (ws ++ [w]) from rfl]
    rw [show jn (v :: u :: (ws ++ [w])) = v ++ 10 :: jn (u :: (ws ++ [w])) from rfl]
    rw [show u :: (ws ++ [w]) = (u :: ws) ++ [w] from rfl, ih]
    rw [show jn (v :: u :: ws) = v ++ 10 :: jn (u :: ws) from rfl]
    simp
/-- the first k lines put together -/
def jnT (ws : List (List UInt8)) : Nat → List UInt8
  | 0 => []
  | k + 1 => jnT ws k ++ ((if k = 0 then [] else [10]) ++ ws.getD k [])
theorem jnT_take (ws : List (List UInt8)) : ∀ k, k ≤ ws.length → jnT ws k = jn (ws.take k) := by
  intro k
  induction k with
  | zero => intro _; rfl
  | succ k ih =>
    intro hk
    have hg : ws.getD k [] = ws[k]'(by omega) := by simp [List.getD, List.getElem?_eq_getElem (show k < ws.length by omega)]
    have ht : ws.take (k + 1) = ws.take k ++ [ws.getD k []] := by rw [hg]; exact List.take_succ_eq_append_getElem (by omega)
    rw [jnT, ih (by omega), ht, jn_snoc]
    by_cases h0 : k = 0
    · rw [if_pos h0, if_pos (by rw [h0]; rfl)]
    · rw [if_neg h0, if_neg (fun e => h0 (by
        have : (ws.take k).length = 0 := by rw [e]; rfl
        rw [List.length_take] at this; omega))]
theorem jnT_mono (ws : List (List UInt8)) (k : Nat) : ∀ n, k ≤ n → (jnT ws k).length ≤ (jnT ws n).length := by
  intro n
  induction n with
  | zero => intro h; obtain rfl : k = 0 := by omega
            exact Nat.le_refl _
  | succ n ih =>
    intro h
    rcases (by omega : k = n + 1 ∨ k ≤ n) with rfl | h
    · exact Nat.le_refl _
    · have := ih h
      rw [jnT]; simp; omega
theorem occ10 (l : List UInt8) (i : Nat) (h : i < l.length) : Lib.occAt l [10] i = decide (l[i] = 10) := by
  unfold Lib.occAt
  rw [List.drop_eq_getElem_cons h, Bool.eq_iff_iff]
  simp [List.isPrefixOf]
  exact eq_comm
theorem split_facts : ∀ (k : Nat) (s : ByteArray), Lib.countB s ⟨#[10]⟩ = k → (∀ x ∈ (Lib.splitB ⟨#[10]⟩ 0 k s).map (·.data.toList), (10 : UInt8) ∉ x) ∧ jn ((Lib.splitB ⟨#[10]⟩ 0 k s).map (·.data.toList)) = s.data.toList
  | 0, s, hk => by
    have hno : (10 : UInt8) ∉ s.data.toList := by
      intro hm
      obtain ⟨i, hi, he⟩ := List.getElem_of_mem hm
      rcases Lib.indexB_cases s ⟨#[10]⟩ with hix | ⟨j, hix, _⟩
      · rcases Lib.index_spec s.data.toList [10] with ⟨_, h2⟩ | ⟨j, h1, _, _⟩
        · have := h2 i (by omega)
          rw [occ10 _ i hi, he] at this
          simp at this
        · have hix' : Lib.index s.data.toList [10] = -1 := hix
          rw [h1] at hix'; omega
      · rw [Lib.countB_hit s ⟨#[10]⟩ j (by decide) hix] at hk; omega
    refine ⟨fun x hx => ?_, ?_⟩
    · simp [Lib.splitB] at hx; subst hx; simpa using hno
    · simp [Lib.splitB, jn]
  | k + 1, s, hk => by
    rcases Lib.indexB_cases s ⟨#[10]⟩ with hix | ⟨i, hix, hroom⟩
    · rw [Lib.countB_miss s _ hix] at hk; omega
    · rw [Lib.countB_hit s ⟨#[10]⟩ i (by decide) hix] at hk
      have h1 : (⟨#[10]⟩ : ByteArray).size = 1 := rfl
      rw [h1] at hk hroom
      obtain ⟨f1, f2⟩ := split_facts k (s.extract (i + 1) s.size) (by omega)
      have hsl : s.data.toList.length = s.size := by simp
      have hix' : Lib.index s.data.toList [10] = (i : Int) := hix
      have hsp : (∀ j, j < i → s.data.toList[j]? ≠ some 10) ∧ s.data.toList[i]? = some 10 := by
        rcases Lib.index_spec s.data.toList [10] with ⟨h1, _⟩ | ⟨j, h1, h2, h3, h4⟩
        · rw [hix'] at h1; omega
        · obtain rfl : j = i := by rw [hix'] at h1; omega
          have hjl : j < s.data.toList.length := by omega
          refine ⟨fun q hq => ?_, ?_⟩
          · have := h4 q hq
            rw [occ10 _ q (by omega)] at this
            rw [List.getElem?_eq_getElem (by omega)]
            simpa using this
          · rw [occ10 _ j hjl] at h3
            rw [List.getElem?_eq_getElem hjl]
            simpa using h3
      have hs : Lib.splitB ⟨#[10]⟩ 0 (k + 1) s = s.extract 0 i :: Lib.splitB ⟨#[10]⟩ 0 k (s.extract (i + 1) s.size) := by
        rw [Lib.splitB_hit _ 0 k s i hix]; rfl
      have hlen := Lib.splitB_all ⟨#[10]⟩ (by decide) 0 k (s.extract (i + 1) s.size) (by omega)
      rw [hs, List.map_cons]
      rw [Lib.extract_to_end] at f2
      have e0 : (s.extract 0 i).data.toList = s.data.toList.take i := Lib.extract_from_zero s i
      generalize Lib.splitB ⟨#[10]⟩ 0 k (s.extract (i + 1) s.size) = P at *
      refine ⟨fun x hx => ?_, ?_⟩
      · rcases List.mem_cons.1 hx with rfl | hx
        · rw [e0]
          intro hm
          obtain ⟨q, hq, he⟩ := List.getElem_of_mem hm
          have hq' : q < i := by rw [List.length_take] at hq; omega
          refine hsp.1 q hq' ?_
          rw [List.getElem_take] at he
          rw [List.getElem?_eq_getElem (by omega), he]
        · exact f1 x hx
      · cases P with
        | nil => simp at hlen
        | cons p P =>
          rw [List.map_cons] at f2 ⊢
          rw [show jn ((s.extract 0 i).data.toList :: p.data.toList :: P.map (·.data.toList)) = (s.extract 0 i).data.toList ++ 10 :: jn (p.data.toList :: P.map (·.data.toList)) from rfl, f2, e0]
          have hi : i < s.data.toList.length := by omega
          have h10 : s.data.toList[i] = 10 := by
            have := hsp.2
            rw [List.getElem?_eq_getElem hi] at this
            simpa using this
          conv => rhs; rw [← List.take_append_drop i s.data.toList]
          rw [List.drop_eq_getElem_cons hi, h10]
theorem trim_facts (l : List UInt8) (hl : l ≠ []) : (Lib.trimSuffix l [10] = l ∧ gB l (l.length - 1) ≠ 10) ∨ (Lib.trimSuffix l [10] ++ [10] = l ∧ gB l (l.length - 1) = 10) := by
  have hd := List.dropLast_concat_getLast hl
  have hpos := List.length_pos_iff.2 hl
  have hg : gB l (l.length - 1) = ((l.getLast hl).toNat : Int) := by
    unfold gB
    rw [List.getLast_eq_getElem hl]
    simp [List.getD, List.getElem?_eq_getElem (show l.length - 1 < l.length by omega)]
  by_cases h : l.getLast hl = 10
  · right
    have hs : Lib.hasSuffix l [10] = true := by
      unfold Lib.hasSuffix
      rw [List.isSuffixOf_iff_suffix]
      exact ⟨l.dropLast, by rw [← h]; exact hd⟩
    refine ⟨?_, by rw [hg, h]; rfl⟩
    unfold Lib.trimSuffix
    rw [if_pos hs]
    have : l.take (l.length - ([10] : List UInt8).length) = l.dropLast := by rw [List.dropLast_eq_take]; rfl
    rw [h] at hd
    rw [this]; exact hd
  · left
    have hs : ¬ Lib.hasSuffix l [10] = true := by
      unfold Lib.hasSuffix
      rw [List.isSuffixOf_iff_suffix]
      rintro ⟨p, hp⟩
      apply h
      have : (p ++ [10]).getLast (by simp) = 10 := by simp
      rw [← this]
      congr 1
      exact hp.symm
    refine ⟨?_, ?_⟩
    · unfold Lib.trimSuffix
      rw [if_neg hs]
    · rw [hg]
      intro e
      apply h
      exact UInt8.toNat_inj.1 (by show _ = (10 : UInt8).toNat; simp; omega)
end Go.Proofs.YtohdmfedappenaaDoor
