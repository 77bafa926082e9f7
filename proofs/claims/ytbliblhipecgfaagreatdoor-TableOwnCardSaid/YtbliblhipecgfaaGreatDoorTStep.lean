/-
  One line's words put to a table of the call's own; how large such a table gets. Conditions as named.
-/
import Derived.Test.YtbliblhipecgfaaGreatDoorTBuild
import Derived.Test.YtbliblhipecgfaaGreatDoorSame2
import Derived.Test.YtbliblhipecgfaaGreatDoorClone
namespace Go.Proofs.YtbliblhipecgfaaGreatDoor
set_option linter.unusedVariables false
open Go.RowKit
structure SzT (u : Tb) (m : Nat) : Prop where
  s : u.sch.length ≤ m
  c : u.cts.length ≤ m
  k : u.kds.length ≤ m
  sl : ∀ x ∈ u.sch, x.length ≤ 1000
  cl : ∀ x ∈ u.cts, x.bands.length ≤ 1000
theorem SzT.nil : SzT tb0 0 := ⟨Nat.le_refl _, Nat.le_refl _, Nat.le_refl _, fun x hx => by simp [tb0] at hx, fun x hx => by simp [tb0] at hx⟩
theorem SzT.put {u : Tb} {m : Nat} (h : SzT u m) (L : List ByteArray) (hL : L.length ≤ 1000) : SzT (putV u L) (m + 1) := by
  obtain ⟨h1, h2, h3, h4, h5⟩ := h
  have hr : ∀ b M, M.length ≤ 1000 → (rdL b M).length ≤ 1000 := fun b M hM => by unfold rdL; rw [List.length_map]; exact hM
  have hd : ∀ j, (L.drop j).length ≤ 1000 := fun j => by rw [List.length_drop]; omega
  unfold putV
  split
  · exact ⟨by dsimp only; omega, by dsimp only; omega, by dsimp only; omega, h4, h5⟩
  split
  · exact ⟨by dsimp only; omega, by dsimp only; omega, by dsimp only; omega, h4, h5⟩
  split
  · refine ⟨by simp; omega, by dsimp only; omega, by dsimp only; omega, fun x hx => ?_, h5⟩
    rcases List.mem_append.1 hx with hx | hx
    · exact h4 x hx
    · rw [List.mem_singleton.1 hx]; exact hr _ _ (hd 1)
  split
  · refine ⟨by dsimp only; omega, by simp; omega, by dsimp only; omega, h4, fun x hx => ?_⟩
    rcases List.mem_append.1 hx with hx | hx
    · exact h5 x hx
    · rw [List.mem_singleton.1 hx]
      refine hr _ _ ?_
      rw [List.length_drop]; have := hd 1; omega
  · exact ⟨by dsimp only; omega, by dsimp only; omega, by simp; omega, h4, h5⟩
theorem getD_all {α : Type} {P : α → Prop} {l : List α} {d : α} (h : ∀ x ∈ l, P x) {j : Nat} (hj : j < l.length) : P (l.getD j d) := h _ (getD_mem hj)
--%%
def StepR (u : Tb) (L : List ByteArray) (n : Nat) (old : Value) (w : World) (e : Ending) (w' : World) : Prop :=
  ((putE n L = 0 ∧ ∃ (As Ac Ak : Option Addr) (ns cs nc cc nk ck : Nat) (lim rnd : Int), e = .returned (.tuple #[.agg #[.slice As ns cs, .slice Ac nc cc, .slice Ak nk ck, .int .i64 lim, .int .i64 rnd], .int .i64 0]) ∧ (lim = (putV u L).lim ∧ rnd = (putV u L).rnd) ∧ OwnT w' w.heap.size (putV u L).sch (putV u L).cts (putV u L).kds As Ac Ak ns cs nc cc nk ck) ∨
   (putE n L ≠ 0 ∧ e = .returned (.tuple #[old, .int .i64 (putE n L)]))) ∧ Below w.heap.size w w'
theorem tstep_c (u : Tb) (m : Nat) (hz : SzT u m) (hm9 : m ≤ 1000) (As Ac Ak : Option Addr) (ns cs nc cc nk ck : Nat) (lim rnd : Int) (hlr : lim = u.lim ∧ rnd = u.rnd) (A : Option Addr) (n c : Nat) (L : List ByteArray) (w : World) (v : TbIn w u.sch u.cts u.kds As Ac Ak ns cs nc cc nk ck) (hst : StSl w A n L) (hc : n ≤ c) (hL : n ≤ 1000) (hs : ∀ k, k < n → (L.getD k st0).size ≤ 1000000) (hm : ML w) (ht : TabS w) :
    Calls Tryz.prog 23 #[.agg #[.slice As ns cs, .slice Ac nc cc, .slice Ak nk ck, .int .i64 lim, .int .i64 rnd], .slice A n c] w (StepR u L n (.agg #[.slice As ns cs, .slice Ac nc cc, .slice Ak nk ck, .int .i64 lim, .int .i64 rnd]) w) := by
  obtain ⟨rfl, rfl⟩ := hlr
  have e1 := v.s.1
  have e2 := v.c.1
  have e3 := v.k.1
  have z1 := hz.s
  have z2 := hz.c
  have z3 := hz.k
  refine (tput_c u As Ac Ak ns cs nc cc nk ck A n c L w v.s v.c v.k ⟨by omega, by omega, by omega⟩ ⟨fun j hj => ?_, fun j hj => ?_⟩ hst hc hs hL hm ht).mono ?_
  · have := getD_all (d := []) hz.sl (j := j) (by omega); omega
  · have := getD_all (d := ct0) hz.cl (j := j) (by omega); omega
  · rintro e w' ⟨⟨h0, As', cs', Ac', cc', Ak', ck', rfl, ho'⟩ | ⟨h0, rfl⟩, hb⟩
    · exact ⟨Or.inl ⟨h0, As', Ac', Ak', _, cs', _, cc', _, ck', _, _, rfl, ⟨rfl, rfl⟩, ho'⟩, hb⟩
    · exact ⟨Or.inr ⟨h0, rfl⟩, hb⟩
--%%
/-! ### the lines of a table, put one behind the other -/
def stT (t : Tb) (k : Nat) : Tb := ((tbW t).take k).foldl putW tb0
theorem stT_step (t : Tb) (k : Nat) (hk : k < (tbW t).length) : stT t (k + 1) = putV (stT t k) (wsB ((tbW t).getD k [])) := by
  unfold stT
  rw [take_snoc (tbW t) [] k hk, List.foldl_append]; rfl
theorem stT_end {t : Tb} (h : tbE t = 0) : stT t (tbW t).length = t := by
  unfold stT; rw [List.take_length]; exact tb_fold h
theorem stT_sz {t : Tb} (h : tbE t = 0) : ∀ k, k ≤ (tbW t).length → SzT (stT t k) k := by
  intro k
  induction k with
  | zero => intro _; exact SzT.nil
  | succ k ih =>
    intro hk
    rw [stT_step t k (by omega)]
    refine (ih (by omega)).put _ ?_
    have := (tb_lines h _ (getD_mem (d := []) (by omega : k < (tbW t).length))).few
    unfold wsB
    rw [List.length_map]; omega
theorem tbL_get (t : Tb) (k : Nat) (hk : k < (tbW t).length) : (tbL t).getD k st0 = mkB (spJ ((tbW t).getD k [])) := by
  have h : k < (tbL t).length := by unfold tbL; rw [List.length_map]; exact hk
  rw [getD_get h, getD_get hk]
  simp [tbL]
theorem tbL_n (t : Tb) : (tbL t).length = (tbW t).length := by unfold tbL; rw [List.length_map]
theorem line_cut {t : Tb} (h : tbE t = 0) (k : Nat) (hk : k < (tbW t).length) : cutR ((tbL t).getD k st0).data.toList = (0, (tbW t).getD k []) := by
  have ln := tb_lines h _ (getD_mem (d := []) hk)
  rw [tbL_get t k hk]
  exact cut_sp _ (by have := ln.few; omega) ln.bare (by have := ln.len; omega)
theorem line_small {t : Tb} (h : tbE t = 0) (k : Nat) (hk : k < (tbW t).length) : ((tbL t).getD k st0).size ≤ 500 := by
  have ln := tb_lines h _ (getD_mem (d := []) hk)
  rw [tbL_get t k hk, mkB_size]
  exact ln.len
theorem words_small {t : Tb} (h : tbE t = 0) (k : Nat) (hk : k < (tbW t).length) : ((tbW t).getD k []).length ≤ 14 := (tb_lines h _ (getD_mem (d := []) hk)).few
theorem wcons_mem {a w : List UInt8} {x : Int × List (List UInt8)} (h : w ∈ (wcons a x).2) : w = a ∨ w ∈ x.2 := by
  unfold wcons at h
  split at h
  · exact List.mem_cons.1 h
  · simp at h
theorem wcons_len (a : List UInt8) (x : Int × List (List UInt8)) : (wcons a x).2.length ≤ x.2.length + 1 := by
  unfold wcons
  split
  · simp
  · simp
theorem cut_size : ∀ (l : List UInt8) (m n : Nat) (acc : List UInt8), ∀ w ∈ (cutM m l n acc).2, w.length ≤ l.length + acc.length := by
  intro l
  induction l with
  | nil =>
    intro m n acc w hw
    simp only [cutM] at hw
    repeat' split at hw
    all_goals first
      | (simp at hw; done)
      | (have h : w = acc := by simpa using hw
         subst h
         simp)
  | cons c r ih =>
    intro m n acc w hw
    simp only [cutM] at hw
    have hl : (c :: r).length = r.length + 1 := rfl
    repeat' split at hw
    all_goals first
      | (simp at hw; done)
      | (have h := ih _ _ _ w hw; (try simp only [List.length_append, List.length_cons, List.length_nil] at h); omega)
      | (rcases wcons_mem hw with h | h
         · rw [h]; omega
         · have h2 := ih _ _ _ w h; (try simp only [List.length_nil] at h2); omega)
      | (have h : w = acc := by simpa using hw
         subst h
         omega)
theorem cut_few : ∀ (l : List UInt8) (m n : Nat) (acc : List UInt8), (cutM m l n acc).2.length ≤ l.length + 1 := by
  intro l
  induction l with
  | nil =>
    intro m n acc
    simp only [cutM]
    repeat' split
    all_goals simp
  | cons c r ih =>
    intro m n acc
    simp only [cutM]
    have hl : (c :: r).length = r.length + 1 := rfl
    repeat' split
    all_goals first
      | (simp; done)
      | (have h := ih 0 n []; omega)
      | (have h := ih 2 n []; omega)
      | (have h := ih 1 n [c]; omega)
      | (have h := ih 1 n (acc ++ [c]); omega)
      | (have h := ih 2 n (acc ++ [c]); omega)
      | (have h := ih 3 n acc; omega)
      | (have h := ih 0 (n + 1) []; have h2 := wcons_len acc (cutM 0 r (n + 1) []); omega)
theorem cutR_size (l : List UInt8) : (∀ w ∈ (cutR l).2, w.length ≤ 512) ∧ (cutR l).2.length ≤ 513 := by
  unfold cutR
  split
  · simp
  · refine ⟨fun w hw => ?_, ?_⟩
    · have := cut_size l 0 0 [] w hw; simp at this; omega
    · have := cut_few l 0 0 []; omega
end Go.Proofs.YtbliblhipecgfaaGreatDoor
