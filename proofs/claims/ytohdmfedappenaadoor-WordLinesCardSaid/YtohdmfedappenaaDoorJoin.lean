/-
  Contract of word.Join. Conditions as named.
-/
import Derived.Test.YtohdmfedappenaaDoorLine
import Derived.Test.YtohdmfedappenaaDoorBuild
import Derived.Test.YtohdmfedappenaaDoorShelf
namespace Go.Proofs.YtohdmfedappenaaDoor
set_option linter.unusedVariables false
open Go.RowKit
theorem joinT_stick (ws : List (List UInt8)) (k : Nat) (h : (joinT ws k).1 ≠ 0) : ∀ n, k ≤ n → joinT ws n = joinT ws k := by
  intro n
  induction n with
  | zero => intro hk; obtain rfl : k = 0 := by omega
            rfl
  | succ n ih =>
    intro hk
    rcases (by omega : k = n + 1 ∨ k ≤ n) with rfl | hk
    · rfl
    · have e := ih hk
      rw [joinT, e, if_pos h]
/-- words joined, or why they aren't -/
def joinR (ws : List (List UInt8)) : Int × List UInt8 := if 32 < ws.length then (2, []) else joinT ws ws.length
theorem joinT_nil (ws : List (List UInt8)) : ∀ k, (joinT ws k).1 ≠ 0 → (joinT ws k).2 = [] := by
  intro k
  induction k with
  | zero => intro h; exact absurd rfl h
  | succ k ih =>
    intro h
    rw [joinT] at h ⊢
    by_cases h0 : (joinT ws k).1 ≠ 0
    · rw [if_pos h0]; exact ih h0
    · rw [if_neg h0] at h ⊢
      by_cases h1 : qE (ws.getD k []) ≠ 0
      · rw [if_pos h1]
      · rw [if_neg h1] at h ⊢
        by_cases h2 : 512 < ((joinT ws k).2 ++ ((if k = 0 then [] else [32]) ++ qT (ws.getD k []))).length
        · rw [if_pos h2]
        · rw [if_neg h2] at h; exact absurd rfl h
theorem qT_len (l : List UInt8) : (qT l).length ≤ l.length + 2 := by
  unfold qT
  split
  · split
    · omega
    · simp
  · simp
--%%
def JoinQ (R : Int × List UInt8) (w : World) (e : Ending) (w' : World) : Prop := e = .returned (.tuple #[.string ⟨R.2.toArray⟩, .int .i64 R.1]) ∧ Below w.heap.size w w'
set_option maxRecDepth 100000 in
set_option maxHeartbeats 6400000 in
theorem join_c (A : Option Addr) (n c : Nat) (L : List ByteArray) (w : World) (hl : StSl w A n L) (hs : ∀ k, k < n → (L.getD k st0).size ≤ 140737488351232) (R : Int × List UInt8) (hR : Hid (R = joinR (L.map fun s => s.data.toList))) :
    Calls Tryd.prog 9 #[.slice A n c] w (JoinQ R w) := by
  obtain ⟨ws, hws⟩ : ∃ ws, ws = L.map fun s => s.data.toList := ⟨_, rfl⟩
  have hn : n = ws.length := by rw [hws, List.length_map]; exact hl.1
  have hn9 := hl.2.1
  have HW : Hid (∀ k, k < n → ws.getD k [] = (L.getD k st0).data.toList) := fun k hk => by
    have h1 : k < L.length := by rw [← hl.1]; exact hk
    rw [hws]; simp [List.getD, h1]
  have HR : Hid (R = joinR ws) := by rw [hws]; exact hR
  have HL := Lib.hid hl
  have HSZ := Lib.hid hs
  have HN := Lib.hid hn
  clear hl hs hws hR hn
  by_cases h32 : 32 < n
  · have v : decide ((32 : Int) < (n : Int)) = true := by simp; omega
    have e : R = (2, []) := by rw [HR.out]; unfold joinR; rw [if_pos (by rw [← HN.out]; exact h32)]
    subst e
    clear HR
    go_enter Tryd.func9, Tryd.ntmps9
    go_wp2_with fail
    go_ret2
    exact ⟨rfl, b0 _⟩
  have v : decide ((32 : Int) < (n : Int)) = false := by simp; omega
  have HR2 : Hid (R = joinT ws n) := by unfold Hid; rw [HR.out]; unfold joinR; rw [if_neg (by rw [← HN.out]; exact h32), ← HN.out]
  have HST : Hid (∀ k, k ≤ n → (joinT ws k).1 ≠ 0 → R = joinT ws k) := fun k hk h => by rw [HR2.out]; exact joinT_stick ws k h n hk
  have HJN := Lib.hid (joinT_nil ws)
  have HJO : Hid (∀ k, k ≤ n → (joinT ws k).1 = 0 → (joinT ws k).2.length ≤ 512) := fun k hk h => (joinT_ok ws k (by rw [← HN.out]; exact hk) h).2.2
  clear HR
  go_enter Tryd.func9, Tryd.ntmps9
  go_wp2_with fail
  go_loopw [14] (fun i wr => ∃ k : Nat, k ≤ n ∧ i = .int .i64 k ∧ Hid ((joinT ws k).1 = 0) ∧ Lib.IsBuilder 43 5 w.heap.size w.heap.size (Lib.byteCells (joinT ws k).2) wr ∧ Below w.heap.size w wr) (fun i _ => n - (intOf i).toNat)
  case atStart => exact ⟨0, Nat.zero_le _, rfl, rfl, Or.inl ⟨Nat.le_refl _, .slice none 0 0, Blk.mk w _ _, World.ownsRow_nil _ _ _ _, by simp [Value.ownBlock]⟩, below1 _ _⟩
  case round =>
    obtain ⟨k, hk', rfl, HA, hib, hbl⟩ := hrel
    have hsz := hbl.size
    have HIB := Lib.hid hib
    clear hib
    by_cases hk : k < n
    case neg =>
      obtain rfl : k = n := by omega
      go_wp2_with fail
      refine (Tryd.Builder_String_any _ _ _ _ HIB.out hsz).mono ?_
      rintro e w2 ⟨rfl, hb2⟩
      go_wp2_with fail
      go_ret2
      refine ⟨?_, hbl.trans hb2⟩
      rw [HR2.out, HA.out]
      rfl
    obtain ⟨b, off, rfl, hlt, hat⟩ := (HL.out.below hbl).2.2 (by omega)
    have c0 : wr.cell? ⟨b, off + k, none⟩ = some (.string (L.getD k st0)) := by
      have := hat k hk 0 _ rfl
      simpa using this
    have hz := HSZ.out k hk
    have hlo := HJO.out k hk' HA.out
    have hJ1 : joinT ws (k + 1) = if qE (ws.getD k []) ≠ 0 then (5, []) else if 512 < ((joinT ws k).2 ++ ((if k = 0 then [] else [32]) ++ qT (ws.getD k []))).length then (2, []) else (0, (joinT ws k).2 ++ ((if k = 0 then [] else [32]) ++ qT (ws.getD k []))) := by
      rw [joinT, if_neg (by simp [HA.out])]
    rw [HW.out k hk] at hJ1
    have HJ1 := Lib.hid hJ1
    have HS1 := Lib.hid (HST.out (k + 1) (by omega))
    have KQ := Lib.hid (fun W => quote_c (L.getD k st0) W (by omega) _ _ (Lib.hid rfl) (Lib.hid rfl))
    generalize L.getD k st0 = s at *
    have hql := qT_len s.data.toList
    have hsl : s.data.toList.length = s.size := by simp
    rw [hsl] at hql
    have HQE : Hid (qE s.data.toList ≠ 0 → qE s.data.toList = 5) := fun h => by unfold qE at h ⊢; split; (rename_i h'; rw [if_pos h'] at h; exact absurd rfl h); rfl
    generalize qE s.data.toList = qe at *
    generalize qT s.data.toList = qt at *
    generalize (joinT ws k).2 = bs at *
    clear hat hJ1
    by_cases hq : qe = 0
    case neg =>
      have v1 : (qe != 0) = true := by simpa using hq
      have e1 : joinT ws (k + 1) = (5, []) := HJ1.out.trans (if_pos hq)
      have e2 : R = (5, []) := (HS1.out (by rw [e1]; decide)).trans e1
      have HE2 := Lib.hid e2
      have e3 : qe = 5 := HQE.out hq
      subst e3
      clear e1 e2 hq HJ1 hql HQE
      go_wp2_with fail
      refine (KQ.out _).mono ?_
      rintro e w2 ⟨rfl, rfl⟩
      go_wp2_with fail
      go_ret2
      exact ⟨by rw [HE2.out]; rfl, hbl⟩
    subst hq
    have HJ2 : Hid (joinT ws (k + 1) = if 512 < (bs ++ ((if k = 0 then [] else [32]) ++ qt)).length then (2, []) else (0, bs ++ ((if k = 0 then [] else [32]) ++ qt))) := HJ1.out.trans (if_neg (by simp))
    clear HJ1
    have hqz : (⟨qt.toArray⟩ : ByteArray).size ≤ 140737488351234 := by show qt.toArray.size ≤ _; simp; omega
    have hqz2 : (⟨qt.toArray⟩ : ByteArray).size = qt.length := by show qt.toArray.size = _; simp
    have HBC := Lib.hid (Lib.byteCells_length bs)
    have HZ2 := Lib.hid hqz2
    clear hqz2 hsl HQE
    have HGO : Hid (∀ (bs2 : List UInt8), joinT ws (k + 1) = (if 512 < bs2.length then (2, []) else (0, bs2)) → (512 < bs2.length → R = (2, [])) ∧ (¬ 512 < bs2.length → (joinT ws (k + 1)).1 = 0 ∧ (joinT ws (k + 1)).2 = bs2)) := fun bs2 h => by
      constructor
      · intro h2
        rw [if_pos h2] at h
        exact (HS1.out (by rw [h]; decide)).trans h
      · intro h2
        rw [if_neg h2] at h
        rw [h]; exact ⟨rfl, rfl⟩
    by_cases hk0 : k = 0
    · have vk : decide (0 < k) = false := by simp; omega
      have HJ3 : Hid (joinT ws (k + 1) = if 512 < (bs ++ qt).length then (2, []) else (0, bs ++ qt)) := by have := HJ2.out; rw [if_pos hk0, List.nil_append] at this; exact this
      clear HJ2 hk0
      go_wp2_with fail
      refine (KQ.out _).mono ?_
      rintro e w2 ⟨rfl, rfl⟩
      go_wp2_with fail
      refine (bstring_c _ _ _ ⟨qt.toArray⟩ _ HIB.out (by rw [HBC.out]; omega) hsz).mono ?_
      rintro e w3 ⟨rfl, hib3, hb3⟩
      have hbl3 := hbl.trans hb3
      have HI3 : Hid (Lib.IsBuilder 43 5 w.heap.size w.heap.size (Lib.byteCells (bs ++ qt)) w3) := by
        unfold Hid
        rw [Lib.byteCells_append]
        exact Or.inr hib3
      clear hib3
      obtain ⟨g1, g2⟩ := HGO.out _ HJ3.out
      have HG1 := Lib.hid g1
      have HG2 := Lib.hid g2
      clear g1 g2 HGO HJ3
      have HLB := Lib.hid (Lib.byteCells_length (bs ++ qt))
      generalize (bs ++ qt) = bs2 at *
      obtain ⟨bc, hbc⟩ : ∃ bc, Lib.byteCells bs2 = bc := ⟨_, rfl⟩
      rw [hbc] at HI3 HLB
      have HBD := Lib.hid hbc
      clear hbc
      have hlb := HLB.out
      go_wp2_with fail
      refine (Tryd.Builder_Len _ _ _ _ HI3.out).mono ?_
      rintro e w5 ⟨rfl, rfl⟩
      by_cases h512 : 512 < bs2.length
      · have v5 : decide ((512 : Int) < (bc.length : Int)) = true := by simp; omega
        have HE := Lib.hid (HG1.out h512)
        clear h512 hlb
        go_wp2_with fail
        go_ret2
        exact ⟨by rw [HE.out]; rfl, hbl3⟩
      · have v5 : decide ((512 : Int) < (bc.length : Int)) = false := by simp; omega
        obtain ⟨e1, e2⟩ := HG2.out h512
        have HE1 := Lib.hid e1
        have HE2 := Lib.hid e2
        clear e1 e2 h512 hlb
        go_wp2_with fail
        go_roundw
        case rel => exact ⟨k + 1, by omega, by go_num, HE1.out, by rw [HE2.out, HBD.out]; exact HI3.out, hbl3⟩
        case measure => simp [intOf]; omega
    · have vk : decide (0 < k) = true := by simp; omega
      have HJ3 : Hid (joinT ws (k + 1) = if 512 < (bs ++ ([32] ++ qt)).length then (2, []) else (0, bs ++ ([32] ++ qt))) := by have := HJ2.out; rw [if_neg hk0] at this; exact this
      clear HJ2 hk0
      go_wp2_with fail
      refine (KQ.out _).mono ?_
      rintro e w2 ⟨rfl, rfl⟩
      go_wp2_with fail
      refine (bbyte_c _ _ _ 32 _ HIB.out (by rw [HBC.out]; omega) hsz).mono ?_
      rintro e w4 ⟨rfl, hib4, hb4⟩
      have hbl4 := hbl.trans hb4
      have hsz4 := hbl4.size
      have HI4 : Hid (Lib.IsBuilder 43 5 w.heap.size w.heap.size (Lib.byteCells bs ++ [.int .u8 32]) w4) := Or.inr hib4
      clear hib4
      go_wp2_with fail
      refine (bstring_c _ _ _ ⟨qt.toArray⟩ _ HI4.out (by rw [List.length_append, HBC.out]; simp; omega) hsz4).mono ?_
      rintro e w3 ⟨rfl, hib3, hb3⟩
      have hbl3 := hbl4.trans hb3
      have HI3 : Hid (Lib.IsBuilder 43 5 w.heap.size w.heap.size (Lib.byteCells (bs ++ ([32] ++ qt))) w3) := by
        unfold Hid
        rw [Lib.byteCells_append, Lib.byteCells_append, ← List.append_assoc]
        exact Or.inr hib3
      clear hib3
      obtain ⟨g1, g2⟩ := HGO.out _ HJ3.out
      have HG1 := Lib.hid g1
      have HG2 := Lib.hid g2
      clear g1 g2 HGO HJ3
      have HLB := Lib.hid (Lib.byteCells_length (bs ++ ([32] ++ qt)))
      generalize (bs ++ ([32] ++ qt)) = bs2 at *
      obtain ⟨bc, hbc⟩ : ∃ bc, Lib.byteCells bs2 = bc := ⟨_, rfl⟩
      rw [hbc] at HI3 HLB
      have HBD := Lib.hid hbc
      clear hbc
      have hlb := HLB.out
      go_wp2_with fail
      refine (Tryd.Builder_Len _ _ _ _ HI3.out).mono ?_
      rintro e w5 ⟨rfl, rfl⟩
      by_cases h512 : 512 < bs2.length
      · have v5 : decide ((512 : Int) < (bc.length : Int)) = true := by simp; omega
        have HE := Lib.hid (HG1.out h512)
        clear h512 hlb
        go_wp2_with fail
        go_ret2
        exact ⟨by rw [HE.out]; rfl, hbl3⟩
      · have v5 : decide ((512 : Int) < (bc.length : Int)) = false := by simp; omega
        obtain ⟨e1, e2⟩ := HG2.out h512
        have HE1 := Lib.hid e1
        have HE2 := Lib.hid e2
        clear e1 e2 h512 hlb
        go_wp2_with fail
        go_roundw
        case rel => exact ⟨k + 1, by omega, by go_num, HE1.out, by rw [HE2.out, HBD.out]; exact HI3.out, hbl3⟩
        case measure => simp [intOf]; omega
--%%
end Go.Proofs.YtohdmfedappenaaDoor
