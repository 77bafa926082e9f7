/-
  Contracts of a book's ways: List, Clone, Cancel, Find. Conditions as named.
-/
import Derived.Test.YtmlphohnegmgkaaGreatBook4
namespace Go.Proofs.YtmlphohnegmgkaaGreat
set_option linter.unusedVariables false
set_option linter.unusedSimpArgs false
open Go.RowKit
theorem Bk.sl {w : World} {p : Nat} {l : List Od} (h : Bk w p l) : ∃ A c, Blk w p 192 #[.slice A l.length c] ∧ l.length ≤ c ∧ OdSl w A l.length l ∧ OwnOd w 0 (.slice A l.length c) l.length l := by
  obtain ⟨v, hB, hO⟩ := h
  obtain ⟨A, c, rfl, hnc, hs⟩ := hO.sl
  exact ⟨A, c, hB, hnc, hs, hO⟩
theorem blist_c (p : Nat) (l : List Od) (w : World) (hb : Bk w p l) (hn : l.length ≤ 1000) : Calls Tryz.prog 154 #[.pointer (some ⟨p, 0, none⟩)] w (GivesOd l.length l w) := by
  obtain ⟨A, c, hB, hnc, hs, hO⟩ := hb.sl
  have K := Lib.hid (sclone_c A l.length c l w hs (by omega))
  have d0 := hB.cell 0
  clear hs hO hb hB
  go_enter Tryz.func154, Tryz.ntmps154
  go_wp2_with fail
  refine K.out.mono ?_
  rintro e w1 ⟨⟨v, rfl, ho⟩, hb1⟩
  have HO := Lib.hid ho
  clear ho
  go_wp2_with fail
  go_ret
  exact ⟨⟨_, rfl, HO.out⟩, hb1⟩
def BkCloneR (l : List Od) (w : World) (e : Ending) (w' : World) : Prop := (∃ q, e = .returned (.pointer (some ⟨q, 0, none⟩)) ∧ w.heap.size ≤ q ∧ Bk w' q l) ∧ Below w.heap.size w w'
theorem bclone_c (p : Nat) (l : List Od) (w : World) (hb : Bk w p l) (hn : l.length ≤ 1000) : Calls Tryz.prog 114 #[.pointer (some ⟨p, 0, none⟩)] w (BkCloneR l w) := by
  obtain ⟨A, c, hB, hnc, hs, hO⟩ := hb.sl
  have K := Lib.hid (sclone_c A l.length c l w hs (by omega))
  have d0 := hB.cell 0
  clear hs hO hb hB
  go_enter Tryz.func114, Tryz.ntmps114
  go_wp2_with fail
  refine K.out.mono ?_
  rintro e w1 ⟨⟨v, rfl, ho⟩, hb1⟩
  obtain ⟨A5, c5, rfl⟩ := own_slice ho.2
  have HO := Lib.hid ho
  have hsz := hb1.size
  clear ho
  go_wp2_with fail
  go_ret
  exact ⟨⟨_, rfl, hsz, ⟨_, Blk.mk _ _ _, HO.out.1, own_more (own_below HO.out.2 (below1 _ _)) (Nat.zero_le _)⟩⟩, bA hb1 _⟩
end Go.Proofs.YtmlphohnegmgkaaGreat
