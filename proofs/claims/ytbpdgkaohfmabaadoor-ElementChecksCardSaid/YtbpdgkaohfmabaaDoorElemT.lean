/-
  Contract of element.Text. Conditions as named.
-/
import Derived.Test.YtbpdgkaohfmabaaDoorElem
import Derived.Test.YtbpdgkaohfmabaaDoorText
import Derived.Test.YtbpdgkaohfmabaaDoorTextP
import Derived.Deep.RegionHeld3
namespace Go.Proofs.YtbpdgkaohfmabaaDoor
set_option linter.unusedVariables false
open Go.RowKit
/-- an element as it is written -/
def elT (k : ByteArray) (a u : Int) : List UInt8 := k.data.toList ++ 32 :: (textB a ++ (if u = 100 then [] else 32 :: 120 :: textB u))
set_option maxHeartbeats 1600000 in
theorem etext_c (k : ByteArray) (a u : Int) (w : World) (hk : k.size ≤ 100) (ha : -100000000000 ≤ a ∧ a ≤ 100000000000) (hu : 0 ≤ u ∧ u ≤ 100000) (htab : Tab w) :
    Calls Tryd.prog 23 #[.agg #[.string k, .int .i64 a, .int .i64 u]] w fun e w' => e = .returned (.string ⟨(elT k a u).toArray⟩) ∧ Below w.heap.size w w' := by
  obtain ⟨kl, rfl⟩ : ∃ kl : List UInt8, k = ⟨kl.toArray⟩ := ⟨k.data.toList, rfl⟩
  have hk2 : kl.length ≤ 100 := by simpa [ByteArray.size] using hk
  have z := Blk.mk w 23 #[.string ⟨kl.toArray⟩, .int .i64 a, .int .i64 u]
  have hb0 := below1 w (.cells #[.string ⟨kl.toArray⟩, .int .i64 a, .int .i64 u] 23)
  have HT := Lib.hid (htab.t hb0)
  have la := textB_len a ha.1 ha.2
  have lu := textB_len u (by omega) (by omega)
  have KA : Hid (∀ W, Tab W → Calls Tryd.prog 39 #[.int .i64 a] W fun e w' => e = .returned (.string ⟨(textB a).toArray⟩) ∧ Below W.heap.size W w') := fun W ht => text_c a W (by omega) (by omega) ht
  have KU : Hid (∀ W, Tab W → Calls Tryd.prog 39 #[.int .i64 u] W fun e w' => e = .returned (.string ⟨(textB u).toArray⟩) ∧ Below W.heap.size W w') := fun W ht => text_c u W (by omega) (by omega) ht
  have G : Hid (∀ W, Below ((w.alloc (.cells #[.string ⟨kl.toArray⟩, .int .i64 a, .int .i64 u] 23))).heap.size (w.alloc (.cells #[.string ⟨kl.toArray⟩, .int .i64 a, .int .i64 u] 23)) W → Below ((w.alloc (.cells #[.string ⟨kl.toArray⟩, .int .i64 a, .int .i64 u] 23))).heap.size (w.alloc (.cells #[.string ⟨kl.toArray⟩, .int .i64 a, .int .i64 u] 23)) W ∧ (W.cell? ⟨w.heap.size, 0, none⟩ = some (.string ⟨kl.toArray⟩) ∧ W.cell? ⟨w.heap.size, 1, none⟩ = some (.int .i64 a) ∧ W.cell? ⟨w.heap.size, 2, none⟩ = some (.int .i64 u)) ∧ Tab W) := fun W hW => ⟨hW, ⟨(z.t hW).cell 0, (z.t hW).cell 1, (z.t hW).cell 2⟩, HT.out.t hW⟩
  have HD : Hid (elT ⟨kl.toArray⟩ a u = kl ++ 32 :: (textB a ++ (if u = 100 then [] else 32 :: 120 :: textB u))) := rfl
  generalize elT ⟨kl.toArray⟩ a u = et at *
  generalize textB a = ta at *
  generalize textB u = tu at *
  have st1 : ∀ W, (Op.stringOp .add ⟨kl.toArray⟩ ⟨#[32]⟩).run Tryd.prog W = .ok (.string ⟨(kl ++ [32]).toArray⟩) W := fun W => run_string_add_lists W kl [32] (by omega) (by decide)
  have st2 : ∀ W, (Op.stringOp .add ⟨(kl ++ [32]).toArray⟩ ⟨ta.toArray⟩).run Tryd.prog W = .ok (.string ⟨(kl ++ [32] ++ ta).toArray⟩) W := fun W => run_string_add_lists W (kl ++ [32]) ta (by simp; omega) (by omega)
  by_cases h1 : u = 100
  · subst h1
    have HD2 : Hid (et = kl ++ 32 :: ta) := by unfold Hid; rw [HD.out]; simp
    clear ha hu htab
    go_enter Tryd.func23, Tryd.ntmps23
    go_wp2_with fail
    go_region_held3 (fun W => Below (w.alloc (.cells #[.string ⟨kl.toArray⟩, .int .i64 a, .int .i64 100] 23)).heap.size (w.alloc (.cells #[.string ⟨kl.toArray⟩, .int .i64 a, .int .i64 100] 23)) W ∧ (W.cell? ⟨w.heap.size, 0, none⟩ = some (.string ⟨kl.toArray⟩) ∧ W.cell? ⟨w.heap.size, 1, none⟩ = some (.int .i64 a) ∧ W.cell? ⟨w.heap.size, 2, none⟩ = some (.int .i64 100)) ∧ Tab W)
      (first | assumption | exact G.out _ (b0 _).drew | (exact sK G.out (by assumption) (by assumption)) | (exact sK G.out (by assumption) (below1 _ _)))
      (first | (go_at_call 39; (with_reducible refine (KA.out _ (show Below _ _ _ ∧ _ ∧ Tab _ from by assumption).2.2).mono ?_); rintro e w1 ⟨rfl, hb1⟩))
    all_goals
      have hbz := bT hb0 (show Below _ _ _ ∧ _ from by assumption).1
      go_wp2_with fail
      go_ret
      exact ⟨str_eq (by simp [HD2.out]), hbz⟩
  · have v1 : (u != 100) = true := by simpa using h1
    have HD2 : Hid (et = kl ++ 32 :: (ta ++ 32 :: 120 :: tu)) := by unfold Hid; rw [HD.out, if_neg h1]
    clear ha hu htab h1
    go_enter Tryd.func23, Tryd.ntmps23
    go_wp2_with fail
    go_region_held3 (fun W => Below ((w.alloc (.cells #[.string ⟨kl.toArray⟩, .int .i64 a, .int .i64 u] 23))).heap.size (w.alloc (.cells #[.string ⟨kl.toArray⟩, .int .i64 a, .int .i64 u] 23)) W ∧ (W.cell? ⟨w.heap.size, 0, none⟩ = some (.string ⟨kl.toArray⟩) ∧ W.cell? ⟨w.heap.size, 1, none⟩ = some (.int .i64 a) ∧ W.cell? ⟨w.heap.size, 2, none⟩ = some (.int .i64 u)) ∧ Tab W)
      (first | assumption | exact G.out _ (b0 _).drew | (exact sK G.out (by assumption) (by assumption)) | (exact sK G.out (by assumption) (below1 _ _)))
      (first | (go_at_call 39; (with_reducible refine (KA.out _ (show Below _ _ _ ∧ _ ∧ Tab _ from by assumption).2.2).mono ?_); rintro e w1 ⟨rfl, hb1⟩))
    all_goals
      have hS := (show Below _ _ _ ∧ (_ ∧ _ ∧ _) ∧ Tab _ from by assumption)
      have hbz := bT hb0 hS.1
      have q2 := hS.2.1.2.2
      go_wp2_with fail
      refine (KU.out _ hS.2.2).mono ?_
      rintro e w7 ⟨rfl, hb7⟩
      go_wp2_with fail
      go_ret
      exact ⟨str_eq (by rw [HD2.out]; simp), bT hbz hb7⟩
--%%
end Go.Proofs.YtbpdgkaohfmabaaDoor
