/-
  Layer 7's laws: the example that is asked first. Conditions as named.
-/
import Derived.Test.YtohdmfedappenaaDoorCut
import Derived.Test.YtohdmfedappenaaDoorJoin
import Derived.Test.YtohdmfedappenaaDoorInt
import Derived.Test.YtohdmfedappenaaDoorOption
import Derived.Test.YtohdmfedappenaaDoorName
namespace Go.Proofs.YtohdmfedappenaaDoor
set_option linter.unusedVariables false
open Go.RowKit
def exCut : Int × List (List UInt8) := (0, [[112, 97, 121], [97, 110, 110], [97, 32, 35, 32, 98], [45, 49, 50]])
theorem exCut_e : exCut = cutR (⟨#[112, 97, 121, 32, 97, 110, 110, 32, 32, 34, 97, 32, 35, 32, 98, 34, 32, 45, 49, 50, 32, 35, 32, 115, 111]⟩ : ByteArray).data.toList := by decide +kernel
def exJoinL : List ByteArray := [⟨#[112, 97, 121]⟩, ⟨#[]⟩, ⟨#[97, 32, 98]⟩]
theorem exJoin_e : ((0, [112, 97, 121, 32, 34, 34, 32, 34, 97, 32, 98, 34]) : Int × List UInt8) = joinR (exJoinL.map fun s => s.data.toList) := by decide +kernel
theorem exInt_e : (0 : Int) = inE (⟨#[45, 49, 50]⟩ : ByteArray).data.toList := by decide +kernel
theorem exInt_v : (-12 : Int) = inV (⟨#[45, 49, 50]⟩ : ByteArray).data.toList := by decide +kernel
theorem exOp_a : [120] = opA (⟨#[120, 61, 49, 61, 50]⟩ : ByteArray).data.toList := by decide +kernel
theorem exOp_b : [49, 61, 50] = opB (⟨#[120, 61, 49, 61, 50]⟩ : ByteArray).data.toList := by decide +kernel
theorem exOp_k : true = opK (⟨#[120, 61, 49, 61, 50]⟩ : ByteArray).data.toList := by decide +kernel
theorem exNm_1 : true = nameB (⟨#[97, 110, 110, 45, 50]⟩ : ByteArray).data.toList := by decide +kernel
theorem exNm_2 : false = nameB (⟨#[50, 97, 110, 110]⟩ : ByteArray).data.toList := by decide +kernel
theorem exLn : (lnL (⟨#[97, 10, 10, 98, 10]⟩ : ByteArray).data.toList).length = 3 := by decide +kernel
theorem ex_jst (w : World) : StSl (w.alloc (.cells #[.string ⟨#[112, 97, 121]⟩, .string ⟨#[]⟩, .string ⟨#[97, 32, 98]⟩] 9)) (some ⟨w.heap.size, 0, none⟩) 3 exJoinL := by
  refine ⟨rfl, by decide, fun _ => ⟨w.heap.size, 0, rfl, by simp, fun k hk => ?_⟩⟩
  rcases (by omega : k = 0 ∨ k = 1 ∨ k = 2) with rfl | rfl | rfl
  all_goals
    intro j u hu
    have hj : j < 1 := (List.getElem?_eq_some_iff.1 hu).1
    rw [cell_alloc, if_pos rfl]
    obtain rfl : j = 0 := by omega
    injection hu with hu; subst hu; rfl
--%%
set_option maxRecDepth 100000 in
set_option maxHeartbeats 3200000 in
theorem reads_c (w : World) (hm : ML w) : Calls Tryd.prog 8 #[] w fun e w' => e = .returned (.bool true) ∧ Below w.heap.size w w' := by
  have HM := Lib.hid hm
  have KC := Lib.hid (fun W => cut_c ⟨#[112, 97, 121, 32, 97, 110, 110, 32, 32, 34, 97, 32, 35, 32, 98, 34, 32, 45, 49, 50, 32, 35, 32, 115, 111]⟩ W (by decide) exCut (Lib.hid exCut_e))
  have KJ := Lib.hid (fun A c W h => join_c A 3 c exJoinL W h (fun k hk => by rcases (by omega : k = 0 ∨ k = 1 ∨ k = 2) with rfl | rfl | rfl <;> decide) _ (Lib.hid exJoin_e))
  have KI := Lib.hid (fun W => int_c ⟨#[45, 49, 50]⟩ W (by decide) _ _ (Lib.hid exInt_v) (Lib.hid exInt_e))
  have KO := Lib.hid (fun W h => option_c ⟨#[120, 61, 49, 61, 50]⟩ W (by decide) h _ _ _ (Lib.hid exOp_a) (Lib.hid exOp_b) (Lib.hid exOp_k))
  have KN1 := Lib.hid (fun W => name_c ⟨#[97, 110, 110, 45, 50]⟩ W (by decide) _ (Lib.hid exNm_1))
  have KN2 := Lib.hid (fun W => name_c ⟨#[50, 97, 110, 110]⟩ W (by decide) _ (Lib.hid exNm_2))
  have KL := Lib.hid (fun W h => lines_c ⟨#[97, 10, 10, 98, 10]⟩ W (by decide) h)
  clear hm
  go_enter Tryd.func8, Tryd.ntmps8
  go_wp2_with fail
  refine (KC.out _).mono ?_
  rintro e w1 ⟨⟨_, v, rfl, ho⟩ | ⟨hc, _⟩, hb1⟩
  case inr => exact absurd rfl hc
  obtain ⟨A, c, rfl, hs⟩ := OwnSt.sl ho
  obtain ⟨b, off, rfl, hlt, hat⟩ := hs.2.2 (by decide)
  have HC : Hid (∀ W, Below w1.heap.size w1 W → W.cell? ⟨b, off + 2, none⟩ = some (.string ⟨#[97, 32, 35, 32, 98]⟩) ∧ W.cell? ⟨b, off + 3, none⟩ = some (.string ⟨#[45, 49, 50]⟩)) := fun W hW => ⟨(hW.cell (p := ⟨b, _, none⟩) hlt).trans (hat 2 (by decide) 0 _ rfl), (hW.cell (p := ⟨b, _, none⟩) hlt).trans (hat 3 (by decide) 0 _ rfl)⟩
  clear hat hs ho
  go_wp2_with fail
  refine (KJ.out _ _ _ (ex_jst w1)).mono ?_
  rintro e w2 ⟨rfl, hb2⟩
  have hB2 := bT (below1 w1 _) hb2
  go_wp2_with fail
  refine (KI.out _).mono ?_
  rintro e w3 ⟨rfl, hb3⟩
  have hB3 := bT hB2 hb3
  go_wp2_with fail
  refine (KO.out _ (HM.out.t (bT hb1 hB3))).mono ?_
  rintro e w4 ⟨rfl, hb4⟩
  have hB4 := bT hB3 hb4
  obtain ⟨d2, d3⟩ := HC.out _ hB4
  go_wp2_with fail
  refine (KN1.out _).mono ?_
  rintro e w5 ⟨rfl, rfl⟩
  go_wp2_with fail
  refine (KN2.out _).mono ?_
  rintro e w5 ⟨rfl, rfl⟩
  go_wp2_with fail
  refine (KL.out _ (HM.out.t (bT hb1 hB4))).mono ?_
  rintro e w5 ⟨⟨A5, c5, rfl, hs5⟩, hb5⟩
  clear hs5
  have hln := exLn
  go_wp2_with fail
  go_ret
  exact ⟨rfl, bT (bT hb1 hB4) hb5⟩
--%%
end Go.Proofs.YtohdmfedappenaaDoor
