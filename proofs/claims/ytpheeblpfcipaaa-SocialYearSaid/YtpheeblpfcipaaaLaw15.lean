/-
  Layer 15's laws: the walks of what they ask first. Conditions as named.
-/
import Derived.Test.YtpheeblpfcipaaaSoc2
import Derived.Test.YtpheeblpfcipaaaRef5b
import Derived.Deep.RegionHeld3
namespace Go.Proofs.Ytpheeblpfcipaaa
set_option linter.unusedVariables false
open Go.RowKit
/-- one of two, by a bool -/
def pick2 (b : Bool) (x y : Int) : Int := if b then y else x
--%%
theorem due_c (nm : ByteArray) (base pc yc rd : Int) (A : Option Addr) (n c : Nat) (l : List Bd) (x : Int) (w : World) (h : BandSl w A n l) (hl : bandsErr l = 0) (hx : mrB x = true) (hm : modeB rd = true) :
    Calls Try.prog 12 #[.agg #[.string nm, .int .i64 base, .slice A n c, .int .i64 pc, .int .i64 yc, .int .i64 rd], .int .i64 x] w fun e w' => e = .returned (.agg #[.int .i64 (roundI (bandS (·.r) l x) 10000 rd), .int .i64 (roundI (bandS (·.e) l x) 10000 rd)]) ∧ Below w.heap.size w w' := by
  have hbd := bandS_bd l hl x hx
  have K1 : Hid (∀ (bv : Bool) (W : World), Below w.heap.size w W → Calls Try.prog 13 #[.int .i64 x, .slice A n c, .bool bv] W fun e w' => e = .returned (.int .i64 (pick2 bv (bandS (·.r) l x) (bandS (·.e) l x))) ∧ W = w') := fun bv W hW => by
    cases bv
    · exact rexact1_c x l A n c W (h.below hW) hl hx
    · exact rexact2_c x l A n c W (h.below hW) hl hx
  generalize bandS (·.r) l x = P at *
  generalize bandS (·.e) l x = E at *
  have K3 : Hid (∀ (bv : Bool) (W : World), Calls Try.prog 26 #[.int .i64 (pick2 bv P E), .int .i64 rd] W fun e w' => e = .returned (.int .i64 (pick2 bv (roundI P 10000 rd) (roundI E 10000 rd))) ∧ W = w') := fun bv W => by
    cases bv
    · exact rround_c P rd W (by omega) (by omega) hm
    · exact rround_c E rd W (by omega) (by omega) hm
  have p1 : pick2 false (roundI P 10000 rd) (roundI E 10000 rd) = roundI P 10000 rd := rfl
  have p2 : pick2 true (roundI P 10000 rd) (roundI E 10000 rd) = roundI E 10000 rd := rfl
  generalize roundI P 10000 rd = rp at *
  generalize roundI E 10000 rd = re at *
  have H1 := Lib.hid p1
  have H2 := Lib.hid p2
  clear hl hbd p1 p2
  have z := (Blk.mk w 31 #[.string nm, .int .i64 base, .slice A n c, .int .i64 pc, .int .i64 yc, .int .i64 rd]).alloc (.cells #[.int .i64 0, .int .i64 0] 33)
  have y := Blk.mk (w.alloc (.cells #[.string nm, .int .i64 base, .slice A n c, .int .i64 pc, .int .i64 yc, .int .i64 rd] 31)) 33 #[.int .i64 0, .int .i64 0]
  rw [World.size_alloc] at y
  have hb0 := bA (below1 w (.cells #[.string nm, .int .i64 base, .slice A n c, .int .i64 pc, .int .i64 yc, .int .i64 rd] 31)) (.cells #[.int .i64 0, .int .i64 0] 33)
  go_enter Try.func12, Try.ntmps12
  go_wp2_with fail
  generalize hW : (w.alloc (.cells #[.string nm, .int .i64 base, .slice A n c, .int .i64 pc, .int .i64 yc, .int .i64 rd] 31)).alloc (.cells #[.int .i64 0, .int .i64 0] 33) = w2 at *
  clear hW
  obtain ⟨x0, x1, x2, x3⟩ := y.all2
  have zf : Hid (∀ u v, Blk ((w2.setCell ⟨w.heap.size + 1, 0, none⟩ u).setCell ⟨w.heap.size + 1, 1, none⟩ v) w.heap.size 31 #[.string nm, .int .i64 base, .slice A n c, .int .i64 pc, .int .i64 yc, .int .i64 rd]) := fun u v => (z.far (a := ⟨w.heap.size + 1, 0, none⟩) (Nat.ne_of_lt (Nat.lt_succ_self _)) u).far (a := ⟨w.heap.size + 1, 1, none⟩) (Nat.ne_of_lt (Nat.lt_succ_self _)) v
  go_region_held3 (fun W => Below w.heap.size w W ∧ W.cell? ⟨w.heap.size, 2, none⟩ = some (.slice A n c) ∧ W.cell? ⟨w.heap.size, 5, none⟩ = some (.int .i64 rd))
    (first | assumption | exact ⟨hb0.drew, z.cell 2, z.cell 5⟩ | exact ⟨(bS (bS hb0 (Nat.le_succ _) _) (Nat.le_succ _) _).drew, (zf.out _ _).cell 2, (zf.out _ _).cell 5⟩)
    (first
      | (go_at_call 13; (with_reducible refine (K1.out _ _ (show Below w.heap.size w _ ∧ _ from by assumption).1).mono ?_); rintro e w1 ⟨rfl, rfl⟩)
      | (go_at_call 26; (with_reducible refine (K3.out _ _).mono ?_); rintro e w1 ⟨rfl, rfl⟩))
  all_goals
    have hbz := (show Below w.heap.size w _ ∧ _ from by assumption).1
    have p1 := H1.out
    have p2 := H2.out
    go_wp2_with fail
    exact bodyPost_ret (v := .agg #[.int .i64 rp, .int .i64 re]) (by simp [results, Try.results12, go_sem, x0, x1, x2, x3, p1, p2]) rfl ⟨rfl, ⟨hbz.os, hbz.tape, hbz.output, hbz.size, hbz.block⟩⟩
--%%
/-- the contribution of the example -/
def fundC : Ct := ⟨⟨#[102, 117, 110, 100]⟩, 2, [⟨0, 500, 1000⟩], 1000, 2500, 4⟩
def Fund (w : World) (e : Ending) (w' : World) : Prop := (∃ As Ac Ak b off, e = .returned (.agg #[.slice (some As) 1 1, .slice (some ⟨Ac, 0, none⟩) 1 1, .slice (some Ak) 1 1, .int .i64 5000, .int .i64 1]) ∧ Ac < w'.heap.size ∧ w'.cell? ⟨Ac, 0, none⟩ = some (.string ⟨#[102, 117, 110, 100]⟩) ∧ w'.cell? ⟨Ac, 1, none⟩ = some (.int .i64 2) ∧ w'.cell? ⟨Ac, 2, none⟩ = some (.slice (some ⟨b, off, none⟩) 1 1) ∧
  w'.cell? ⟨Ac, 3, none⟩ = some (.int .i64 1000) ∧ w'.cell? ⟨Ac, 4, none⟩ = some (.int .i64 2500) ∧ w'.cell? ⟨Ac, 5, none⟩ = some (.int .i64 4) ∧ BandSl w' (some ⟨b, off, none⟩) 1 [⟨0, 500, 1000⟩]) ∧ Below w.heap.size w w'
theorem fund_c (w : World) : Calls Try.prog 19 #[] w (Fund w) := by
  go_enter Try.func19, Try.ntmps19
  go_wp2_with fail
  refine bodyPost_ret (v := .agg #[.slice (some ⟨w.heap.size + 2, 0, none⟩) 1 1, .slice (some ⟨w.heap.size + 4, 0, none⟩) 1 1, .slice (some ⟨w.heap.size + 5, 0, none⟩) 1 1, .int .i64 5000, .int .i64 1]) (by simp [results, Try.results19, go_sem]) rfl ?_
  refine ⟨⟨_, _, _, w.heap.size + 3, 0, rfl, by simp, by simp [cell_alloc], by simp [cell_alloc], by simp [cell_alloc], by simp [cell_alloc], by simp [cell_alloc], by simp [cell_alloc], rfl, by decide, fun _ => ⟨w.heap.size + 3, 0, rfl, by simp, fun k hk => ?_⟩⟩, ?_⟩
  · obtain rfl : k = 0 := by simp at hk; omega
    simp [cell_alloc]
  · repeat (first | exact Below.refl _ _ | refine Below.alloc ?_ (by simp; omega) _ | refine Below.alloc ?_ (by simp) _ | refine Below.setCell ?_ (by simp) _)
--%%
end Go.Proofs.Ytpheeblpfcipaaa
