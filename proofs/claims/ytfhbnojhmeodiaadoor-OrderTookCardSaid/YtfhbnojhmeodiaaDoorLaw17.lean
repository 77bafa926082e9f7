/-
  Layer 17's laws: the example that is asked first. Conditions as named.
-/
import Derived.Test.YtfhbnojhmeodiaaDoorOrdParse
import Derived.Test.YtfhbnojhmeodiaaDoorBook9
import Derived.Laws.StructEq
namespace Go.Proofs.YtfhbnojhmeodiaaDoor
set_option linter.unusedVariables false
open Go.RowKit
theorem oparse_c (A : Option Addr) (n c : Nat) (L : List ByteArray) (w : World) (hl : StSl w A n L) (hs : ∀ k, k < n → (L.getD k st0).size ≤ 1000000) : Calls Tryd.prog 21 #[.slice A n c] w (OParR n L w) := by
  by_cases h : n = 5
  · subst h; exact oparse_5 A c L w hl hs
  · exact oparse_n A n c L w h hl.2.1
def bx1 : ByteArray := ⟨#[55]⟩
def bx2 : ByteArray := ⟨#[50]⟩
def bx3 : ByteArray := ⟨#[53, 48, 46, 48, 48]⟩
def bx4 : ByteArray := ⟨#[48]⟩
def bx5 : ByteArray := ⟨#[56, 48, 46, 48, 48]⟩
def bxL : List ByteArray := [bx1, bx2, bx3, bx4, bx5]
theorem bxL_e : opE 5 bxL = 0 := by decide +kernel
theorem bxL_v : opV bxL 0 = 7 ∧ opV bxL 1 = 2 ∧ opV bxL 2 = 5000 ∧ opV bxL 3 = 0 ∧ opV bxL 4 = 8000 := by decide +kernel
def ex7 : Od := ⟨7, 2, 5000, 0, 8000, 0, 0⟩
def ex9 : Od := ⟨9, 1, 0, 1000, 0, 0, 0⟩
def ex7t : Od := ⟨7, 2, 5000, 0, 8000, 4000, 1000⟩
def exT : Tk := ⟨7, 0, 0, 0, 4000, 1000⟩
theorem bx_a1 : addE [] ex7 = 0 ∧ addL [] ex7 = [ex7] := ⟨by kernel_rfl, by kernel_rfl⟩
theorem bx_a2 : addE [ex7] ex9 = 0 ∧ addL [ex7] ex9 = [ex9, ex7] := ⟨by kernel_rfl, by kernel_rfl⟩
theorem bx_t : tookE [ex9, ex7] [exT] = 0 ∧ tookL [ex9, ex7] [exT] = [ex9, ex7t] := ⟨by kernel_rfl, by kernel_rfl⟩
theorem bx_a3 : addE [ex9, ex7t] ex7 = 4 ∧ addL [ex9, ex7t] ex7 = [ex9, ex7t] := ⟨by kernel_rfl, by kernel_rfl⟩
theorem bx_c : canE [ex9, ex7t] 5 = 3 := by kernel_rfl
theorem bx_f : atO [ex9, ex7t] 7 = 1 := by kernel_rfl
theorem bx_s1 : SortO [ex7] := by simp [SortO]
theorem bx_s2 : SortO [ex9, ex7t] := by simp [SortO, befI_lt]; decide
theorem bx_o7 : OdOK ex7t := ⟨⟨by decide, by decide, by decide, by decide, by decide, by decide⟩, by decide, by decide⟩
theorem bx_o9 : OdOK ex9 := ⟨⟨by decide, by decide, by decide, by decide, by decide, by decide⟩, by decide, by decide⟩
theorem bx_st (w : World) : StSl (w.alloc (.cells #[.string bx1, .string bx2, .string bx3, .string bx4, .string bx5] 9)) (some ⟨w.heap.size, 0, none⟩) 5 bxL := by
  refine ⟨rfl, by decide, fun _ => ⟨w.heap.size, 0, rfl, by simp, fun k hk => ?_⟩⟩
  rcases (by omega : k = 0 ∨ k = 1 ∨ k = 2 ∨ k = 3 ∨ k = 4) with rfl | rfl | rfl | rfl | rfl
  all_goals
    intro j u hu
    have hj : j < 1 := (List.getElem?_eq_some_iff.1 hu).1
    rw [cell_alloc, if_pos rfl]
    obtain rfl : j = 0 := by omega
    injection hu with hu; subst hu; rfl
theorem bx_tk (w : World) : TkSl (w.alloc (.cells #[.int .i64 7, .int .i64 0, .int .i64 0, .int .i64 0, .int .i64 4000, .int .i64 1000] 41)) (some ⟨w.heap.size, 0, none⟩) 1 [exT] := by
  refine ⟨rfl, by decide, fun _ => ⟨w.heap.size, 0, rfl, by simp, fun k hk => ?_⟩⟩
  obtain rfl : k = 0 := by omega
  intro j u hu
  have hj : j < 6 := (List.getElem?_eq_some_iff.1 hu).1
  rw [cell_alloc, if_pos rfl]
  rcases (by omega : j = 0 ∨ j = 1 ∨ j = 2 ∨ j = 3 ∨ j = 4 ∨ j = 5) with rfl | rfl | rfl | rfl | rfl | rfl <;> (injection hu with hu; subst hu; rfl)
theorem bx_parse (A : Option Addr) (w : World) (h : StSl w A 5 bxL) : Calls Tryd.prog 21 #[.slice A 5 5] w fun e w' => e = .returned (.tuple #[.agg #[.int .i64 7, .int .i64 2, .int .i64 5000, .int .i64 0, .int .i64 8000], .int .i64 0]) ∧ Below w.heap.size w w' := by
  refine (oparse_c A 5 5 bxL w h (fun k hk => by rcases (by omega : k = 0 ∨ k = 1 ∨ k = 2 ∨ k = 3 ∨ k = 4) with rfl | rfl | rfl | rfl | rfl <;> decide)).mono ?_
  rintro e w' ⟨⟨h1, _⟩ | ⟨_, rfl⟩, hb⟩
  · exact absurd bxL_e h1
  · obtain ⟨a, b, c, d, f⟩ := bxL_v
    rw [a, b, c, d, f]
    exact ⟨rfl, hb⟩
theorem bx_left (W : World) : Calls Tryd.prog 39 #[.agg #[.int .i64 7, .int .i64 2, .int .i64 5000, .int .i64 0, .int .i64 8000, .int .i64 4000, .int .i64 1000]] W fun e w' => e = .returned (.int .i64 3000) ∧ Below W.heap.size W w' := left_c 7 2 5000 0 8000 4000 1000 W bx_o7
theorem bx_over (W : World) : Calls Tryd.prog 40 #[.agg #[.int .i64 7, .int .i64 2, .int .i64 5000, .int .i64 0, .int .i64 8000, .int .i64 4000, .int .i64 1000]] W fun e w' => e = .returned (.bool false) ∧ Below W.heap.size W w' := over_c 7 2 5000 0 8000 4000 1000 W false (by unfold Hid; decide)
theorem bx_ord7 (W : World) : Calls Tryd.prog 41 #[.agg #[.int .i64 7, .int .i64 2, .int .i64 5000, .int .i64 0, .int .i64 8000, .int .i64 4000, .int .i64 1000], .int .i64 0] W fun e w' => e = .returned (.tuple #[.int .i64 3000, .int .i64 0]) ∧ Below W.heap.size W w' := ordered_t 7 2 5000 0 8000 4000 1000 0 W bx_o7 (by decide) (by decide)
theorem bx_ord9 (W : World) : Calls Tryd.prog 41 #[.agg #[.int .i64 9, .int .i64 1, .int .i64 0, .int .i64 1000, .int .i64 0, .int .i64 0, .int .i64 0], .int .i64 1239] W fun e w' => e = .returned (.tuple #[.int .i64 123, .int .i64 0]) ∧ Below W.heap.size W w' := ordered_t 9 1 0 1000 0 0 0 1239 W bx_o9 (by decide) (by decide)
theorem bx_find (p : Nat) (w : World) (hb : Bk w p [ex9, ex7t]) : Calls Tryd.prog 19 #[.pointer (some ⟨p, 0, none⟩), .int .i64 7] w fun e w' => e = .returned (.tuple #[.agg #[.int .i64 7, .int .i64 2, .int .i64 5000, .int .i64 0, .int .i64 8000, .int .i64 4000, .int .i64 1000], .int .i64 0]) ∧ Below w.heap.size w w' := by
  refine (bfind_c p [ex9, ex7t] 7 w hb 2 rfl (by decide)).mono ?_
  rintro e w' ⟨⟨_, rfl⟩ | ⟨h, _⟩, hb⟩
  · rw [bx_f]; exact ⟨rfl, hb⟩
  · rw [bx_f] at h; cases h
def Row2 (w : World) (g : Nat) : Prop := (w.cell? ⟨g, 0, none⟩ = some (.int .i64 9) ∧ w.cell? ⟨g, 1, none⟩ = some (.int .i64 1) ∧ w.cell? ⟨g, 2, none⟩ = some (.int .i64 0) ∧ w.cell? ⟨g, 3, none⟩ = some (.int .i64 1000) ∧ w.cell? ⟨g, 4, none⟩ = some (.int .i64 0) ∧ w.cell? ⟨g, 5, none⟩ = some (.int .i64 0) ∧ w.cell? ⟨g, 6, none⟩ = some (.int .i64 0)) ∧
  (w.cell? ⟨g, 7, none⟩ = some (.int .i64 7) ∧ w.cell? ⟨g, 8, none⟩ = some (.int .i64 2) ∧ w.cell? ⟨g, 9, none⟩ = some (.int .i64 5000) ∧ w.cell? ⟨g, 10, none⟩ = some (.int .i64 0) ∧ w.cell? ⟨g, 11, none⟩ = some (.int .i64 8000) ∧ w.cell? ⟨g, 12, none⟩ = some (.int .i64 4000) ∧ w.cell? ⟨g, 13, none⟩ = some (.int .i64 1000))
theorem row2_of {w : World} {base g cg : Nat} (h : w.ownsRow base 39 7 (.slice (some ⟨g, 0, none⟩) 2 cg) 2 ([ex9, ex7t].flatMap odC)) : Row2 w g :=
  ⟨⟨h.cellAt 0 (by decide), h.cellAt 1 (by decide), h.cellAt 2 (by decide), h.cellAt 3 (by decide), h.cellAt 4 (by decide), h.cellAt 5 (by decide), h.cellAt 6 (by decide)⟩,
   h.cellAt 7 (by decide), h.cellAt 8 (by decide), h.cellAt 9 (by decide), h.cellAt 10 (by decide), h.cellAt 11 (by decide), h.cellAt 12 (by decide), h.cellAt 13 (by decide)⟩
/-- the book is turned, all else stays -/
def TurnB (p : Nat) (l : List Od) (v : Value) (w : World) (e : Ending) (w' : World) : Prop := e = .returned v ∧ Bk w' p l ∧ w.grownBy w' (some p)
theorem bx_add (p : Nat) (l m : List Od) (id pr am ra tt r : Int) (w : World) (hb : Bk w p l) (hn : l.length ≤ 1000) (hso : SortO l) (h : addE l ⟨id, pr, am, ra, tt, 0, 0⟩ = r ∧ addL l ⟨id, pr, am, ra, tt, 0, 0⟩ = m) :
    Calls Tryd.prog 9 #[.pointer (some ⟨p, 0, none⟩), .agg #[.int .i64 id, .int .i64 pr, .int .i64 am, .int .i64 ra, .int .i64 tt]] w (TurnB p m (.int .i64 r) w) := by
  have := badd_c p l id pr am ra tt w hb hn hso
  unfold AddR at this
  rw [h.1, h.2] at this
  exact this
theorem bx_took (p : Nat) (w : World) (A : Option Addr) (hb : Bk w p [ex9, ex7]) (h : TkSl w A 1 [exT]) : Calls Tryd.prog 18 #[.pointer (some ⟨p, 0, none⟩), .slice A 1 1] w (TurnB p [ex9, ex7t] (.int .i64 0) w) := by
  have := btook_c p [ex9, ex7] A 1 1 [exT] w hb (by decide) h
  unfold TookR at this
  rw [bx_t.1, bx_t.2] at this
  exact this
theorem bx_can (p : Nat) (w : World) (hb : Bk w p [ex9, ex7t]) : Calls Tryd.prog 14 #[.pointer (some ⟨p, 0, none⟩), .int .i64 5] w (TurnB p [ex9, ex7t] (.int .i64 3) w) := by
  have := bcancel_c p [ex9, ex7t] 5 w hb (by decide)
  unfold CanR at this
  rw [bx_c, if_neg (by decide)] at this
  exact this
theorem bx_nil (w : World) (W : World) (hb : Below (w.alloc (.cells #[.slice none 0 0] 27)).heap.size (w.alloc (.cells #[.slice none 0 0] 27)) W) : Bk W w.heap.size [] := ⟨_, (Blk.mk w 27 #[.slice none 0 0]).t hb, rfl, World.ownsRow_nil _ _ _ _⟩
theorem TurnB.below {p : Nat} {w W w' : World} (hb : Below w.heap.size w W) (hg : W.grownBy w' (some p)) (hp : w.heap.size ≤ p) : Below w.heap.size w w' := below_grown hb hg hb.size (fun k hk => by injection hk with hk; omega)
theorem grown_refl (w : World) (r : Option Nat) : w.grownBy w r := World.grownBy.refl _ _
theorem sT {p : Nat} {l : List Od} {w0 W W1 : World} {C : World → Prop} (G : ∀ W, (w0.grownBy W (some p) ∧ Bk W p l) → (w0.grownBy W (some p) ∧ Bk W p l) ∧ C W) (h : (w0.grownBy W (some p) ∧ Bk W p l) ∧ C W) (hb : Bk W1 p l ∧ W.grownBy W1 (some p)) : (w0.grownBy W1 (some p) ∧ Bk W1 p l) ∧ C W1 := G _ ⟨grown_trans h.1.1 hb.2, hb.1⟩
theorem grown_drew {w W : World} {r : Option Nat} (h : w.grownBy W r) : w.grownBy W.drew r := ⟨h.os, h.tape, h.output, h.size, h.block⟩
theorem Bk.drew {w : World} {p : Nat} {l : List Od} (h : Bk w p l) : Bk w.drew p l := h
--%%
set_option maxRecDepth 100000 in
set_option maxHeartbeats 6400000 in
theorem books_c (w : World) : Calls Tryd.prog 13 #[] w fun e w' => e = .returned (.bool true) ∧ Below w.heap.size w w' := by
  have hb0 := below1 w (.cells #[.slice none 0 0] 27)
  have HNIL := Lib.hid (bx_nil w)
  have KP := Lib.hid (bx_parse (some ⟨w.heap.size + 1, 0, none⟩) ((w.alloc (.cells #[.slice none 0 0] 27)).alloc (.cells #[.string ⟨#[55]⟩, .string ⟨#[50]⟩, .string ⟨#[53, 48, 46, 48, 48]⟩, .string ⟨#[48]⟩, .string ⟨#[56, 48, 46, 48, 48]⟩] 9)) (by have := bx_st (w.alloc (.cells #[.slice none 0 0] 27)); rwa [World.size_alloc] at this))
  go_enter Tryd.func13, Tryd.ntmps13
  go_wp2_with fail
  refine KP.out.mono ?_
  rintro e w1 ⟨rfl, hb1⟩
  have hb1' := bT (below1 (w.alloc (.cells #[.slice none 0 0] 27)) (.cells #[.string ⟨#[55]⟩, .string ⟨#[50]⟩, .string ⟨#[53, 48, 46, 48, 48]⟩, .string ⟨#[48]⟩, .string ⟨#[56, 48, 46, 48, 48]⟩] 9)) hb1
  have hB1 := bT hb0 hb1'
  have hk1 := HNIL.out w1 hb1'
  have z := Blk.mk w1 29 #[.int .i64 7, .int .i64 2, .int .i64 5000, .int .i64 0, .int .i64 8000]
  have hz1 := below1 w1 (.cells #[.int .i64 7, .int .i64 2, .int .i64 5000, .int .i64 0, .int .i64 8000] 29)
  obtain ⟨z0, z1, z2, z3, z4⟩ := z.a5f.1
  have KA := Lib.hid (bx_add w.heap.size [] _ 7 2 5000 0 8000 0 _ (hk1.t hz1) (by decide) (by simp [SortO]) bx_a1)
  have HZ := Lib.hid z
  have hwg : w.heap.size < w1.heap.size := by have := hk1.lt; omega
  have HB1 := Lib.hid (bT hB1 hz1)
  clear hk1 hb1 hb1' hB1 z hz1 hb0
  go_wp2_with fail
  refine KA.out.mono ?_
  rintro e w2 ⟨rfl, hk2, hg2⟩
  have hz2 := HZ.out.grown hg2 (by simp; omega)
  have hB2 := TurnB.below HB1.out hg2 (Nat.le_refl _)
  have KA2 := Lib.hid (bx_add w.heap.size [ex7] _ 9 1 0 1000 0 0 w2 hk2 (by decide) bx_s1 bx_a2)
  have HZ2 := Lib.hid hz2
  have HB2 := Lib.hid hB2
  clear hk2 hg2 hz2 hB2
  go_wp2_with fail
  refine KA2.out.mono ?_
  rintro e w3 ⟨rfl, hk3, hg3⟩
  have hz3 := HZ2.out.grown hg3 (by simp; omega)
  have hB3 := TurnB.below HB2.out hg3 (Nat.le_refl _)
  have hb3 := below1 w3 (.cells #[.int .i64 7, .int .i64 0, .int .i64 0, .int .i64 0, .int .i64 4000, .int .i64 1000] 41)
  have KT := Lib.hid (bx_took w.heap.size _ _ (hk3.t hb3) (bx_tk w3))
  have HZ3 := Lib.hid (hz3.t hb3)
  have HB3 := Lib.hid (bT hB3 hb3)
  clear hk3 hg3 hz3 hB3 hb3
  go_wp2_with fail
  refine KT.out.mono ?_
  rintro e w4 ⟨rfl, hk4, hg4⟩
  have hz4 := HZ3.out.grown hg4 (by simp; omega)
  have hB4 := TurnB.below HB3.out hg4 (Nat.le_refl _)
  have KL := Lib.hid (blist_c w.heap.size [ex9, ex7t] w4 hk4 (by decide))
  have HK4 := Lib.hid hk4
  have HZ4 := Lib.hid hz4
  have HB4 := Lib.hid hB4
  clear hk4 hg4 hz4 hB4
  go_wp2_with fail
  refine KL.out.mono ?_
  rintro e w5 ⟨⟨v, rfl, ho⟩, hb5⟩
  obtain ⟨g, cg, rfl, hgB, hgl, hgc, hO⟩ := own_form ho.2 (by decide)
  have hgg : g ≠ w.heap.size := by have := HB4.out.size; have := HK4.out.lt; omega
  have HO : Hid (∀ W, Below w5.heap.size w5 W → W.ownsRow w4.heap.size 39 7 (.slice (some ⟨g, 0, none⟩) 2 cg) 2 ([ex9, ex7t].flatMap odC)) := fun W hW => own_below hO hW
  have HK5 := Lib.hid (HK4.out.t hb5)
  have HZ5 := Lib.hid (HZ4.out.t hb5)
  have HB5 := Lib.hid (bT HB4.out hb5)
  obtain ⟨⟨a0, a1, a2, a3, a4, a5, a6⟩, b0', b1, b2, b3, b4, b5, b6⟩ := row2_of hO
  have KLF := Lib.hid (bx_left w5)
  clear hO ho hb5 hgB hgc
  go_wp2_with fail
  refine KLF.out.mono ?_
  rintro e w6 ⟨rfl, hb6⟩
  have HB6 := Lib.hid hb6
  clear a0 a1 a2 a3 a4 a5 a6 b0' b1 b2 b3 b4 b5 b6
  obtain ⟨⟨a0, a1, a2, a3, a4, a5, a6⟩, b0', b1, b2, b3, b4, b5, b6⟩ := row2_of (HO.out w6 hb6)
  have KOV := Lib.hid (bx_over w6)
  clear hb6
  go_wp2_with fail
  refine KOV.out.mono ?_
  rintro e w7 ⟨rfl, hb7⟩
  have HB7 := Lib.hid (bT HB6.out hb7)
  clear a0 a1 a2 a3 a4 a5 a6 b0' b1 b2 b3 b4 b5 b6
  obtain ⟨⟨a0, a1, a2, a3, a4, a5, a6⟩, b0', b1, b2, b3, b4, b5, b6⟩ := row2_of (HO.out w7 HB7.out)
  have KO7 := Lib.hid (bx_ord7 w7)
  clear hb7
  go_wp2_with fail
  refine KO7.out.mono ?_
  rintro e w8 ⟨rfl, hb8⟩
  have HB8 := Lib.hid (bT HB7.out hb8)
  clear a0 a1 a2 a3 a4 a5 a6 b0' b1 b2 b3 b4 b5 b6
  obtain ⟨⟨a0, a1, a2, a3, a4, a5, a6⟩, b0', b1, b2, b3, b4, b5, b6⟩ := row2_of (HO.out w8 HB8.out)
  have KO9 := Lib.hid (bx_ord9 w8)
  clear hb8
  go_wp2_with fail
  refine KO9.out.mono ?_
  rintro e w9 ⟨rfl, hb9⟩
  have HB9 := Lib.hid (bT HB8.out hb9)
  have KF := Lib.hid (bx_find w.heap.size w9 (HK5.out.t HB9.out))
  clear hb9 a0 a1 a2 a3 a4 a5 a6 b0' b1 b2 b3 b4 b5 b6
  go_wp2_with fail
  refine KF.out.mono ?_
  rintro e w10 ⟨rfl, hb10⟩
  have hb11 := bT (bT HB9.out hb10) (below1 w10 (.cells #[.int .i64 7, .int .i64 2, .int .i64 5000, .int .i64 0, .int .i64 8000, .int .i64 4000, .int .i64 1000] 39))
  have hr11 := HO.out _ hb11
  have hk11 := HK5.out.t hb11
  have hz11 := HZ5.out.t hb11
  have ht11 := Blk.mk w10 39 #[.int .i64 7, .int .i64 2, .int .i64 5000, .int .i64 0, .int .i64 8000, .int .i64 4000, .int .i64 1000]
  have hsz10 := (bT HB9.out hb10).size
  have hlt := HK5.out.lt
  have HFB := Lib.hid (bT HB5.out hb11)
  have HTK := Lib.hid hk11
  have G : Hid (∀ W, (World.grownBy (w10.alloc (.cells #[.int .i64 7, .int .i64 2, .int .i64 5000, .int .i64 0, .int .i64 8000, .int .i64 4000, .int .i64 1000] 39)) W (some w.heap.size) ∧ Bk W w.heap.size [ex9, ex7t]) → (World.grownBy (w10.alloc (.cells #[.int .i64 7, .int .i64 2, .int .i64 5000, .int .i64 0, .int .i64 8000, .int .i64 4000, .int .i64 1000] 39)) W (some w.heap.size) ∧ Bk W w.heap.size [ex9, ex7t]) ∧ (W.cell? ⟨w1.heap.size, 0, none⟩ = some (.int .i64 7) ∧ W.cell? ⟨w1.heap.size, 1, none⟩ = some (.int .i64 2) ∧ W.cell? ⟨w1.heap.size, 2, none⟩ = some (.int .i64 5000) ∧ W.cell? ⟨w1.heap.size, 3, none⟩ = some (.int .i64 0) ∧ W.cell? ⟨w1.heap.size, 4, none⟩ = some (.int .i64 8000)) ∧ (W.cell? ⟨w10.heap.size, 0, none⟩ = some (.int .i64 7) ∧ W.cell? ⟨w10.heap.size, 1, none⟩ = some (.int .i64 2) ∧ W.cell? ⟨w10.heap.size, 2, none⟩ = some (.int .i64 5000) ∧ W.cell? ⟨w10.heap.size, 3, none⟩ = some (.int .i64 0) ∧ W.cell? ⟨w10.heap.size, 4, none⟩ = some (.int .i64 8000) ∧ W.cell? ⟨w10.heap.size, 5, none⟩ = some (.int .i64 4000) ∧ W.cell? ⟨w10.heap.size, 6, none⟩ = some (.int .i64 1000)) ∧ (W.cell? ⟨g, 7, none⟩ = some (.int .i64 7) ∧ W.cell? ⟨g, 8, none⟩ = some (.int .i64 2) ∧ W.cell? ⟨g, 9, none⟩ = some (.int .i64 5000) ∧ W.cell? ⟨g, 10, none⟩ = some (.int .i64 0) ∧ W.cell? ⟨g, 11, none⟩ = some (.int .i64 8000) ∧ W.cell? ⟨g, 12, none⟩ = some (.int .i64 4000) ∧ W.cell? ⟨g, 13, none⟩ = some (.int .i64 1000))) := fun W h => by
    have hz := hz11.grown h.1 (by simp; omega)
    have ht := ht11.grown h.1 (by simp; omega)
    have hr := hr11.kept h.1 (Or.inr fun he => hgg (Option.some.inj he))
    exact ⟨h, hz.a5f.1, ht.a7, (row2_of hr).2⟩
  have KA3 : Hid (∀ W, Bk W w.heap.size [ex9, ex7t] → Calls Tryd.prog 9 #[.pointer (some ⟨w.heap.size, 0, none⟩), .agg #[.int .i64 7, .int .i64 2, .int .i64 5000, .int .i64 0, .int .i64 8000]] W (TurnB w.heap.size [ex9, ex7t] (.int .i64 4) W)) := fun W h => bx_add w.heap.size [ex9, ex7t] _ 7 2 5000 0 8000 4 W h (by decide) bx_s2 bx_a3
  have KC3 : Hid (∀ W, Bk W w.heap.size [ex9, ex7t] → Calls Tryd.prog 14 #[.pointer (some ⟨w.heap.size, 0, none⟩), .int .i64 5] W (TurnB w.heap.size [ex9, ex7t] (.int .i64 3) W)) := fun W h => bx_can w.heap.size W h
  clear hb11 hr11 hk11 hz11 ht11 hb10
  go_wp2_with fail
  go_region_held3 (fun W => (World.grownBy (w10.alloc (.cells #[.int .i64 7, .int .i64 2, .int .i64 5000, .int .i64 0, .int .i64 8000, .int .i64 4000, .int .i64 1000] 39)) W (some w.heap.size) ∧ Bk W w.heap.size [ex9, ex7t]) ∧ (W.cell? ⟨w1.heap.size, 0, none⟩ = some (.int .i64 7) ∧ W.cell? ⟨w1.heap.size, 1, none⟩ = some (.int .i64 2) ∧ W.cell? ⟨w1.heap.size, 2, none⟩ = some (.int .i64 5000) ∧ W.cell? ⟨w1.heap.size, 3, none⟩ = some (.int .i64 0) ∧ W.cell? ⟨w1.heap.size, 4, none⟩ = some (.int .i64 8000)) ∧ (W.cell? ⟨w10.heap.size, 0, none⟩ = some (.int .i64 7) ∧ W.cell? ⟨w10.heap.size, 1, none⟩ = some (.int .i64 2) ∧ W.cell? ⟨w10.heap.size, 2, none⟩ = some (.int .i64 5000) ∧ W.cell? ⟨w10.heap.size, 3, none⟩ = some (.int .i64 0) ∧ W.cell? ⟨w10.heap.size, 4, none⟩ = some (.int .i64 8000) ∧ W.cell? ⟨w10.heap.size, 5, none⟩ = some (.int .i64 4000) ∧ W.cell? ⟨w10.heap.size, 6, none⟩ = some (.int .i64 1000)) ∧ (W.cell? ⟨g, 7, none⟩ = some (.int .i64 7) ∧ W.cell? ⟨g, 8, none⟩ = some (.int .i64 2) ∧ W.cell? ⟨g, 9, none⟩ = some (.int .i64 5000) ∧ W.cell? ⟨g, 10, none⟩ = some (.int .i64 0) ∧ W.cell? ⟨g, 11, none⟩ = some (.int .i64 8000) ∧ W.cell? ⟨g, 12, none⟩ = some (.int .i64 4000) ∧ W.cell? ⟨g, 13, none⟩ = some (.int .i64 1000)))
    (first | assumption | exact G.out _ ⟨grown_drew (grown_refl _ _), HTK.out⟩ | (exact sT G.out (by assumption) (by assumption)))
    (first
      | (go_at_call 9; (with_reducible refine (KA3.out _ (show (World.grownBy _ _ _ ∧ Bk _ _ _) ∧ _ from by assumption).1.2).mono ?_); rintro e w12 ⟨rfl, hk12⟩)
      | (go_at_call 14; (with_reducible refine (KC3.out _ (show (World.grownBy _ _ _ ∧ Bk _ _ _) ∧ _ from by assumption).1.2).mono ?_); rintro e w12 ⟨rfl, hk12⟩))
  all_goals
    have hbz := TurnB.below HFB.out (show (World.grownBy (w10.alloc (.cells #[.int .i64 7, .int .i64 2, .int .i64 5000, .int .i64 0, .int .i64 8000, .int .i64 4000, .int .i64 1000] 39)) _ _ ∧ Bk _ _ _) ∧ _ from by assumption).1.1 (Nat.le_refl _)
    go_wp2_with fail
    go_ret
    exact ⟨rfl, hbz⟩
--%%
end Go.Proofs.YtfhbnojhmeodiaaDoor
