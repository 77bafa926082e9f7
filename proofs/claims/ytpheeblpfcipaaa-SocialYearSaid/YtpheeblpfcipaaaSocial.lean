/-
  Contracts of package social: a contribution's two sides. Conditions as named.
-/
import Derived.Test.YtpheeblpfcipaaaPair3
import Derived.Test.YtpheeblpfcipaaaBase
import Derived.Test.YtpheeblpfcipaaaRef13
namespace Go.Proofs.Ytpheeblpfcipaaa
set_option linter.unusedVariables false
open Go.RowKit
--%%
theorem sexact_t (nm : ByteArray) (base pc yc rd : Int) (A : Option Addr) (n c : Nat) (l : List Bd) (x : Int) (w : World) (h : BandSl w A n l) (hl : bandsErr l = 0) (hx : mrB x = true) :
    Calls Try.prog 10 #[.agg #[.string nm, .int .i64 base, .slice A n c, .int .i64 pc, .int .i64 yc, .int .i64 rd], .int .i64 x] w (PairIs (bandS (·.r) l x) (bandS (·.e) l x) w) := by
  have K := Lib.hid (fun w h => banded_t x l A n c w h hl hx)
  generalize bandS (·.r) l x = P at *
  generalize bandS (·.e) l x = E at *
  clear hl
  go_enter Try.func10, Try.ntmps10
  go_wp2_with fail
  refine (K.out _ (h.below (below1 _ _))).mono ?_
  rintro e w1 ⟨⟨u, v, rfl, ru, rv⟩, hb1⟩
  go_wp2_with fail
  go_ret2
  exact ⟨⟨_, _, rfl, ru, rv⟩, (below1 _ _).trans (hb1.mono (by simp))⟩
theorem sexact_x (nm : ByteArray) (base pc yc rd : Int) (A : Option Addr) (n c : Nat) (l : List Bd) (x : Int) (w : World) (h : BandSl w A n l) (hl : bandsErr l = 0) (hx : mrB x = false) :
    Calls Try.prog 10 #[.agg #[.string nm, .int .i64 base, .slice A n c, .int .i64 pc, .int .i64 yc, .int .i64 rd], .int .i64 x] w fun e w' => e = .returned (.tuple #[.complex .f64 0 0, .int .i64 10]) ∧ Below w.heap.size w w' := by
  have K := Lib.hid (fun w h => banded_x x l A n c w h hl hx)
  clear hl
  go_enter Try.func10, Try.ntmps10
  go_wp2_with fail
  refine (K.out _ (h.below (below1 _ _))).mono ?_
  rintro e w1 ⟨rfl, hb1⟩
  go_wp2_with fail
  go_ret2
  exact ⟨rfl, (below1 _ _).trans (hb1.mono (by simp))⟩
--%%
theorem sdue_t (nm : ByteArray) (base pc yc rd : Int) (A : Option Addr) (n c : Nat) (l : List Bd) (x : Int) (w : World) (h : BandSl w A n l) (hl : bandsErr l = 0) (hx : mrB x = true) (hm : modeB rd = true)
    (hp : in53 (bandS (·.r) l x) = true) (hq : in53 (bandS (·.e) l x) = true) :
    Calls Try.prog 9 #[.agg #[.string nm, .int .i64 base, .slice A n c, .int .i64 pc, .int .i64 yc, .int .i64 rd], .int .i64 x] w fun e w' => e = .returned (.tuple #[.agg #[.int .i64 (roundI (bandS (·.r) l x) 10000 rd), .int .i64 (roundI (bandS (·.e) l x) 10000 rd)], .int .i64 0]) ∧ Below w.heap.size w w' := by
  have K := Lib.hid (fun w h => sexact_t nm base pc yc rd A n c l x w h hl hx)
  have K2 := Lib.hid (fun u v a b ru rv ha hb => pcoins_t u v a b rd ru rv ha hb hm)
  generalize bandS (·.r) l x = P at *
  generalize bandS (·.e) l x = E at *
  generalize hrp : roundI P 10000 rd = rp at *
  generalize hre : roundI E 10000 rd = re at *
  have HRP := Lib.hid hrp
  have HRE := Lib.hid hre
  clear hl hrp hre
  go_enter Try.func9, Try.ntmps9
  go_wp2_with fail
  refine (K.out _ (h.below ((below1 _ _).alloc (by simp) _))).mono ?_
  rintro e w1 ⟨⟨u, v, rfl, ru, rv⟩, hb1⟩
  have cb := ((Blk.mk w 31 #[.string nm, .int .i64 base, .slice A n c, .int .i64 pc, .int .i64 yc, .int .i64 rd]).alloc (.cells #[.int .i64 0, .int .i64 0] 33)).below hb1 (by simp; omega)
  have rb := (Blk.mk (w.alloc (.cells #[.string nm, .int .i64 base, .slice A n c, .int .i64 pc, .int .i64 yc, .int .i64 rd] 31)) 33 #[.int .i64 0, .int .i64 0]).below hb1 (by simp)
  rw [World.size_alloc] at rb
  have b1 : Below w.heap.size w w1 := ((below1 _ _).alloc (by simp) _).trans (hb1.mono (by simp; omega))
  obtain ⟨q0, q1, q2, q3, q4, q5⟩ := cb.all6
  obtain ⟨r0, r1, r2, r3⟩ := rb.all2
  go_wp2_with fail
  refine (K2.out u v P E ru rv hp hq _).mono ?_
  rw [HRP.out, HRE.out]
  rintro e w2 ⟨rfl, hb2⟩
  have rb2 := rb.below hb2 rb.lt
  obtain ⟨y0, y1, y2, y3⟩ := rb2.all2
  have b2 : Below w.heap.size w w2 := b1.trans (hb2.mono b1.size)
  go_wp2_with fail
  exact bodyPost_ret (v := .tuple #[.agg #[.int .i64 rp, .int .i64 re], .int .i64 0]) (by simp [results, Try.results9, go_sem, y0, y1]) rfl ⟨rfl, (b2.setCell (by simp) _).setCell (by simp) _⟩
--%%
theorem sdue_x (nm : ByteArray) (base pc yc rd : Int) (A : Option Addr) (n c : Nat) (l : List Bd) (x : Int) (w : World) (h : BandSl w A n l) (hl : bandsErr l = 0) (hx : mrB x = false) :
    Calls Try.prog 9 #[.agg #[.string nm, .int .i64 base, .slice A n c, .int .i64 pc, .int .i64 yc, .int .i64 rd], .int .i64 x] w fun e w' => e = .returned (.tuple #[.agg #[.int .i64 0, .int .i64 0], .int .i64 10]) ∧ Below w.heap.size w w' := by
  have K := Lib.hid (fun w h => sexact_x nm base pc yc rd A n c l x w h hl hx)
  clear hl hx
  go_enter Try.func9, Try.ntmps9
  go_wp2_with fail
  refine (K.out _ (h.below ((below1 _ _).alloc (by simp) _))).mono ?_
  rintro e w1 ⟨rfl, hb1⟩
  have rb := (Blk.mk (w.alloc (.cells #[.string nm, .int .i64 base, .slice A n c, .int .i64 pc, .int .i64 yc, .int .i64 rd] 31)) 33 #[.int .i64 0, .int .i64 0]).below hb1 (by simp)
  rw [World.size_alloc] at rb
  have b1 : Below w.heap.size w w1 := ((below1 _ _).alloc (by simp) _).trans (hb1.mono (by simp; omega))
  obtain ⟨r0, r1, r2, r3⟩ := rb.all2
  go_wp2_with fail
  exact bodyPost_ret (v := .tuple #[.agg #[.int .i64 0, .int .i64 0], .int .i64 10]) (by simp [results, Try.results9, go_sem, r0, r1]) rfl ⟨rfl, (b1.setCell (by simp) _).setCell (by simp) _⟩
--%%
end Go.Proofs.Ytpheeblpfcipaaa
