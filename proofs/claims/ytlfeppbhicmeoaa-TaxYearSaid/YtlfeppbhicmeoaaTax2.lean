/-
  Contracts of tax.Due and tax.Rate. Conditions as named.
-/
import Derived.Test.YtlfeppbhicmeoaaTopP
namespace Go.Proofs.Ytlfeppbhicmeoaa
set_option linter.unusedVariables false
open Go.RowKit
--%%
theorem tdue_e (sch : List (List Bd)) (As Ac Ak : Option Addr) (ns cs nc cc nk ck : Nat) (lim rnd : Int) (s k a f : Int) (al : Bool) (tx n d : Int) (w : World) (hs : ScSl w As ns sch) (r : Int) (hr : Hid (r = exE sch ⟨s, k, a, f, al⟩ tx n d)) (h0 : r ≠ 0) :
    Calls Try.prog 21 #[.agg #[.slice As ns cs, .slice Ac nc cc, .slice Ak nk ck, .int .i64 lim, .int .i64 rnd], .agg #[.int .i64 s, .int .i64 k, .int .i64 a, .int .i64 f, .bool al], .int .i64 tx, .int .i64 n, .int .i64 d] w fun e w' => e = .returned (.tuple #[.int .i64 0, .int .i64 r]) ∧ Below w.heap.size w w' := by
  have hb0 := bA (below1 w (.cells #[.slice As ns cs, .slice Ac nc cc, .slice Ak nk ck, .int .i64 lim, .int .i64 rnd] 26)) (.cells #[.int .i64 s, .int .i64 k, .int .i64 a, .int .i64 f, .bool al] 40)
  have K := Lib.hid (texact_e sch As Ac Ak ns cs nc cc nk ck lim rnd s k a f al tx n d _ (hs.below hb0) r hr h0)
  have t : (r != 0) = true := by simpa using h0
  clear hs h0
  go_enter Try.func21, Try.ntmps21
  go_wp2_with fail
  refine K.out.mono ?_
  rintro e w1 ⟨rfl, hb1⟩
  go_wp2_with fail
  go_ret2
  exact ⟨rfl, bT hb0 hb1⟩
theorem tdue_t (sch : List (List Bd)) (As Ac Ak : Option Addr) (ns cs nc cc nk ck : Nat) (lim rnd : Int) (s k a f : Int) (al : Bool) (tx n d : Int) (w : World) (hs : ScSl w As ns sch) (hok : ∀ k, k < ns → bandsErr (sch.getD k []) = 0) (hm : modeB rnd = true) (hr : exE sch ⟨s, k, a, f, al⟩ tx n d = 0) :
    Calls Try.prog 21 #[.agg #[.slice As ns cs, .slice Ac nc cc, .slice Ak nk ck, .int .i64 lim, .int .i64 rnd], .agg #[.int .i64 s, .int .i64 k, .int .i64 a, .int .i64 f, .bool al], .int .i64 tx, .int .i64 n, .int .i64 d] w fun e w' => e = .returned (.tuple #[.int .i64 (roundI (exV sch ⟨s, k, a, f, al⟩ tx n d) 10000 rnd), .int .i64 0]) ∧ Below w.heap.size w w' := by
  have hb0 := bA (below1 w (.cells #[.slice As ns cs, .slice Ac nc cc, .slice Ak nk ck, .int .i64 lim, .int .i64 rnd] 26)) (.cells #[.int .i64 s, .int .i64 k, .int .i64 a, .int .i64 f, .bool al] 40)
  have z := (Blk.mk w 26 #[.slice As ns cs, .slice Ac nc cc, .slice Ak nk ck, .int .i64 lim, .int .i64 rnd]).alloc (.cells #[.int .i64 s, .int .i64 k, .int .i64 a, .int .i64 f, .bool al] 40)
  have K := Lib.hid (texact_t sch As Ac Ak ns cs nc cc nk ck lim rnd s k a f al tx n d _ (hs.below hb0) hok hr)
  have hbd := exV_bd sch ⟨s, k, a, f, al⟩ tx n d (fun k hk => hok k (by have := hs.1; omega)) hr
  have K2 := Lib.hid (fcoins_t (exV sch ⟨s, k, a, f, al⟩ tx n d) rnd · (exB_iff.2 (by omega)) hm)
  generalize roundI (exV sch ⟨s, k, a, f, al⟩ tx n d) 10000 rnd = rv at *
  generalize exV sch ⟨s, k, a, f, al⟩ tx n d = ev at *
  clear hs hok hr
  go_enter Try.func21, Try.ntmps21
  go_wp2_with fail
  refine K.out.mono ?_
  rintro e w1 ⟨rfl, hb1⟩
  have a4 := (z.t hb1).cell 4
  go_wp2_with fail
  refine (K2.out _).mono ?_
  rintro e w2 ⟨rfl, hb2⟩
  go_wp2_with fail
  go_ret2
  exact ⟨rfl, bT (bT hb0 hb1) hb2⟩
--%%
theorem trate_t (sch : List (List Bd)) (As Ac Ak : Option Addr) (ns cs nc cc nk ck : Nat) (lim rnd : Int) (s k a f : Int) (al : Bool) (tx n d : Int) (w : World) (hs : ScSl w As ns sch) (hok : ∀ k, k < ns → bandsErr (sch.getD k []) = 0) (htx : -100000000000 ≤ tx ∧ tx ≤ 100000000000) (hr : exE sch ⟨s, k, a, f, al⟩ tx n d = 0) (hr2 : exE sch ⟨s, k, a, f, al⟩ (tx + 1) n d = 0) :
    Calls Try.prog 26 #[.agg #[.slice As ns cs, .slice Ac nc cc, .slice Ak nk ck, .int .i64 lim, .int .i64 rnd], .agg #[.int .i64 s, .int .i64 k, .int .i64 a, .int .i64 f, .bool al], .int .i64 tx, .int .i64 n, .int .i64 d] w fun e w' => e = .returned (.tuple #[.int .i64 (exV sch ⟨s, k, a, f, al⟩ (tx + 1) n d - exV sch ⟨s, k, a, f, al⟩ tx n d), .int .i64 0]) ∧ Below w.heap.size w w' := by
  have hb0 := bA (below1 w (.cells #[.slice As ns cs, .slice Ac nc cc, .slice Ak nk ck, .int .i64 lim, .int .i64 rnd] 26)) (.cells #[.int .i64 s, .int .i64 k, .int .i64 a, .int .i64 f, .bool al] 40)
  have z := (Blk.mk w 26 #[.slice As ns cs, .slice Ac nc cc, .slice Ak nk ck, .int .i64 lim, .int .i64 rnd]).alloc (.cells #[.int .i64 s, .int .i64 k, .int .i64 a, .int .i64 f, .bool al] 40)
  have y := Blk.mk (w.alloc (.cells #[.slice As ns cs, .slice Ac nc cc, .slice Ak nk ck, .int .i64 lim, .int .i64 rnd] 26)) 40 #[.int .i64 s, .int .i64 k, .int .i64 a, .int .i64 f, .bool al]
  rw [World.size_alloc] at y
  have K := Lib.hid (texact_t sch As Ac Ak ns cs nc cc nk ck lim rnd s k a f al tx n d _ (hs.below hb0) hok hr)
  have K2 := Lib.hid (fun W h => texact_t sch As Ac Ak ns cs nc cc nk ck lim rnd s k a f al (tx + 1) n d W h hok hr2)
  have h1 := exV_bd sch ⟨s, k, a, f, al⟩ tx n d (fun k hk => hok k (by have := hs.1; omega)) hr
  have h2 := exV_bd sch ⟨s, k, a, f, al⟩ (tx + 1) n d (fun k hk => hok k (by have := hs.1; omega)) hr2
  generalize exV sch ⟨s, k, a, f, al⟩ (tx + 1) n d = e2 at *
  generalize exV sch ⟨s, k, a, f, al⟩ tx n d = e1 at *
  have HS := Lib.hid hs
  clear hs hok hr hr2
  go_enter Try.func26, Try.ntmps26
  go_wp2_with fail
  refine K.out.mono ?_
  rintro e w1 ⟨rfl, hb1⟩
  obtain ⟨p0, p1, p2, p3, p4⟩ := (z.t hb1).all5
  obtain ⟨q0, q1, q2, q3, q4⟩ := (y.t hb1).all5
  go_wp2_with fail
  refine (K2.out _ (HS.out.below (bT hb0 hb1))).mono ?_
  rintro e w2 ⟨rfl, hb2⟩
  go_wp2_with fail
  go_ret2
  exact ⟨rfl, bT (bT hb0 hb1) hb2⟩
--%%
end Go.Proofs.Ytlfeppbhicmeoaa
