/-
  Contracts of tax.Due and tax.Rate. Conditions as named.
-/
import Derived.Test.YtankoappneglcaaTopP
namespace Go.Proofs.Ytankoappneglcaa
set_option linter.unusedVariables false
open Go.RowKit
--%%
theorem tdue_e (sch : List (List Bd)) (As Ac Ak : Option Addr) (ns cs nc cc nk ck : Nat) (lim rnd : Int) (s k a f : Int) (al : Bool) (tx n d : Int) (w : World) (hs : ScSl w As ns sch) (r : Int) (hr : Hid (r = exE sch ⟨s, k, a, f, al⟩ tx n d)) (h0 : r ≠ 0) :
    Calls Try.prog 47 #[.agg #[.slice As ns cs, .slice Ac nc cc, .slice Ak nk ck, .int .i64 lim, .int .i64 rnd], .agg #[.int .i64 s, .int .i64 k, .int .i64 a, .int .i64 f, .bool al], .int .i64 tx, .int .i64 n, .int .i64 d] w fun e w' => e = .returned (.tuple #[.int .i64 0, .int .i64 r]) ∧ Below w.heap.size w w' := by
  have hb0 := bA (below1 w (.cells #[.slice As ns cs, .slice Ac nc cc, .slice Ak nk ck, .int .i64 lim, .int .i64 rnd] 26)) (.cells #[.int .i64 s, .int .i64 k, .int .i64 a, .int .i64 f, .bool al] 40)
  have K := Lib.hid (texact_e sch As Ac Ak ns cs nc cc nk ck lim rnd s k a f al tx n d _ (hs.below hb0) r hr h0)
  have t : (r != 0) = true := by simpa using h0
  clear hs h0
  go_enter Try.func47, Try.ntmps47
  go_wp2_with fail
  refine K.out.mono ?_
  rintro e w1 ⟨rfl, hb1⟩
  go_wp2_with fail
  go_ret2
  exact ⟨rfl, bT hb0 hb1⟩
theorem tdue_t (sch : List (List Bd)) (As Ac Ak : Option Addr) (ns cs nc cc nk ck : Nat) (lim rnd : Int) (s k a f : Int) (al : Bool) (tx n d : Int) (w : World) (hs : ScSl w As ns sch) (hok : ∀ k, k < ns → bandsErr (sch.getD k []) = 0) (hm : modeB rnd = true) (hr : exE sch ⟨s, k, a, f, al⟩ tx n d = 0) :
    Calls Try.prog 47 #[.agg #[.slice As ns cs, .slice Ac nc cc, .slice Ak nk ck, .int .i64 lim, .int .i64 rnd], .agg #[.int .i64 s, .int .i64 k, .int .i64 a, .int .i64 f, .bool al], .int .i64 tx, .int .i64 n, .int .i64 d] w fun e w' => e = .returned (.tuple #[.int .i64 (roundI (exV sch ⟨s, k, a, f, al⟩ tx n d) 10000 rnd), .int .i64 0]) ∧ Below w.heap.size w w' := by
  have hb0 := bA (below1 w (.cells #[.slice As ns cs, .slice Ac nc cc, .slice Ak nk ck, .int .i64 lim, .int .i64 rnd] 26)) (.cells #[.int .i64 s, .int .i64 k, .int .i64 a, .int .i64 f, .bool al] 40)
  have z := (Blk.mk w 26 #[.slice As ns cs, .slice Ac nc cc, .slice Ak nk ck, .int .i64 lim, .int .i64 rnd]).alloc (.cells #[.int .i64 s, .int .i64 k, .int .i64 a, .int .i64 f, .bool al] 40)
  have K := Lib.hid (texact_t sch As Ac Ak ns cs nc cc nk ck lim rnd s k a f al tx n d _ (hs.below hb0) hok hr)
  have hbd := exV_bd sch ⟨s, k, a, f, al⟩ tx n d (fun k hk => hok k (by have := hs.1; omega)) hr
  have K2 := Lib.hid (fcoins_t (exV sch ⟨s, k, a, f, al⟩ tx n d) rnd · (exB_iff.2 (by omega)) hm)
  generalize roundI (exV sch ⟨s, k, a, f, al⟩ tx n d) 10000 rnd = rv at *
  generalize exV sch ⟨s, k, a, f, al⟩ tx n d = ev at *
  clear hs hok hr
  go_enter Try.func47, Try.ntmps47
  go_wp2_with fail
  refine K.out.mono ?_
  rintro e w1 ⟨rfl, hb1⟩
  have a4 := (z.t hb1).cell 4
  go_wp2_with fail
  refine (K2.out _).mono ?_
  rintro e w2 ⟨rfl, hb2⟩
  go_wp2_with fail
  go_ret2
  exact ⟨rfl, bT (bT hb0 hb1) hb2⟩
--%%
end Go.Proofs.Ytankoappneglcaa
