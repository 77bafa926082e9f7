/-
  Contract of frac.Take. Conditions as named.
-/
import Derived.Test.YtankoappneglcaaFrac
import Derived.Test.YtankoappneglcaaVoc3
namespace Go.Proofs.Ytankoappneglcaa
set_option linter.unusedVariables false
open Go.RowKit
theorem round_down (n d : Int) : roundI n d 1 = n / d := by
  unfold roundI nearB
  simp
--%%
theorem take_t (x r m : Int) (w : World) (hx : mrB x = true) (hr : rateB r = true) (hm : modeB m = true) :
    Calls Try.prog 12 #[.int .i64 x, .int .i64 r, .int .i64 m] w fun e w' => e = .returned (.tuple #[.int .i64 (roundI (x * r) 10000 m), .int .i64 0]) ∧ Below w.heap.size w w' := by
  have hx' := mr_iff.1 hx
  have hr' := rateB_iff.1 hr
  have hb := mul_bd (A := 100000000000) (B := 10000) hx'.1 hx'.2 hr'.1 hr'.2 (by decide)
  have K1 := Lib.hid (part_t x r · hx hr)
  have K2 := Lib.hid (fcoins_t (x * r) m · (exB_iff.2 (by omega)) hm)
  generalize roundI (x * r) 10000 m = rv at *
  generalize x * r = xr at *
  clear hx hr hx' hr' hb hm
  go_enter Try.func12, Try.ntmps12
  go_wp2_with fail
  refine (K1.out _).mono ?_
  rintro e w1 ⟨rfl, hb1⟩
  go_wp2_with fail
  refine (K2.out _).mono ?_
  rintro e w2 ⟨rfl, hb2⟩
  go_wp2_with fail
  go_ret2
  exact ⟨rfl, bT hb1 hb2⟩
--%%
end Go.Proofs.Ytankoappneglcaa
