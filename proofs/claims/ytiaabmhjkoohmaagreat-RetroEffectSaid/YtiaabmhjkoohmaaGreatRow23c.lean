/-
 Layer 23's RetroEffect, with its arguments as they come in. No conditions beyond those named.
-/
import Derived.Test.YtiaabmhjkoohmaaGreatLaw23c
namespace Go.Proofs.YtiaabmhjkoohmaaGreat
set_option linter.unusedVariables false
set_option linter.unusedSimpArgs false
open Go.RowKit
theorem retroEffect_row (sch : List (List Bd)) (cts : List Ct) (kds : List Kd) (As Ac Ak : Option Addr) (ns cs nc cc nk ck : Nat) (lim rnd : Int) (A : Option Addr) (n d : Nat) (l : List OpP) (a : OpP) (w : World) (h : TbIn w sch cts kds As Ac Ak ns cs nc cc nk ck) (ho : OpSl w A n l) (ha : ElSl w a.A a.m a.z.l) :
  Calls Tryz.prog 5 #[.agg #[.slice As ns cs, .slice Ac nc cc, .slice Ak nk ck, .int .i64 lim, .int .i64 rnd], .slice A n d, .agg (opC a).toArray] w fun e w' => e = .returned (.bool true) ∧ Below w.heap.size w w' := by
 obtain ⟨⟨yk, y9, ⟨ys, yc, ya, yf, yl⟩, yi, yp, yq, yr, yt, yn⟩, yA, ym, yd⟩ := a
 exact retroEffect_walk ⟨sch, cts, kds, lim, rnd⟩ As Ac Ak ns cs nc cc nk ck lim rnd w h.s h.c h.cc h.k h.ck rfl rfl ⟨h.s.2.1, h.c.2.1, h.k.2.1⟩ A n d l ho yk ys yc ya yf yi yp yq yr yt yn yl yA ym yd y9 ha
end Go.Proofs.YtiaabmhjkoohmaaGreat
