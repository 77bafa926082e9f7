/-
 Layer 23's RetroKeeps, with its arguments as they come in. No conditions beyond those named.
-/
import Derived.Test.YtiaabmhjkoohmaaGreatLaw23b
namespace Go.Proofs.YtiaabmhjkoohmaaGreat
set_option linter.unusedVariables false
set_option linter.unusedSimpArgs false
open Go.RowKit
theorem retroKeeps_row (sch : List (List Bd)) (cts : List Ct) (kds : List Kd) (As Ac Ak : Option Addr) (ns cs nc cc nk ck : Nat) (lim rnd : Int) (s k a f : Int) (al : Bool) (A : Option Addr) (n d : Nat) (l : List OpP) (w : World) (h : TbIn w sch cts kds As Ac Ak ns cs nc cc nk ck) (ht : True) (ho : OpSl w A n l) :
  Calls Tryz.prog 4 #[.agg #[.slice As ns cs, .slice Ac nc cc, .slice Ak nk ck, .int .i64 lim, .int .i64 rnd], .agg #[.int .i64 s, .int .i64 k, .int .i64 a, .int .i64 f, .bool al], .slice A n d] w fun e w' => e = .returned (.bool true) ∧ Below w.heap.size w w' :=
 retroKeeps_walk ⟨sch, cts, kds, lim, rnd⟩ As Ac Ak ns cs nc cc nk ck lim rnd ⟨s, k, a, f, al⟩ w h.s h.c h.cc h.k h.ck rfl rfl ⟨h.s.2.1, h.c.2.1, h.k.2.1⟩ A n d l ho
end Go.Proofs.YtiaabmhjkoohmaaGreat
