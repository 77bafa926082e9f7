/-
  Slices of whole numbers, as arguments. No conditions.
-/
import Derived.Test.YtbliblhipecgfaaGreatDoorM0
import Derived.Test.YtbliblhipecgfaaGreatDoorI64
namespace Go.Proofs.YtbliblhipecgfaaGreatDoor
set_option linter.unusedVariables false
open Go.ChangeShapes Go.WideShapes Go.Deep Go.RowKit
section
variable {H : Type} {enc : TypeId × Value → H} {w : World}
set_option maxRecDepth 100000
theorem open_i64s {r : Reach} {b0 : Nat} {v : Value} {d : DataW H} {p : List MemPlace} (hv : Value.okWide Tryz.prog w r b0 182 v) (h : DataW.Trod enc Tryz.prog w 0 (fun _ => true) true 182 v d p) :
    ∃ A n c l, v = .slice A n c ∧ I64Sl w A n l := by
  obtain ⟨m, hm⟩ := trod_slice_arg Tryz.underlying182 hv h
  obtain ⟨A, n, c, l, rfl, h1, h2, h3, h4, h5⟩ := open_sl (fun w b off (a : Int) => w.cell? ⟨b, off, none⟩ = some (.int .i64 a)) 1 0 (by decide) Tryz.underlying182 (by kernel_rfl) (fun b off cs m x hb hl hc hx => by
    match cs, hl with
    | [u], _ =>
      obtain ⟨q, rfl, _⟩ := cell_int Tryz.underlying2 hx
      exact ⟨q, hc 0 _ rfl⟩) hm
  refine ⟨A, n, c, l, rfl, h3, h4, fun h0 => ?_⟩
  obtain ⟨b, off, hA, hlt, hat⟩ := h5 h0
  exact ⟨b, off, hA, hlt, fun k hk => by have := hat k hk; rwa [Nat.mul_one] at this⟩
end
end Go.Proofs.YtbliblhipecgfaaGreatDoor
