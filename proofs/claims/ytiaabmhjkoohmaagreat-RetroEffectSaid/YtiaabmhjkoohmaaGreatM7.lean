/-
  Contracts of functions that the claim reaches, and the plain laws behind them. Conditions as named in each.
-/
import Derived.Test.YtiaabmhjkoohmaaGreatRSlip
namespace Go.Proofs.YtiaabmhjkoohmaaGreat
set_option linter.unusedVariables false
set_option linter.unusedSimpArgs false
open Go.RowKit
theorem put6_gr (W : World) (g : Nat) (v0 v1 v2 v3 v4 v5 : Value) : W.grownBy (((((((W).setCell ⟨g, 0, none⟩ v0).setCell ⟨g, 1, none⟩ v1).setCell ⟨g, 2, none⟩ v2).setCell ⟨g, 3, none⟩ v3).setCell ⟨g, 4, none⟩ v4).setCell ⟨g, 5, none⟩ v5) (some g) := sg9 g [v0, v1, v2, v3, v4, v5] W 0
theorem put9_gr (W : World) (g : Nat) (v0 v1 v2 v3 v4 v5 v6 v7 v8 : Value) : W.grownBy ((((((((((W).setCell ⟨g, 0, none⟩ v0).setCell ⟨g, 1, none⟩ v1).setCell ⟨g, 2, none⟩ v2).setCell ⟨g, 3, none⟩ v3).setCell ⟨g, 4, none⟩ v4).setCell ⟨g, 5, none⟩ v5).setCell ⟨g, 6, none⟩ v6).setCell ⟨g, 7, none⟩ v7).setCell ⟨g, 8, none⟩ v8) (some g) := sg9 g [v0, v1, v2, v3, v4, v5, v6, v7, v8] W 0
structure ClnV (w : World) (base : Nat) (E : Int) (V Z : Cln) (A : Option Addr) (n a : Nat) (B : Option Addr) (m b : Nat) : Prop where
 ok : E = 0 → Z = V ∧ ClnOwn w base V A n a B m b
section
variable {w w' : World} {base base' : Nat} {E : Int} {V Z : Cln} {A : Option Addr} {n a : Nat} {B : Option Addr} {m b : Nat}
theorem ClnOwn.below (h : ClnOwn w base V A n a B m b) (hb : Below w.heap.size w w') : ClnOwn w' base V A n a B m b := ⟨h.lp, h.ls, oB9 h.per hb, oB9 h.sh hb⟩
theorem ClnV.below (h : ClnV w base E V Z A n a B m b) (hb : Below w.heap.size w w') : ClnV w' base E V Z A n a B m b := ⟨fun h0 => ⟨(h.ok h0).1, (h.ok h0).2.below hb⟩⟩
theorem ClnV.grown (h : ClnV w base E V Z A n a B m b) {g : Nat} {t : TypeId} {cs : Array Value} (hk : Blk w g t cs) (h1 : 41 ≠ t) (h2 : 79 ≠ t) (hg : w.grownBy w' (some g)) : ClnV w' base E V Z A n a B m b :=
 ⟨fun h0 => ⟨(h.ok h0).1, (h.ok h0).2.lp, (h.ok h0).2.ls, (h.ok h0).2.per.kept hg (Or.inr (own_blk (h.ok h0).2.per hk h1).symm), (h.ok h0).2.sh.kept hg (Or.inr (own_blk (h.ok h0).2.sh hk h2).symm)⟩⟩
theorem ReckR.v {e : Ending} (h : ReckR E V w e w') (hb : base' ≤ w.heap.size) : (∃ (Z : Cln) (A : Option Addr) (n a : Nat) (B : Option Addr) (m b : Nat), e = .returned (.tuple #[.agg (clC Z A n a B m b), .int .i64 E]) ∧ ClnV w' base' E V Z A n a B m b) ∧ Below w.heap.size w w' := by
 obtain ⟨⟨Z, A, n, a, B, m, b, he, h0⟩, hb'⟩ := h
 exact ⟨⟨Z, A, n, a, B, m, b, he, ⟨fun hE => ⟨(h0 hE).1, (h0 hE).2.lp, (h0 hE).2.ls, oM9 (h0 hE).2.per hb, oM9 (h0 hE).2.sh hb⟩⟩⟩, hb'⟩
end
end Go.Proofs.YtiaabmhjkoohmaaGreat
