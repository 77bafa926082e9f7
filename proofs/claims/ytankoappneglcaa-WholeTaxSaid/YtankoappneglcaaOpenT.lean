/-
  An argument that is a table, opened. No conditions.
-/
import Derived.Test.YtankoappneglcaaOpen2
import Derived.Test.YtankoappneglcaaTab0
namespace Go.Proofs.Ytankoappneglcaa
set_option linter.unusedVariables false
open Go.ChangeShapes Go.WideShapes Go.Deep Go.RowKit
/-- a table that came in -/
structure TbIn (w : World) (sch : List (List Bd)) (cts : List Ct) (kds : List Kd) (As Ac Ak : Option Addr) (ns cs nc cc nk ck : Nat) : Prop where
  s : ScSl w As ns sch
  c : CtSl w Ac nc cts
  k : KdSl w Ak nk kds
  cs : ns ≤ cs
  cc : nc ≤ cc
  ck : nk ≤ ck
section
variable {H : Type} {enc : TypeId × Value → H} {w : World}
set_option maxRecDepth 100000
theorem open_band_t {b off : Nat} {cs : List Value} {m : Nat} {x : DataW H × List MemPlace} (hl : cs.length = 3) (hc : CellsAt w b off cs) (h : DataW.trod enc Try.prog w 0 (fun _ => true) true m 84 cs = some x) :
    ∃ a : Bd, w.cell? ⟨b, off, none⟩ = some (.int .i64 a.f) ∧ w.cell? ⟨b, off + 1, none⟩ = some (.int .i64 a.r) ∧ w.cell? ⟨b, off + 2, none⟩ = some (.int .i64 a.e) := by
  have hf := struct_cells Try.underlying84 (by kernel_rfl) hl h
  obtain ⟨u0, n0, y0, e0, t0⟩ := hf 0 _ rfl
  obtain ⟨u1, n1, y1, e1, t1⟩ := hf 1 _ rfl
  obtain ⟨u2, n2, y2, e2, t2⟩ := hf 2 _ rfl
  obtain ⟨q0, rfl, _⟩ := cell_int Try.underlying2 t0
  obtain ⟨q1, rfl, _⟩ := cell_int Try.underlying3 t1
  obtain ⟨q2, rfl, _⟩ := cell_int Try.underlying3 t2
  exact ⟨⟨q0, q1, q2⟩, hc 0 _ e0, hc 1 _ e1, hc 2 _ e2⟩
theorem open_bands_t {m : Nat} {u : Value} {x : DataW H × List MemPlace} (h : DataW.trod enc Try.prog w 0 (fun _ => true) true m 64 [u] = some x) : ∃ A n c l, u = .slice A n c ∧ n ≤ c ∧ BandSl w A n l := by
  obtain ⟨A, n, c, l, rfl, h1, h2, h3, h4, h5⟩ := open_sl (fun w b off (a : Bd) => w.cell? ⟨b, off, none⟩ = some (.int .i64 a.f) ∧ w.cell? ⟨b, off + 1, none⟩ = some (.int .i64 a.r) ∧ w.cell? ⟨b, off + 2, none⟩ = some (.int .i64 a.e)) 3 bd0 (by decide) Try.underlying64 (by kernel_rfl)
    (fun b off cs m x hb hl hc hx => open_band_t hl hc hx) h
  refine ⟨A, n, c, l, rfl, h1, h3, h4, fun h0 => ?_⟩
  obtain ⟨b, off, hA, hlt, hat⟩ := h5 h0
  exact ⟨b, off, hA, hlt, fun k hk => hat k (by omega)⟩
theorem open_contrib_t {b off : Nat} {cs : List Value} {m : Nat} {x : DataW H × List MemPlace} (hl : cs.length = 6) (hc : CellsAt w b off cs) (h : DataW.trod enc Try.prog w 0 (fun _ => true) true m 66 cs = some x) : ∃ a : Ct, CtAt w b off a := by
  have hf := struct_cells Try.underlying66 (by kernel_rfl) hl h
  obtain ⟨u0, n0, y0, e0, t0⟩ := hf 0 _ rfl
  obtain ⟨u1, n1, y1, e1, t1⟩ := hf 1 _ rfl
  obtain ⟨u2, n2, y2, e2, t2⟩ := hf 2 _ rfl
  obtain ⟨u3, n3, y3, e3, t3⟩ := hf 3 _ rfl
  obtain ⟨u4, n4, y4, e4, t4⟩ := hf 4 _ rfl
  obtain ⟨u5, n5, y5, e5, t5⟩ := hf 5 _ rfl
  obtain ⟨q0, rfl, s0⟩ := cell_string Try.underlying9 t0
  obtain ⟨q1, rfl, _⟩ := cell_int Try.underlying3 t1
  obtain ⟨A, n, c, l, rfl, _, hs⟩ := open_bands_t t2
  obtain ⟨q3, rfl, _⟩ := cell_int Try.underlying2 t3
  obtain ⟨q4, rfl, _⟩ := cell_int Try.underlying2 t4
  obtain ⟨q5, rfl, _⟩ := cell_int Try.underlying3 t5
  exact ⟨⟨q0, q1, l, q3, q4, q5⟩, hc 0 _ e0, s0, hc 1 _ e1, ⟨A, n, c, hc 2 _ e2, hs⟩, hc 3 _ e3, hc 4 _ e4, hc 5 _ e5⟩
theorem open_kind_t {b off : Nat} {cs : List Value} {m : Nat} {x : DataW H × List MemPlace} (hl : cs.length = 4) (hc : CellsAt w b off cs) (h : DataW.trod enc Try.prog w 0 (fun _ => true) true m 89 cs = some x) : ∃ a : Kd, KdAt w b off a := by
  have hf := struct_cells Try.underlying89 (by kernel_rfl) hl h
  obtain ⟨u0, n0, y0, e0, t0⟩ := hf 0 _ rfl
  obtain ⟨u1, n1, y1, e1, t1⟩ := hf 1 _ rfl
  obtain ⟨u2, n2, y2, e2, t2⟩ := hf 2 _ rfl
  obtain ⟨u3, n3, y3, e3, t3⟩ := hf 3 _ rfl
  obtain ⟨q0, rfl, s0⟩ := cell_string Try.underlying9 t0
  obtain ⟨q1, rfl, _⟩ := cell_int Try.underlying3 t1
  obtain ⟨q2, rfl, _⟩ := cell_int Try.underlying3 t2
  obtain ⟨q3, rfl, _⟩ := cell_int Try.underlying3 t3
  exact ⟨⟨q0, q1, q2, q3⟩, hc 0 _ e0, s0, hc 1 _ e1, hc 2 _ e2, hc 3 _ e3⟩
theorem open_table {r : Reach} {b0 : Nat} {v : Value} {d : DataW H} {p : List MemPlace} (hv : Value.okWide Try.prog w r b0 26 v) (h : DataW.Trod enc Try.prog w 0 (fun _ => true) true 26 v d p) :
    ∃ sch cts kds As Ac Ak ns cs nc cc nk ck lim rnd, v = .agg #[.slice As ns cs, .slice Ac nc cc, .slice Ak nk ck, .int .i64 lim, .int .i64 rnd] ∧ TbIn w sch cts kds As Ac Ak ns cs nc cc nk ck := by
  obtain ⟨l, m, rfl, hl, hm⟩ := trod_struct_arg Try.underlying26 hv h
  rw [show Try.prog.cellsOf 26 = 5 from by kernel_rfl] at hl
  have hf := struct_cells Try.underlying26 (by kernel_rfl) hl hm
  obtain ⟨u0, n0, y0, e0, t0⟩ := hf 0 _ rfl
  obtain ⟨u1, n1, y1, e1, t1⟩ := hf 1 _ rfl
  obtain ⟨u2, n2, y2, e2, t2⟩ := hf 2 _ rfl
  obtain ⟨u3, n3, y3, e3, t3⟩ := hf 3 _ rfl
  obtain ⟨u4, n4, y4, e4, t4⟩ := hf 4 _ rfl
  obtain ⟨As, ns, cs, sch, rfl, k0, _, s0⟩ := open_sl ScAt 1 [] (by decide) Try.underlying22 (by kernel_rfl) (fun b off cs m x hb hl hc hx => by
    match cs, hl with
    | [u], _ =>
      obtain ⟨A, n, c, l, rfl, _, hs⟩ := open_bands_t hx
      exact ⟨l, A, n, c, hc 0 _ rfl, hs⟩) t0
  obtain ⟨Ac, nc, cc, cts, rfl, k1, _, s1⟩ := open_sl CtAt 6 ct0 (by decide) Try.underlying23 (by kernel_rfl) (fun b off cs m x hb hl hc hx => open_contrib_t hl hc hx) t1
  obtain ⟨Ak, nk, ck, kds, rfl, k2, _, s2⟩ := open_sl KdAt 4 kd0 (by decide) Try.underlying24 (by kernel_rfl) (fun b off cs m x hb hl hc hx => open_kind_t hl hc hx) t2
  obtain ⟨lim, rfl, _⟩ := cell_int Try.underlying3 t3
  obtain ⟨rnd, rfl, _⟩ := cell_int Try.underlying3 t4
  match l, hl with
  | [a0, a1, a2, a3, a4], _ =>
    simp only [List.getElem?_cons_zero, List.getElem?_cons_succ, Option.some.injEq] at e0 e1 e2 e3 e4
    subst e0; subst e1; subst e2; subst e3; subst e4
    exact ⟨sch, cts, kds, As, Ac, Ak, ns, cs, nc, cc, nk, ck, lim, rnd, rfl, s0, s1, s2, k0, k1, k2⟩
end
end Go.Proofs.Ytankoappneglcaa
