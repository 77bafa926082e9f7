/-
  Contracts of functions that the claim reaches, and the plain laws behind them. Conditions as named in each.
-/
import Derived.Test.YtiaabmhjkoohmaaGreatBand
import Derived.Lib.MinMax
import Derived.Deep.RegionHeld3
import Derived.Test.YtiaabmhjkoohmaaGreatCode
import Derived.Deep.QuietTactic
import Derived.BigQuiet
import Derived.LoopN
import Derived.Test.YtiaabmhjkoohmaaGreatDate
import Derived.Deep.RegionLaw
import Derived.BigRegion
import Derived.Test.YtiaabmhjkoohmaaGreatServe
import Derived.Lib.SliceRun
import Derived.Test.YtiaabmhjkoohmaaGreatBookP
namespace Go.Proofs.YtiaabmhjkoohmaaGreat
set_option linter.unusedVariables false
set_option linter.unusedSimpArgs false
open Go.RowKit
structure Ct where
 nm : ByteArray
 base : Int
 bands : List Bd
 pc : Int
 yc : Int
 rd : Int
def ct0 : Ct := ⟨ByteArray.empty, 0, [], 0, 0, 0⟩
structure Kd where
 nm : ByteArray
 c : Int
 t : Int
 s : Int
def kd0 : Kd := ⟨ByteArray.empty, 0, 0, 0⟩
structure Tb where
 sch : List (List Bd)
 cts : List Ct
 kds : List Kd
 lim : Int
 rnd : Int
def CtAt (w : World) (b off : Nat) (x : Ct) : Prop :=
 w.cell? ⟨b, off, none⟩ = some (.string x.nm) ∧ x.nm.size ≤ 9223372036854775807 ∧ w.cell? ⟨b, off + 1, none⟩ = some (.int .i64 x.base) ∧
 (∃ A n c, w.cell? ⟨b, off + 2, none⟩ = some (.slice A n c) ∧ Blz w A n x.bands) ∧
 w.cell? ⟨b, off + 3, none⟩ = some (.int .i64 x.pc) ∧ w.cell? ⟨b, off + 4, none⟩ = some (.int .i64 x.yc) ∧ w.cell? ⟨b, off + 5, none⟩ = some (.int .i64 x.rd)
def KdAt (w : World) (b off : Nat) (x : Kd) : Prop :=
 w.cell? ⟨b, off, none⟩ = some (.string x.nm) ∧ x.nm.size ≤ 9223372036854775807 ∧ w.cell? ⟨b, off + 1, none⟩ = some (.int .i64 x.c) ∧ w.cell? ⟨b, off + 2, none⟩ = some (.int .i64 x.t) ∧ w.cell? ⟨b, off + 3, none⟩ = some (.int .i64 x.s)
def ScAt (w : World) (b off : Nat) (x : List Bd) : Prop := ∃ A n c, w.cell? ⟨b, off, none⟩ = some (.slice A n c) ∧ Blz w A n x
def CtSl := SlOf CtAt 6 ct0
def KdSl := SlOf KdAt 4 kd0
def ScSl := SlOf ScAt 1 []
theorem CtAt.below {w w' : World} {b off : Nat} {x : Ct} (h : CtAt w b off x) (hlt : b < w.heap.size) (hb : Below w.heap.size w w') : CtAt w' b off x := by
 obtain ⟨h0, hs, h1, ⟨A, n, c, h2, h2'⟩, h3, h4, h5⟩ := h
 have e : ∀ o, w'.cell? ⟨b, o, none⟩ = w.cell? ⟨b, o, none⟩ := fun o => hb.cell (p := ⟨b, o, none⟩) hlt
 exact ⟨(e _).trans h0, hs, (e _).trans h1, ⟨A, n, c, (e _).trans h2, h2'.below hb⟩, (e _).trans h3, (e _).trans h4, (e _).trans h5⟩
theorem KdAt.below {w w' : World} {b off : Nat} {x : Kd} (h : KdAt w b off x) (hlt : b < w.heap.size) (hb : Below w.heap.size w w') : KdAt w' b off x := by
 obtain ⟨h0, hs, h1, h2, h3⟩ := h
 have e : ∀ o, w'.cell? ⟨b, o, none⟩ = w.cell? ⟨b, o, none⟩ := fun o => hb.cell (p := ⟨b, o, none⟩) hlt
 exact ⟨(e _).trans h0, hs, (e _).trans h1, (e _).trans h2, (e _).trans h3⟩
theorem ScAt.below {w w' : World} {b off : Nat} {x : List Bd} (h : ScAt w b off x) (hlt : b < w.heap.size) (hb : Below w.heap.size w w') : ScAt w' b off x := by
 obtain ⟨A, n, c, h0, h1⟩ := h
 exact ⟨A, n, c, (hb.cell (p := ⟨b, _, none⟩) hlt).trans h0, h1.below hb⟩
theorem CtSl.below {w w' : World} {A : Option Addr} {n : Nat} {l : List Ct} (h : CtSl w A n l) (hb : Below w.heap.size w w') : CtSl w' A n l := SlOf.below h (fun b off x hx hlt => hx.below hlt hb) hb
theorem KdSl.below {w w' : World} {A : Option Addr} {n : Nat} {l : List Kd} (h : KdSl w A n l) (hb : Below w.heap.size w w') : KdSl w' A n l := SlOf.below h (fun b off x hx hlt => hx.below hlt hb) hb
theorem ScSl.below {w w' : World} {A : Option Addr} {n : Nat} {l : List (List Bd)} (h : ScSl w A n l) (hb : Below w.heap.size w w') : ScSl w' A n l := SlOf.below h (fun b off x hx hlt => hx.below hlt hb) hb
def kdC (z : Kd) : List Value := [.string z.nm, .int .i64 z.c, .int .i64 z.t, .int .i64 z.s]
end Go.Proofs.YtiaabmhjkoohmaaGreat
namespace Go.Proofs.YtiaabmhjkoohmaaGreat
set_option maxRecDepth 100000
set_option maxHeartbeats 25600000
set_option linter.unusedVariables false
set_option linter.unusedSimpArgs false
open Go.ChangeShapes Go.WideShapes Go.Deep Go.RowKit
structure TbIn (w : World) (sch : List (List Bd)) (cts : List Ct) (kds : List Kd) (As Ac Ak : Option Addr) (ns cs nc cc nk ck : Nat) : Prop where
 s : ScSl w As ns sch
 c : CtSl w Ac nc cts
 k : KdSl w Ak nk kds
 cs : ns ≤ cs
 cc : nc ≤ cc
 ck : nk ≤ ck
section
variable {H : Type} {enc : TypeId × Value → H} {w : World}
theorem open_band_t {b off : Nat} {cs : List Value} {m : Nat} {x : DataW H × List MemPlace} (hl : cs.length = 3) (hc : CellsAt w b off cs) (h : DataW.trod enc Tryz.prog w 0 (fun _ => true) true m 145 cs = some x) :
  ∃ a : Bd, w.cell? ⟨b, off, none⟩ = some (.int .i64 a.f) ∧ w.cell? ⟨b, off + 1, none⟩ = some (.int .i64 a.r) ∧ w.cell? ⟨b, off + 2, none⟩ = some (.int .i64 a.e) := by
 have hf := scz Tryz.underlying145 (by kernel_rfl) hl h
 obtain ⟨u0, n0, y0, e0, t0⟩ := hf 0 _ rfl
 obtain ⟨u1, n1, y1, e1, t1⟩ := hf 1 _ rfl
 obtain ⟨u2, n2, y2, e2, t2⟩ := hf 2 _ rfl
 obtain ⟨q0, rfl, _⟩ := ciz Tryz.underlying2 t0
 obtain ⟨q1, rfl, _⟩ := ciz Tryz.underlying3 t1
 obtain ⟨q2, rfl, _⟩ := ciz Tryz.underlying3 t2
 exact ⟨⟨q0, q1, q2⟩, hc 0 _ e0, hc 1 _ e1, hc 2 _ e2⟩
theorem open_bands_t {m : Nat} {u : Value} {x : DataW H × List MemPlace} (h : DataW.trod enc Tryz.prog w 0 (fun _ => true) true m 146 [u] = some x) : ∃ A n c l, u = .slice A n c ∧ n ≤ c ∧ Blz w A n l := by
 obtain ⟨A, n, c, l, rfl, h1, h2, h3, h4, h5⟩ := open_sl (fun w b off (a : Bd) => w.cell? ⟨b, off, none⟩ = some (.int .i64 a.f) ∧ w.cell? ⟨b, off + 1, none⟩ = some (.int .i64 a.r) ∧ w.cell? ⟨b, off + 2, none⟩ = some (.int .i64 a.e)) 3 bd0 (by decide) Tryz.underlying146 (by kernel_rfl)
  (fun b off cs m x hb hl hc hx => open_band_t hl hc hx) h
 refine ⟨A, n, c, l, rfl, h1, h3, h4, fun h0 => ?_⟩
 obtain ⟨b, off, hA, hlt, hat⟩ := h5 h0
 exact ⟨b, off, hA, hlt, fun k hk => hat k (by omega)⟩
theorem open_contrib_t {b off : Nat} {cs : List Value} {m : Nat} {x : DataW H × List MemPlace} (hl : cs.length = 6) (hc : CellsAt w b off cs) (h : DataW.trod enc Tryz.prog w 0 (fun _ => true) true m 195 cs = some x) : ∃ a : Ct, CtAt w b off a := by
 have hf := scz Tryz.underlying195 (by kernel_rfl) hl h
 obtain ⟨u0, n0, y0, e0, t0⟩ := hf 0 _ rfl
 obtain ⟨u1, n1, y1, e1, t1⟩ := hf 1 _ rfl
 obtain ⟨u2, n2, y2, e2, t2⟩ := hf 2 _ rfl
 obtain ⟨u3, n3, y3, e3, t3⟩ := hf 3 _ rfl
 obtain ⟨u4, n4, y4, e4, t4⟩ := hf 4 _ rfl
 obtain ⟨u5, n5, y5, e5, t5⟩ := hf 5 _ rfl
 obtain ⟨q0, rfl, s0⟩ := cell_string Tryz.underlying9 t0
 obtain ⟨q1, rfl, _⟩ := ciz Tryz.underlying3 t1
 obtain ⟨A, n, c, l, rfl, _, hs⟩ := open_bands_t t2
 obtain ⟨q3, rfl, _⟩ := ciz Tryz.underlying2 t3
 obtain ⟨q4, rfl, _⟩ := ciz Tryz.underlying2 t4
 obtain ⟨q5, rfl, _⟩ := ciz Tryz.underlying3 t5
 exact ⟨⟨q0, q1, l, q3, q4, q5⟩, hc 0 _ e0, s0, hc 1 _ e1, ⟨A, n, c, hc 2 _ e2, hs⟩, hc 3 _ e3, hc 4 _ e4, hc 5 _ e5⟩
theorem open_kind_t {b off : Nat} {cs : List Value} {m : Nat} {x : DataW H × List MemPlace} (hl : cs.length = 4) (hc : CellsAt w b off cs) (h : DataW.trod enc Tryz.prog w 0 (fun _ => true) true m 148 cs = some x) : ∃ a : Kd, KdAt w b off a := by
 have hf := scz Tryz.underlying148 (by kernel_rfl) hl h
 obtain ⟨u0, n0, y0, e0, t0⟩ := hf 0 _ rfl
 obtain ⟨u1, n1, y1, e1, t1⟩ := hf 1 _ rfl
 obtain ⟨u2, n2, y2, e2, t2⟩ := hf 2 _ rfl
 obtain ⟨u3, n3, y3, e3, t3⟩ := hf 3 _ rfl
 obtain ⟨q0, rfl, s0⟩ := cell_string Tryz.underlying9 t0
 obtain ⟨q1, rfl, _⟩ := ciz Tryz.underlying3 t1
 obtain ⟨q2, rfl, _⟩ := ciz Tryz.underlying3 t2
 obtain ⟨q3, rfl, _⟩ := ciz Tryz.underlying3 t3
 exact ⟨⟨q0, q1, q2, q3⟩, hc 0 _ e0, s0, hc 1 _ e1, hc 2 _ e2, hc 3 _ e3⟩
theorem open_table {r : Reach} {b0 : Nat} {v : Value} {d : DataW H} {p : List MemPlace} (hv : Value.okWide Tryz.prog w r b0 26 v) (h : DataW.Trod enc Tryz.prog w 0 (fun _ => true) true 26 v d p) :
  ∃ sch cts kds As Ac Ak ns cs nc cc nk ck lim rnd, v = .agg #[.slice As ns cs, .slice Ac nc cc, .slice Ak nk ck, .int .i64 lim, .int .i64 rnd] ∧ TbIn w sch cts kds As Ac Ak ns cs nc cc nk ck := by
 obtain ⟨l, m, rfl, hl, hm⟩ := trod_struct_arg Tryz.underlying26 hv h
 rw [show Tryz.prog.cellsOf 26 = 5 from by kernel_rfl] at hl
 have hf := scz Tryz.underlying26 (by kernel_rfl) hl hm
 obtain ⟨u0, n0, y0, e0, t0⟩ := hf 0 _ rfl
 obtain ⟨u1, n1, y1, e1, t1⟩ := hf 1 _ rfl
 obtain ⟨u2, n2, y2, e2, t2⟩ := hf 2 _ rfl
 obtain ⟨u3, n3, y3, e3, t3⟩ := hf 3 _ rfl
 obtain ⟨u4, n4, y4, e4, t4⟩ := hf 4 _ rfl
 obtain ⟨As, ns, cs, sch, rfl, k0, _, s0⟩ := open_sl ScAt 1 [] (by decide) Tryz.underlying22 (by kernel_rfl) (fun b off cs m x hb hl hc hx => by
  match cs, hl with
  | [u], _ =>
   obtain ⟨A, n, c, l, rfl, _, hs⟩ := open_bands_t hx
   exact ⟨l, A, n, c, hc 0 _ rfl, hs⟩) t0
 obtain ⟨Ac, nc, cc, cts, rfl, k1, _, s1⟩ := open_sl CtAt 6 ct0 (by decide) Tryz.underlying23 (by kernel_rfl) (fun b off cs m x hb hl hc hx => open_contrib_t hl hc hx) t1
 obtain ⟨Ak, nk, ck, kds, rfl, k2, _, s2⟩ := open_sl KdAt 4 kd0 (by decide) Tryz.underlying24 (by kernel_rfl) (fun b off cs m x hb hl hc hx => open_kind_t hl hc hx) t2
 obtain ⟨lim, rfl, _⟩ := ciz Tryz.underlying3 t3
 obtain ⟨rnd, rfl, _⟩ := ciz Tryz.underlying3 t4
 match l, hl with
 | [a0, a1, a2, a3, a4], _ =>
  simp only [List.getElem?_cons_zero, List.getElem?_cons_succ, Option.some.injEq] at e0 e1 e2 e3 e4
  subst e0; subst e1; subst e2; subst e3; subst e4
  exact ⟨sch, cts, kds, As, Ac, Ak, ns, cs, nc, cc, nk, ck, lim, rnd, rfl, s0, s1, s2, k0, k1, k2⟩
end
section
variable {H : Type} {enc : TypeId × Value → H} {w : World}
theorem open_code {r : Reach} {b0 : Nat} {v : Value} {d : DataW H} {p : List MemPlace} (hv : Value.okWide Tryz.prog w r b0 28 v) (h : DataW.Trod enc Tryz.prog w 0 (fun _ => true) true 28 v d p) :
  ∃ s k a f al, v = .agg #[.int .i64 s, .int .i64 k, .int .i64 a, .int .i64 f, .bool al] ∧ True := by
 obtain ⟨l, m, rfl, hl, hm⟩ := trod_struct_arg Tryz.underlying28 hv h
 rw [show Tryz.prog.cellsOf 28 = 5 from by kernel_rfl] at hl
 have hf := scz Tryz.underlying28 (by kernel_rfl) hl hm
 obtain ⟨u0, n0, y0, e0, t0⟩ := hf 0 _ rfl
 obtain ⟨u1, n1, y1, e1, t1⟩ := hf 1 _ rfl
 obtain ⟨u2, n2, y2, e2, t2⟩ := hf 2 _ rfl
 obtain ⟨u3, n3, y3, e3, t3⟩ := hf 3 _ rfl
 obtain ⟨u4, n4, y4, e4, t4⟩ := hf 4 _ rfl
 obtain ⟨q0, rfl, _⟩ := ciz Tryz.underlying3 t0
 obtain ⟨q1, rfl, _⟩ := ciz Tryz.underlying3 t1
 obtain ⟨q2, rfl, _⟩ := ciz Tryz.underlying2 t2
 obtain ⟨q3, rfl, _⟩ := ciz Tryz.underlying3 t3
 obtain ⟨q4, rfl⟩ := cell_bool Tryz.underlying4 t4
 match l, hl with
 | [a0, a1, a2, a3, a4], _ =>
  simp only [List.getElem?_cons_zero, List.getElem?_cons_succ, Option.some.injEq] at e0 e1 e2 e3 e4
  subst e0; subst e1; subst e2; subst e3; subst e4
  exact ⟨q0, q1, q2, q3, q4, rfl, trivial⟩
end
end Go.Proofs.YtiaabmhjkoohmaaGreat
namespace Go.Proofs.YtiaabmhjkoohmaaGreat
set_option maxRecDepth 100000
set_option maxHeartbeats 25600000
set_option linter.unusedVariables false
set_option linter.unusedSimpArgs false
open Go.RowKit Tryz
open Lib (hid)
theorem bwidth_c (x : Int) (i n b off c : Nat) (l : List Bd) (w : World) (g : GoodB l n) (hx : mrB x = true) (hi : i < n) (hb : b < w.heap.size) (hc : BandsAt w b off l) :
  Calls prog 210 #[.int .i64 x, .int .i64 i, .slice (some ⟨b, off, none⟩) n c] w fun e w' => e = .returned (.int .i64 (widthI x (fun k => (l.getD k bd0).f) n i)) ∧ w = w' := by
 have hx' := miz.1 hx
 have hn8 := g.hi
 have hf := g.f i hi
 obtain ⟨c0, _, _⟩ := hc i (by rw [← g.len]; exact hi)
 obtain ⟨v, hv⟩ : ∃ v, v = widthI x (fun k => (l.getD k bd0).f) n i := ⟨_, rfl⟩
 rw [← hv]
 unfold widthI pos at hv
 dsimp only at hv
 have i1 : ((i : Int) + 1).toNat = i + 1 := by omega
 by_cases h1 : i + 1 < n
 ·
  obtain ⟨d0, _, _⟩ := hc (i + 1) (by rw [← g.len]; exact h1)
  have hf1 := g.f (i + 1) h1
  generalize (l.getD i bd0).f = f0 at *
  rw [if_pos h1] at hv
  generalize (l.getD (i + 1) bd0).f = f1 at *
  have HV := hid hv
  clear hv hc g
  go_enter func210, ntmps210
  go_wp2
  go_ret
  exact ⟨ret_int HV.out.symm, rfl⟩
 ·
  generalize (l.getD i bd0).f = f0 at *
  rw [if_neg h1] at hv
  have HV := hid hv
  clear hv hc g
  go_enter func210, ntmps210
  go_wp2
  go_ret
  exact ⟨ret_int HV.out.symm, rfl⟩
theorem brate1_c (a r e : Int) (w : World) : Calls prog 208 #[.agg #[.int .i64 a, .int .i64 r, .int .i64 e]] w fun e w' => e = .returned (.int .i64 r) ∧ Below w.heap.size w w' := by
 go_enter func208, ntmps208
 go_wp2
 go_ret
 exact ⟨rfl, bz1 _ _⟩
theorem sB3 {w W W1 : World} {b o0 o1 o2 : Nat} {v0 v1 v2 : Value} (hw : b < w.heap.size)
  (h : W.cell? ⟨b, o0, none⟩ = some v0 ∧ W.cell? ⟨b, o1, none⟩ = some v1 ∧ W.cell? ⟨b, o2, none⟩ = some v2 ∧ Below w.heap.size w W) (hb : Below W.heap.size W W1) :
  W1.cell? ⟨b, o0, none⟩ = some v0 ∧ W1.cell? ⟨b, o1, none⟩ = some v1 ∧ W1.cell? ⟨b, o2, none⟩ = some v2 ∧ Below w.heap.size w W1 := by
 have hlt : b < W.heap.size := Nat.lt_of_lt_of_le hw h.2.2.2.size
 exact ⟨(hb.cell (p := ⟨b, _, none⟩) hlt).trans h.1, (hb.cell (p := ⟨b, _, none⟩) hlt).trans h.2.1, (hb.cell (p := ⟨b, _, none⟩) hlt).trans h.2.2.1, h.2.2.2.trans (hb.mono h.2.2.2.size)⟩
theorem beach_loop1 (sel : Bd → Int) (hsel : ∀ (a r e : Int) (w : World), Calls prog 208 #[.agg #[.int .i64 a, .int .i64 r, .int .i64 e]] w fun x w' => x = .returned (.int .i64 (sel ⟨a, r, e⟩)) ∧ Below w.heap.size w w')
    (x : Int) (n b off c : Nat) (l : List Bd) (w : World) (g : GoodB l n) (hs : ∀ k, k < n → 0 ≤ sel (l.getD k bd0) ∧ sel (l.getD k bd0) ≤ 10000) (hx : mrB x = true) (hb : b < w.heap.size) (hc : BandsAt w b off l) (T : Int) (hT : Hid (T = pSz x (fun k => (l.getD k bd0).f) (fun k => sel (l.getD k bd0)) n n)) (hsl : Blz w (some ⟨b, off, none⟩) n l) (hbe : Hid (0 = bE9 l)) :
    Calls prog 207 #[.int .i64 x, .slice (some ⟨b, off, none⟩) n c, .func (.func 208) #[] #[]] w fun e w' => e = .returned (.tuple #[.int .i64 T, .int .i64 0]) ∧ Below w.heap.size w w' := by
  have hx' := miz.1 hx
  have hn8 := g.hi
  have HS := hid hsel
  clear hsel
  go_enter func207, ntmps207
  go_wp2_with fail
  refine wp_scope_goto 0 (fun a' w' => ∃ (k : Nat) (s : Int), k ≤ n ∧ Hid (s = pSz x (fun k => (l.getD k bd0).f) (fun k => sel (l.getD k bd0)) n k) ∧ Below w.heap.size w w' ∧ ∃ (u3 u4 u5 u8 u11 u12 u13 u14 u15 u16 u17 u18 u19 u20 u21 u22 u23 u24 u25 u26 u27 u28 u29 u30 u31 u32 u33 u34 u35 u36 u37 u38 u39 u40 u41 u42 u43 u44 u45 u46 u47 u48 u49 u50 u51 u52 u53 u54 u55 u56 u57 : Value), a' = { tmps := #[.int .i64 x, .slice (some ⟨b, off, none⟩) n c, .func (.func 208) #[] #[], u3, u4, u5, .int .i64 0, .int .i64 0, u8, .int .i64 s, .int .i64 k, u11, u12, u13, u14, u15, u16, u17, u18, u19, u20, u21, u22, u23, u24, u25, u26, u27, u28, u29, u30, u31, u32, u33, u34, u35, u36, u37, u38, u39, u40, u41, u42, u43, u44, u45, u46, u47, u48, u49, u50, u51, u52, u53, u54, u55, u56, u57], defers := [] }) (fun a' _ => n - (intOf (a'.tmps.getD 10 undef)).toNat) rfl ?_ ?_
  · rintro a' w' ⟨k, s, hk, hs', hbl, hF⟩
    obtain ⟨u3, u4, u5, u8, u11, u12, u13, u14, u15, u16, u17, u18, u19, u20, u21, u22, u23, u24, u25, u26, u27, u28, u29, u30, u31, u32, u33, u34, u35, u36, u37, u38, u39, u40, u41, u42, u43, u44, u45, u46, u47, u48, u49, u50, u51, u52, u53, u54, u55, u56, u57, hF⟩ := hF; subst hF
    have hT' := hT.out
    have hs'' := hs'.out
    by_cases hkn : k = n
    · have tk : ((k : Int) == (n : Int)) = true := by simp; omega
      have e : T = s := by rw [hT', hs'', hkn]
      subst e
      clear hT' hs'' hkn
      go_wp2_with fail
      simp only [Exit.jump]
      go_ret2
      exact ⟨rfl, hbl⟩
    have tk : ((k : Int) == (n : Int)) = false := by simp; omega
    have hlt : k < n := by omega
    obtain ⟨c0, c1, c2⟩ := hc k (by rw [← g.len]; omega)
    rw [← hbl.cell (p := ⟨b, _, none⟩) hb] at c0 c1 c2
    have hsz := hbl.size
    by_cases hxf : x ≤ (l.getD k bd0).f
    · have e : T = s := by
        rw [hT', hs'']
        have := (prog_stop x (fun k => (l.getD k bd0).f) (fun k => sel (l.getD k bd0)) n g.m k hxf (n - k) (by omega)).1
        rw [show k + (n - k) = n by omega] at this
        exact this
      subst e
      clear hT' hs'' hkn
      generalize (l.getD k bd0).f = xf at *
      generalize (l.getD k bd0).r = xr at *
      generalize (l.getD k bd0).e = xe at *
      go_wp2_with fail
      simp only [Exit.jump]
      go_ret2
      exact ⟨rfl, hbl⟩
    obtain ⟨wd, hwd⟩ : ∃ wd, wd = widthI x (fun k => (l.getD k bd0).f) n k := ⟨_, rfl⟩
    obtain ⟨rt, hrt⟩ : ∃ rt, rt = sel (l.getD k bd0) := ⟨_, rfl⟩
    have hwb := width_bd x (fun k => (l.getD k bd0).f) n k (g.f k hlt).1 hx'.2
    have hrb := hs k hlt
    rw [← hwd] at hwb
    rw [← hrt] at hrb
    have hp := prog_bd x (fun k => (l.getD k bd0).f) (fun k => sel (l.getD k bd0)) n (fun i hi => (g.f i hi).1) hs hx'.2 k hk
    rw [← hs''] at hp
    have hp2 : s ≤ 8000000000000000 := by have : (k : Int) ≤ 8 := by omega
                                          omega
    have hwr := mul_bd0 hwb.1 hwb.2 hrb.1 hrb.2 (by decide)
    have hmw : mrB wd = true := mr_t (by omega)
    have hrr : rateB rt = true := riz.2 hrb
    have hnext : Hid (s + wd * rt = pSz x (fun k => (l.getD k bd0).f) (fun k => sel (l.getD k bd0)) n (k + 1)) := by unfold Hid; rw [pSz, ← hs'', ← hwd, ← hrt]
    have hW : Hid (∀ W : World, Below w.heap.size w W → Calls prog 210 #[.int .i64 x, .int .i64 k, .slice (some ⟨b, off, none⟩) n c] W fun e w' => e = .returned (.int .i64 wd) ∧ W = w') := fun W hW => by
      rw [hwd]; exact bwidth_c x k n b off c l W g hx hlt (Nat.lt_of_lt_of_le hb hW.size) (hc.below hb hW)
    have hR : Hid (∀ W : World, Calls prog 208 #[.agg #[.int .i64 (l.getD k bd0).f, .int .i64 (l.getD k bd0).r, .int .i64 (l.getD k bd0).e]] W fun e w' => e = .returned (.int .i64 rt) ∧ Below W.heap.size W w') := fun W => by
      rw [hrt]; exact HS.out _ _ _ W
    clear hT' hs'' hwd hrt hkn hs' hT hsl
    generalize (l.getD k bd0).f = xf at *
    generalize (l.getD k bd0).r = xr at *
    generalize (l.getD k bd0).e = xe at *
    clear hs HS hc g
    go_wp2_with fail
    go_region_held3 (fun W => W.cell? ⟨b, off + k * 3, none⟩ = some (.int .i64 xf) ∧ W.cell? ⟨b, off + k * 3 + 1, none⟩ = some (.int .i64 xr) ∧ W.cell? ⟨b, off + k * 3 + 2, none⟩ = some (.int .i64 xe) ∧ Below w.heap.size w W)
      (first | assumption | (refine ⟨?_, ?_, ?_, ?_⟩ <;> assumption) | exact ⟨c0, c1, c2, hbl.drew⟩ | (apply sB3 hb <;> assumption))
      (first | (go_at_call 210; refine (hW.out _ (by first | assumption | exact hbl.drew | exact (show _ ∧ _ ∧ _ ∧ _ from by assumption).2.2.2)).mono ?_; rintro e w1 ⟨rfl, rfl⟩) | (go_at_call 182; refine (part_t wd rt _ hmw hrr).mono ?_; rintro e w1 ⟨rfl, hb1⟩) | (go_at_call 208; refine (hR.out _).mono ?_; rintro e w1 ⟨rfl, hb1⟩))
    all_goals
      go_wp2_with fail
      go_step3
      refine ⟨rfl, ⟨k + 1, _, by omega, hnext, (by first | assumption | exact hbl.drew | exact (show _ ∧ _ ∧ _ ∧ _ from by assumption).2.2.2), ⟨_, _, _, _, _, _, _, _, _, _, _, _, _, _, _, _, _, _, _, _, _, _, _, _, _, _, _, _, _, _, _, _, _, _, _, _, _, _, _, _, _, _, _, _, _, _, _, _, _, _, _, rfl⟩⟩, ?_⟩
      simp [intOf]; omega
  · intro HP
    have HP := hid HP
    go_upto_region 7 with (first | (go_at_call 186; refine (bcheck_c l _ n c _ hsl 0 hbe).mono ?_; rintro e w1 ⟨rfl, hb1⟩) | (go_at_call 76; refine (r1z _ _ _ x _ (by simp)).mono ?_; rintro e w' ⟨rfl, rfl⟩))
    go_step3
    simp only [Exit.then]
    rename_i hK
    exact hK _ _ (HP.out _ _ ⟨0, 0, by omega, rfl, hb1.trans ((bz1 _ _).mono hb1.size), ⟨_, _, _, _, _, _, _, _, _, _, _, _, _, _, _, _, _, _, _, _, _, _, _, _, _, _, _, _, _, _, _, _, _, _, _, _, _, _, _, _, _, _, _, _, _, _, _, _, _, _, _, rfl⟩⟩)
def bandS (sel : Bd → Int) (l : List Bd) (x : Int) : Int := pSz x (fun k => (l.getD k bd0).f) (fun k => sel (l.getD k bd0)) l.length l.length
theorem bexact1_c (x : Int) (l : List Bd) (A : Option Addr) (n c : Nat) (w : World) (h : Blz w A n l) (hl : bE9 l = 0) (hx : mrB x = true) :
  Calls prog 197 #[.int .i64 x, .slice A n c] w fun e w' => e = .returned (.tuple #[.int .i64 (bandS (·.r) l x), .int .i64 0]) ∧ Below w.heap.size w w' := by
 have h' := h
 obtain ⟨hn, hm, hc⟩ := h'
 have g := goodB l hl
 have gl := g.lo
 obtain ⟨b, off, rfl, hb, hc⟩ := hc (by omega)
 have key := fun T hT => beach_loop1 (·.r) (fun a r e w => brate1_c a r e w) x n b off c l w (by rw [hn]; exact g) (by rw [hn]; exact g.r) hx hb hc T hT h hl.symm
 obtain ⟨T, hT⟩ : ∃ T, T = bandS (·.r) l x := ⟨_, rfl⟩
 have HK := hid (key T (by unfold Hid; rw [hT, bandS, hn]))
 rw [← hT]
 clear key hT g gl hc h hl hn
 go_enter func197, ntmps197
 go_wp2_with fail
 refine HK.out.mono ?_
 rintro e w1 ⟨rfl, hb1⟩
 go_wp2_with fail
 go_ret2
 exact ⟨rfl, hb1⟩
structure CtOK (x : Ct) : Prop where
 nm : nameB x.nm = true
 base : x.base = 1 ∨ x.base = 2
 rd : modeB x.rd = true
 pc : 0 ≤ x.pc ∧ x.pc ≤ 100000000000
 yc : 0 ≤ x.yc ∧ x.yc ≤ 100000000000
 bands : bE9 x.bands = 0
structure KdOK (x : Kd) : Prop where
 nm : nameB x.nm = true
 c : -1 ≤ x.c ∧ x.c ≤ 1
 t : -1 ≤ x.t ∧ x.t ≤ 1
 s : -1 ≤ x.s ∧ x.s ≤ 1
theorem Blk.all5 {w : World} {g : Nat} {t : TypeId} {a b c d e : Value} (h : Blk w g t #[a, b, c, d, e]) : w.cell? ⟨g, 0, none⟩ = some a ∧ w.cell? ⟨g, 1, none⟩ = some b ∧ w.cell? ⟨g, 2, none⟩ = some c ∧ w.cell? ⟨g, 3, none⟩ = some d ∧ w.cell? ⟨g, 4, none⟩ = some e :=
 ⟨h.cell 0, h.cell 1, h.cell 2, h.cell 3, h.cell 4⟩
theorem Blk.all6 {w : World} {g : Nat} {t : TypeId} {a b c d e f : Value} (h : Blk w g t #[a, b, c, d, e, f]) : w.cell? ⟨g, 0, none⟩ = some a ∧ w.cell? ⟨g, 1, none⟩ = some b ∧ w.cell? ⟨g, 2, none⟩ = some c ∧ w.cell? ⟨g, 3, none⟩ = some d ∧ w.cell? ⟨g, 4, none⟩ = some e ∧ w.cell? ⟨g, 5, none⟩ = some f :=
 ⟨h.cell 0, h.cell 1, h.cell 2, h.cell 3, h.cell 4, h.cell 5⟩
theorem getD_take {α : Type} (l : List α) (k j : Nat) (h : j < k) (d : α) : (l.take k).getD j d = l.getD j d := by
 simp [List.getD, h]
theorem SlOf.take {α : Type} {At : World → Nat → Nat → α → Prop} {K : Nat} {d : α} {w : World} {A : Option Addr} {n : Nat} {l : List α} (h : SlOf At K d w A n l) (k : Nat) (hk : k ≤ n) : SlOf At K d w A k (l.take k) := by
 obtain ⟨h1, h2, h3⟩ := h
 refine ⟨by rw [List.length_take]; omega, by omega, fun h0 => ?_⟩
 obtain ⟨b, off, hA, hlt, hc⟩ := h3 (by omega)
 exact ⟨b, off, hA, hlt, fun j hj => by rw [getD_take _ _ _ hj]; exact hc j (by omega)⟩
structure Bs where
 c : Int
 t : Int
 s : Int
def bs0 : Bs := ⟨0, 0, 0⟩
def bsR (b : Bs) : Bool := mrB b.c && (mrB b.t && mrB b.s)
def onI (base : Int) (b : Bs) : Int := if base = 1 then max 0 b.t else max 0 b.s
def underI (pc yc x ahead : Int) : Int :=
 let a := max 0 x
 let b := if 0 < pc then min a pc else a
 if 0 < yc then min b (max 0 (yc - max 0 ahead)) else b
theorem bright_c (b : Bs) (w : World) : Calls Tryz.prog 134 #[.agg #[.int .i64 b.c, .int .i64 b.t, .int .i64 b.s]] w fun e w' => e = .returned (.bool (bsR b)) ∧ Below w.heap.size w w' := by
 obtain ⟨c, t, s⟩ := b
 unfold bsR
 dsimp only
 go_enter Tryz.func134, Tryz.ntmps134
 go_wp2_with fail
 refine (right3 _ _ _ c t s _ (by simp) (by simp) (by simp)).mono ?_
 rintro e w' ⟨rfl, rfl⟩
 go_wp2_with fail
 go_ret
 exact ⟨rfl, (bz1 _ _).alloc (by simp) _⟩
theorem on_c (nm : ByteArray) (base pc yc rd : Int) (A : Option Addr) (n c : Nat) (b : Bs) (w : World) :
  Calls Tryz.prog 180 #[.agg #[.string nm, .int .i64 base, .slice A n c, .int .i64 pc, .int .i64 yc, .int .i64 rd], .agg #[.int .i64 b.c, .int .i64 b.t, .int .i64 b.s]] w fun e w' => e = .returned (.int .i64 (onI base b)) ∧ Below w.heap.size w w' := by
 obtain ⟨xc, xt, xs⟩ := b
 unfold onI
 dsimp only
 by_cases h : base = 1
 ·
  subst h
  rw [if_pos rfl]
  go_enter Tryz.func180, Tryz.ntmps180
  go_wp2
  go_ret
  exact ⟨rfl, (bz1 _ _).alloc (by simp) _⟩
 ·
  rw [if_neg h]
  have h' : (base == 1) = false := by simpa using h
  clear h
  go_enter Tryz.func180, Tryz.ntmps180
  go_wp2
  go_ret
  exact ⟨rfl, (bz1 _ _).alloc (by simp) _⟩
theorem under_c (nm : ByteArray) (base pc yc rd : Int) (A : Option Addr) (n c : Nat) (x ahead : Int) (w : World) (hyc : -4611686018427387904 ≤ yc ∧ yc ≤ 4611686018427387904) (ha : -4611686018427387904 ≤ ahead ∧ ahead ≤ 4611686018427387904) :
  Calls Tryz.prog 179 #[.agg #[.string nm, .int .i64 base, .slice A n c, .int .i64 pc, .int .i64 yc, .int .i64 rd], .int .i64 x, .int .i64 ahead] w fun e w' => e = .returned (.int .i64 (underI pc yc x ahead)) ∧ Below w.heap.size w w' := by
 unfold underI
 dsimp only
 by_cases h1 : 0 < pc <;> by_cases h2 : 0 < yc
 ·
  rw [if_pos h1, if_pos h2]
  go_enter Tryz.func179, Tryz.ntmps179
  go_wp2
  go_ret
  exact ⟨ret_int (show _ = _ by omega), bz1 _ _⟩
 ·
  rw [if_pos h1, if_neg h2]
  go_enter Tryz.func179, Tryz.ntmps179
  go_wp2
  go_ret
  exact ⟨rfl, bz1 _ _⟩
 ·
  rw [if_neg h1, if_pos h2]
  go_enter Tryz.func179, Tryz.ntmps179
  go_wp2
  go_ret
  exact ⟨rfl, bz1 _ _⟩
 ·
  rw [if_neg h1, if_neg h2]
  go_enter Tryz.func179, Tryz.ntmps179
  go_wp2
  go_ret
  exact ⟨rfl, bz1 _ _⟩
def BsAt (w : World) (b off : Nat) (x : Bs) : Prop := w.cell? ⟨b, off, none⟩ = some (.int .i64 x.c) ∧ w.cell? ⟨b, off + 1, none⟩ = some (.int .i64 x.t) ∧ w.cell? ⟨b, off + 2, none⟩ = some (.int .i64 x.s)
theorem BsAt.below {w w' : World} {b off : Nat} {x : Bs} (h : BsAt w b off x) (hlt : b < w.heap.size) (hb : Below w.heap.size w w') : BsAt w' b off x :=
 ⟨(hb.cell (p := ⟨b, _, none⟩) hlt).trans h.1, (hb.cell (p := ⟨b, _, none⟩) hlt).trans h.2.1, (hb.cell (p := ⟨b, _, none⟩) hlt).trans h.2.2⟩
def BsSl := SlOf BsAt 3 bs0
theorem BsSl.below {w w' : World} {A : Option Addr} {n : Nat} {l : List Bs} (h : BsSl w A n l) (hb : Below w.heap.size w w') : BsSl w' A n l := SlOf.below h (fun b off x hx hlt => hx.below hlt hb) hb
def xI (c : Ct) (b : Bs) (ah : Int) : Int := underI c.pc c.yc (onI c.base b) ah
theorem on_bd (base : Int) (b : Bs) (h : bsR b = true) : 0 ≤ onI base b ∧ onI base b ≤ 100000000000 := by
 unfold bsR at h
 simp only [Bool.and_eq_true] at h
 have h1 := miz.1 h.2.1
 have h2 := miz.1 h.2.2
 unfold onI
 split <;> omega
theorem under_bd (pc yc x ahead : Int) (h0 : 0 ≤ x) : 0 ≤ underI pc yc x ahead ∧ underI pc yc x ahead ≤ x := by
 unfold underI
 dsimp only
 split <;> split <;> omega
theorem x_bd (c : Ct) (b : Bs) (ah : Int) (h : bsR b = true) : 0 ≤ xI c b ah ∧ xI c b ah ≤ 100000000000 := by
 have h1 := on_bd c.base b h
 have h2 := under_bd c.pc c.yc (onI c.base b) ah h1.1
 unfold xI
 omega
theorem code_a (s k a f : Int) (h : cE9 s k a f = 0) : 0 ≤ a ∧ a ≤ 999999000 ∧ 0 ≤ s ∧ s ≤ 7 ∧ 1 ≤ k ∧ k ≤ 4 ∧ 0 ≤ f ∧ f ≤ 7 := by
 unfold cE9 at h
 split at h
 ·
  omega
 ·
  split at h
  ·
   omega
  ·
   split at h
   ·
    omega
   ·
    split at h
    ·
     omega
    ·
     split at h
     ·
      omega
     ·
      omega
def fitE (sch : List (List Bd)) (c : Cd) : Int :=
 if cE9 c.s c.k c.a c.f ≠ 0 then cE9 c.s c.k c.a c.f
 else if (sch.length : Int) ≤ c.s then 81
 else if c.k = 3 ∧ ((sch.getD c.s.toNat []).length : Int) ≤ c.f then 80 else 0
theorem tfits_c (sch : List (List Bd)) (As Ac Ak : Option Addr) (ns cs nc cc nk ck : Nat) (lim rnd : Int) (s k a f : Int) (al : Bool) (w : World) (hs : ScSl w As ns sch) (r : Int) (hr : Hid (r = fitE sch ⟨s, k, a, f, al⟩)) :
  Calls prog 65 #[.agg #[.slice As ns cs, .slice Ac nc cc, .slice Ak nk ck, .int .i64 lim, .int .i64 rnd], .agg #[.int .i64 s, .int .i64 k, .int .i64 a, .int .i64 f, .bool al]] w fun e w' => e = .returned (.int .i64 r) ∧ Below w.heap.size w w' := by
 have z := (Blk.mk w 26 #[.slice As ns cs, .slice Ac nc cc, .slice Ak nk ck, .int .i64 lim, .int .i64 rnd]).alloc (.cells #[.int .i64 s, .int .i64 k, .int .i64 a, .int .i64 f, .bool al] 28)
 have y := Blk.mk (w.alloc (.cells #[.slice As ns cs, .slice Ac nc cc, .slice Ak nk ck, .int .i64 lim, .int .i64 rnd] 26)) 28 #[.int .i64 s, .int .i64 k, .int .i64 a, .int .i64 f, .bool al]
 rw [World.size_alloc] at y
 have hb0 := bA (bz1 w (.cells #[.slice As ns cs, .slice Ac nc cc, .slice Ak nk ck, .int .i64 lim, .int .i64 rnd] 26)) (.cells #[.int .i64 s, .int .i64 k, .int .i64 a, .int .i64 f, .bool al] 28)
 have K := hid (ccheck_c s k a f al)
 have hR := hr.out
 unfold fitE at hR
 dsimp only at hR
 have HS := hid hs
 have hns := hs.1
 by_cases h1 : cE9 s k a f = 0
 case neg =>
  rw [if_pos h1] at hR
  rw [← hR] at K h1
  have t : (r != 0) = true := by simpa using h1
  clear hR h1 hs hns
  go_enter func65, ntmps65
  go_wp2_with fail
  refine (K.out _).mono ?_
  rintro e w1 ⟨rfl, hb1⟩
  go_wp2_with fail
  go_ret
  exact ⟨rfl, bT hb0 hb1⟩
 rw [if_neg (by simpa using h1)] at hR
 have ha := code_a s k a f h1
 rw [h1] at K
 rw [← hns] at hR
 clear h1
 by_cases h2 : (ns : Int) ≤ s
 ·
  rw [if_pos h2] at hR
  subst hR
  have u2 : decide ((ns : Int) ≤ s) = true := by simpa using h2
  clear hs hns
  go_enter func65, ntmps65
  go_wp2_with fail
  refine (K.out _).mono ?_
  rintro e w1 ⟨rfl, hb1⟩
  have a0 := (y.t hb1).cell 0
  have t0 := (z.t hb1).cell 0
  go_wp2_with fail
  go_ret
  exact ⟨rfl, bT hb0 hb1⟩
 rw [if_neg h2] at hR
 have u2 : decide ((ns : Int) ≤ s) = false := by simpa using h2
 obtain ⟨i, rfl⟩ := Int.eq_ofNat_of_zero_le (show 0 ≤ s by omega)
 have hi : i < ns := by omega
 rw [Int.toNat_natCast] at hR
 have u22 : decide (ns ≤ i) = false := by simp; omega
 obtain ⟨b, off, rfl, hlt, hat⟩ := hs.2.2 (by omega)
 obtain ⟨A, n, c, c0, hbs⟩ := hat i hi
 rw [← hbs.1] at hR
 have HBS := hid hbs
 have s0 : (0 : Int) ≤ (i : Int) := by omega
 have s1 : (i : Int) < (ns : Int) := by omega
 have s2 : ((i : Int)).toNat = i := by omega
 have o1 : off + i * 1 = off + i := by omega
 rw [o1] at c0
 clear hs hns hat hbs o1
 by_cases h3 : k = 3
 ·
  subst h3
  by_cases h4 : (n : Int) ≤ f
  ·
   rw [if_pos ⟨rfl, h4⟩] at hR
   subst hR
   have u4 : decide ((n : Int) ≤ f) = true := by simpa using h4
   go_enter func65, ntmps65
   go_wp2_with fail
   refine (K.out _).mono ?_
   rintro e w1 ⟨rfl, hb1⟩
   have y1 := y.t hb1
   have a0 := y1.cell 0
   have a1 := y1.cell 1
   have a3 := y1.cell 3
   have t0 := (z.t hb1).cell 0
   have c1 := ((bT hb0 hb1).cell (p := ⟨b, off + i, none⟩) hlt).trans c0
   go_wp2_with fail
   go_quiet (fail)
   go_wp2_with fail
   go_ret
   exact ⟨rfl, bD (bT hb0 hb1) _⟩
  ·
   rw [if_neg (fun h => h4 h.2)] at hR
   subst hR
   have u4 : decide ((n : Int) ≤ f) = false := by simpa using h4
   go_enter func65, ntmps65
   go_wp2_with fail
   refine (K.out _).mono ?_
   rintro e w1 ⟨rfl, hb1⟩
   have y1 := y.t hb1
   have a0 := y1.cell 0
   have a1 := y1.cell 1
   have a3 := y1.cell 3
   have t0 := (z.t hb1).cell 0
   have c1 := ((bT hb0 hb1).cell (p := ⟨b, off + i, none⟩) hlt).trans c0
   go_wp2_with fail
   go_quiet (fail)
   go_wp2_with fail
   go_ret
   exact ⟨rfl, bD (bT hb0 hb1) _⟩
 ·
  rw [if_neg (fun h => h3 h.1)] at hR
  subst hR
  have u3 : (k == 3) = false := by simpa using h3
  go_enter func65, ntmps65
  go_wp2_with fail
  refine (K.out _).mono ?_
  rintro e w1 ⟨rfl, hb1⟩
  have y1 := y.t hb1
  have a0 := y1.cell 0
  have a1 := y1.cell 1
  have t0 := (z.t hb1).cell 0
  go_wp2_with fail
  go_quiet (fail)
  go_wp2_with fail
  go_ret
  exact ⟨rfl, bD (bT hb0 hb1) _⟩
theorem sub_t (x y : Int) (w : World) (hx : mrB x = true) (hy : mrB y = true) (hs : mrB (x - y) = true) :
  Calls prog 92 #[.int .i64 x, .int .i64 y] w fun e w' => e = .returned (.tuple #[.int .i64 (x - y), .int .i64 0]) ∧ Below w.heap.size w w' := by
 have hx' := miz.1 hx
 have hy' := miz.1 hy
 go_enter func92, ntmps92
 go_wp2_with (first | (go_at_call 76; refine (right2 _ _ _ x y _ (by simp) (by simp)).mono ?_; rintro e w' ⟨rfl, rfl⟩) | (go_at_call 137; refine (check_t (x - y) _ hs).mono ?_; rintro e w1 ⟨rfl, hb⟩))
 go_ret2
 exact ⟨rfl, (bz1 _ _).trans (hb.mono (by simp))⟩
theorem sub_f (x y : Int) (w : World) (h : ¬ (mrB x = true ∧ mrB y = true ∧ mrB (x - y) = true)) :
  Calls prog 92 #[.int .i64 x, .int .i64 y] w fun e w' => e = .returned (.tuple #[.int .i64 0, .int .i64 10]) ∧ Below w.heap.size w w' := by
 by_cases hx : (mrB x && mrB y) = true
 ·
  have hx1 : mrB x = true := by simp at hx; exact hx.1
  have hy1 : mrB y = true := by simp at hx; exact hx.2
  have hs : mrB (x - y) = false := by
   cases hh : mrB (x - y) with
   | false => rfl
   | true => exact absurd ⟨hx1, hy1, hh⟩ h
  have hx' := miz.1 hx1
  have hy' := miz.1 hy1
  clear h
  go_enter func92, ntmps92
  go_wp2_with (first | (go_at_call 76; refine (right2 _ _ _ x y _ (by simp) (by simp)).mono ?_; rintro e w' ⟨rfl, rfl⟩) | (go_at_call 137; refine (check_f (x - y) _ hs).mono ?_; rintro e w1 ⟨rfl, hb⟩))
  go_ret2
  exact ⟨rfl, (bz1 _ _).trans (hb.mono (by simp))⟩
 ·
  have hx1 : (mrB x && mrB y) = false := by simpa using hx
  clear h hx
  go_enter func92, ntmps92
  go_wp2_with (go_at_call 76; refine (right2 _ _ _ x y _ (by simp) (by simp)).mono ?_; rintro e w' ⟨rfl, rfl⟩)
  go_ret2
  exact ⟨rfl, bz1 _ _⟩
theorem mul_bd0' {x r A B : Int} (h1 : 0 ≤ x) (h2 : x ≤ A) (h3 : 0 ≤ r) (h4 : r ≤ B) : 0 ≤ x * r ∧ x * r ≤ A * B := by
 refine ⟨Int.mul_nonneg h1 h3, ?_⟩
 have a : x * r ≤ A * r := Int.mul_le_mul_of_nonneg_right h2 h3
 have b : A * r ≤ A * B := Int.mul_le_mul_of_nonneg_left h4 (by omega)
 omega
theorem part_bd (x n d : Int) (h0 : 0 ≤ x) (hn : 0 ≤ n ∧ n ≤ d) (hd : 1 ≤ d) : 0 ≤ x * n / d ∧ x * n / d ≤ x := by
 have h1 : 0 ≤ x * n := Int.mul_nonneg h0 hn.1
 have h2 : x * n ≤ x * d := Int.mul_le_mul_of_nonneg_left hn.2 h0
 refine ⟨Int.ediv_nonneg h1 (by omega), ?_⟩
 have h3 : x * n / d ≤ x * d / d := Int.ediv_le_ediv (by omega) h2
 rwa [Int.mul_ediv_cancel _ (by omega)] at h3
theorem fscale_t (x n d : Int) (w : World) (hx : 0 ≤ x ∧ x ≤ 100000000000) (hn : 0 ≤ n ∧ n ≤ d) (hd : 1 ≤ d ∧ d ≤ 1048576) :
  Calls prog 206 #[.int .i64 x, .int .i64 n, .int .i64 d] w fun e w' => e = .returned (.tuple #[.int .i64 (x * n / d), .int .i64 0]) ∧ Below w.heap.size w w' := by
 have hq := part_bd x n d hx.1 hn hd.1
 have hp : 0 ≤ x * n ∧ x * n ≤ 100000000000 * 1048576 := mul_bd0' hx.1 hx.2 hn.1 (by omega)
 have K := hid (floor_c (x * n) d · (by omega) (by omega) (by omega) (by omega))
 have hm : mrB x = true := mr_t (by omega)
 have hm2 : mrB (x * n / d) = true := mr_t (by omega)
 generalize x * n / d = q at *
 generalize x * n % d = r at *
 have t1 : ¬ n < 0 := by omega
 have t2 : ¬ d ≤ 0 := by omega
 have t3 : ¬ 1048576 < n := by omega
 have t4 : ¬ 1048576 < d := by omega
 have u1 : decide (n < 0) = false := by simpa using t1
 have u2 : decide (d ≤ 0) = false := by simpa using t2
 have u3 : decide (1048576 < n) = false := by simpa using t3
 have u4 : decide (1048576 < d) = false := by simpa using t4
 go_enter func206, ntmps206
 go_wp2_with fail
 refine (r1z _ _ _ x _ (by simp)).mono ?_
 rw [hm]
 rintro e w' ⟨rfl, rfl⟩
 go_wp2_with fail
 refine (K.out _).mono ?_
 rintro e w1 ⟨rfl, hb1⟩
 go_wp2_with fail
 refine (r1z _ _ _ q _ (by simp)).mono ?_
 rw [hm2]
 rintro e w' ⟨rfl, rfl⟩
 go_wp2_with fail
 go_ret2
 exact ⟨rfl, bA (bT (bz1 _ _) hb1) _⟩
def partB (n d : Int) : Bool := decide (0 ≤ n ∧ 1 ≤ d ∧ n ≤ d ∧ d ≤ 1048576)
theorem partB_iff {n d : Int} : partB n d = true ↔ (0 ≤ n ∧ 1 ≤ d ∧ n ≤ d ∧ d ≤ 1048576) := by simp [partB]
def freeI (k a n d : Int) : Int := if k = 2 then -(a * n / d) else a * n / d
theorem cfree_e (s k a f : Int) (al : Bool) (n d : Int) (w : World) (h : cE9 s k a f ≠ 0) : Calls prog 205 #[.agg #[.int .i64 s, .int .i64 k, .int .i64 a, .int .i64 f, .bool al], .int .i64 n, .int .i64 d] w fun e w' => e = .returned (.tuple #[.int .i64 0, .int .i64 (cE9 s k a f)]) ∧ Below w.heap.size w w' := by
 have K := hid (ccheck_c s k a f al)
 have t : (cE9 s k a f != 0) = true := by simpa using h
 generalize cE9 s k a f = r at *
 clear h
 go_enter func205, ntmps205
 go_wp2_with fail
 refine (K.out _).mono ?_
 rintro e w1 ⟨rfl, hb1⟩
 go_wp2_with fail
 go_ret2
 exact ⟨rfl, bT (bz1 _ _) hb1⟩
theorem cfree_r (s k a f : Int) (al : Bool) (n d : Int) (w : World) (h : cE9 s k a f = 0) (hp : partB n d = false) : Calls prog 205 #[.agg #[.int .i64 s, .int .i64 k, .int .i64 a, .int .i64 f, .bool al], .int .i64 n, .int .i64 d] w fun e w' => e = .returned (.tuple #[.int .i64 0, .int .i64 1]) ∧ Below w.heap.size w w' := by
 have K := hid (ccheck_c s k a f al)
 rw [h] at K
 have hp' : ¬ (0 ≤ n ∧ 1 ≤ d ∧ n ≤ d ∧ d ≤ 1048576) := by rw [← partB_iff, hp]; decide
 clear h hp
 by_cases h1 : n < 0
 ·
  have u1 : decide (n < 0) = true := by simpa using h1
  clear hp'
  go_enter func205, ntmps205
  go_wp2_with fail
  refine (K.out _).mono ?_
  rintro e w1 ⟨rfl, hb1⟩
  go_wp2_with fail
  go_ret2
  exact ⟨rfl, bT (bz1 _ _) hb1⟩
 have u1 : decide (n < 0) = false := by simpa using h1
 by_cases h2 : d < 1
 ·
  have u2 : decide (d < 1) = true := by simpa using h2
  clear hp'
  go_enter func205, ntmps205
  go_wp2_with fail
  refine (K.out _).mono ?_
  rintro e w1 ⟨rfl, hb1⟩
  go_wp2_with fail
  go_ret2
  exact ⟨rfl, bT (bz1 _ _) hb1⟩
 have u2 : decide (d < 1) = false := by simpa using h2
 by_cases h3 : d < n
 ·
  have u3 : decide (d < n) = true := by simpa using h3
  clear hp'
  go_enter func205, ntmps205
  go_wp2_with fail
  refine (K.out _).mono ?_
  rintro e w1 ⟨rfl, hb1⟩
  go_wp2_with fail
  go_ret2
  exact ⟨rfl, bT (bz1 _ _) hb1⟩
 have u3 : decide (d < n) = false := by simpa using h3
 have h4 : 1048576 < d := by omega
 have u4 : decide (1048576 < d) = true := by simpa using h4
 clear hp'
 go_enter func205, ntmps205
 go_wp2_with fail
 refine (K.out _).mono ?_
 rintro e w1 ⟨rfl, hb1⟩
 go_wp2_with fail
 go_ret2
 exact ⟨rfl, bT (bz1 _ _) hb1⟩
theorem cfree_t (s k a f : Int) (al : Bool) (n d : Int) (w : World) (h : cE9 s k a f = 0) (hp : partB n d = true) : Calls prog 205 #[.agg #[.int .i64 s, .int .i64 k, .int .i64 a, .int .i64 f, .bool al], .int .i64 n, .int .i64 d] w fun e w' => e = .returned (.tuple #[.int .i64 (freeI k a n d), .int .i64 0]) ∧ Below w.heap.size w w' := by
 have K := hid (ccheck_c s k a f al)
 rw [h] at K
 have ha := code_a s k a f h
 have hp' := partB_iff.1 hp
 have K2 := hid (fscale_t a n d · (by omega) (by omega) (by omega))
 have hq := part_bd a n d ha.1 (by omega) (by omega)
 obtain ⟨q, hqq⟩ : ∃ q, q = a * n / d := ⟨_, rfl⟩
 have HF : Hid (freeI k a n d = if k = 2 then -q else q) := by unfold Hid freeI; rw [hqq]
 rw [← hqq] at K2 hq
 have u1 : decide (n < 0) = false := by simp; omega
 have u2 : decide (d < 1) = false := by simp; omega
 have u3 : decide (d < n) = false := by simp; omega
 have u4 : decide (1048576 < d) = false := by simp; omega
 have z := Blk.mk w 28 #[.int .i64 s, .int .i64 k, .int .i64 a, .int .i64 f, .bool al]
 have hb0 := bz1 w (.cells #[.int .i64 s, .int .i64 k, .int .i64 a, .int .i64 f, .bool al] 28)
 have t1 : ¬ n < 0 := by omega
 have t2 : ¬ d < 1 := by omega
 have t3 : ¬ d < n := by omega
 have t4 : ¬ 1048576 < d := by omega
 clear hqq h hp hp'
 by_cases h2 : k = 2
 ·
  subst h2
  rw [if_pos rfl] at HF
  go_enter func205, ntmps205
  go_wp2_with fail
  refine (K.out _).mono ?_
  rintro e w1 ⟨rfl, hb1⟩
  have z1 := z.t hb1
  have a2 := z1.cell 2
  go_wp2_with fail
  refine (K2.out _).mono ?_
  rintro e w2 ⟨rfl, hb2⟩
  have a1 := (z1.t hb2).cell 1
  go_wp2_with fail
  go_ret2
  exact ⟨ret2_int HF.out.symm rfl, bT (bT hb0 hb1) hb2⟩
 ·
  rw [if_neg h2] at HF
  have u5 : (k == 2) = false := by simpa using h2
  clear h2
  go_enter func205, ntmps205
  go_wp2_with fail
  refine (K.out _).mono ?_
  rintro e w1 ⟨rfl, hb1⟩
  have z1 := z.t hb1
  have a2 := z1.cell 2
  go_wp2_with fail
  refine (K2.out _).mono ?_
  rintro e w2 ⟨rfl, hb2⟩
  have a1 := (z1.t hb2).cell 1
  go_wp2_with fail
  go_ret2
  exact ⟨ret2_int HF.out.symm rfl, bT (bT hb0 hb1) hb2⟩
def kdX (l : List Kd) (nm : ByteArray) : Kd := (l.find? fun x => decide (x.nm = nm)).getD kd0
def kdE (l : List Kd) (nm : ByteArray) : Int := if l.any (fun x => decide (x.nm = nm)) = true then 0 else 110
theorem kd_at {l : List Kd} {nm : ByteArray} {k : Nat} (hk : k < l.length) (h1 : (l.getD k kd0).nm = nm) (h2 : ∀ j, j < k → (l.getD j kd0).nm ≠ nm) : kdX l nm = l.getD k kd0 ∧ kdE l nm = 0 := by
 unfold kdX kdE
 constructor
 ·
  induction l generalizing k with
  | nil => simp at hk
  | cons x l ih =>
   cases k with
   | zero =>
    have : x.nm = nm := h1
    simp [this]
   | succ k =>
    have h0 : x.nm ≠ nm := h2 0 (by omega)
    have := ih (k := k) (by simpa using hk) (by simpa using h1) (fun j hj => by simpa using h2 (j + 1) (by omega))
    simp only [List.find?_cons, decide_eq_false h0]
    simpa using this
 ·
  rw [if_pos]
  rw [List.any_eq_true]
  refine ⟨l[k], List.getElem_mem hk, ?_⟩
  have e : l.getD k kd0 = l[k] := by simp [List.getD, List.getElem?_eq_getElem hk]
  rw [e] at h1
  simpa using h1
theorem kd_no {l : List Kd} {nm : ByteArray} (h : ∀ j, j < l.length → (l.getD j kd0).nm ≠ nm) : kdX l nm = kd0 ∧ kdE l nm = 110 := by
 have h' : ∀ x ∈ l, x.nm ≠ nm := fun x hx => by
  obtain ⟨j, hj, rfl⟩ := List.getElem_of_mem hx
  have := h j hj
  rwa [show l.getD j kd0 = l[j] by simp [List.getD, List.getElem?_eq_getElem hj]] at this
 unfold kdX kdE
 constructor
 ·
  rw [List.find?_eq_none.2 (fun x hx => by simpa using h' x hx)]; rfl
 ·
  rw [if_neg]
  rw [List.any_eq_true]
  rintro ⟨x, hx, e⟩
  exact h' x hx (by simpa using e)
theorem str_neqk {a b : ByteArray} (h : a ≠ b) : (a.toList == b.toList) = false := by
 rw [beq_eq_false_iff_ne]
 intro e
 rw [ByteArray.toList_eq, ByteArray.toList_eq] at e
 apply h
 cases a; cases b
 simp at e
 rw [e]
theorem Blk.a4f {w : World} {g : Nat} {t : TypeId} {a b c d : Value} (h : Blk w g t #[a, b, c, d]) : (w.cell? ⟨g, 0, none⟩ = some a ∧ w.cell? ⟨g, 1, none⟩ = some b ∧ w.cell? ⟨g, 2, none⟩ = some c ∧ w.cell? ⟨g, 3, none⟩ = some d) ∧
  w.frozen? ⟨g, 0, none⟩ = false ∧ w.frozen? ⟨g, 1, none⟩ = false ∧ w.frozen? ⟨g, 2, none⟩ = false ∧ w.frozen? ⟨g, 3, none⟩ = false :=
 ⟨⟨h.cell 0, h.cell 1, h.cell 2, h.cell 3⟩, h.free 0, h.free 1, h.free 2, h.free 3⟩
theorem kind_c (kds : List Kd) (As Ac Ak : Option Addr) (ns cs nc cc nk ck : Nat) (lim rnd : Int) (nm : ByteArray) (w : World) (hs : KdSl w Ak nk kds) (rx : Kd) (re : Int) (hx : Hid (rx = kdX kds nm)) (he : Hid (re = kdE kds nm)) :
  Calls prog 121 #[.agg #[.slice As ns cs, .slice Ac nc cc, .slice Ak nk ck, .int .i64 lim, .int .i64 rnd], .string nm] w fun e w' => e = .returned (.tuple #[.agg #[.string rx.nm, .int .i64 rx.c, .int .i64 rx.t, .int .i64 rx.s], .int .i64 re]) ∧ Below w.heap.size w w' := by
 have hb0 := bA (bz1 w (.cells #[.slice As ns cs, .slice Ac nc cc, .slice Ak nk ck, .int .i64 lim, .int .i64 rnd] 26)) (.cells #[.string ⟨#[]⟩, .int .i64 0, .int .i64 0, .int .i64 0] 148)
 have y := (Blk.mk w 26 #[.slice As ns cs, .slice Ac nc cc, .slice Ak nk ck, .int .i64 lim, .int .i64 rnd]).alloc (.cells #[.string ⟨#[]⟩, .int .i64 0, .int .i64 0, .int .i64 0] 148)
 have z := Blk.mk (w.alloc (.cells #[.slice As ns cs, .slice Ac nc cc, .slice Ak nk ck, .int .i64 lim, .int .i64 rnd] 26)) 148 #[.string ⟨#[]⟩, .int .i64 0, .int .i64 0, .int .i64 0]
 have HS := hid (KdSl.below hs hb0)
 have hn9 := hs.2.1
 have HN : Hid (nk = kds.length) := hs.1
 have q2 := y.cell 2
 have HZ : Hid (∀ W, Below ((w.alloc (.cells #[.slice As ns cs, .slice Ac nc cc, .slice Ak nk ck, .int .i64 lim, .int .i64 rnd] 26)).alloc (.cells #[.string ⟨#[]⟩, .int .i64 0, .int .i64 0, .int .i64 0] 148)).heap.size ((w.alloc (.cells #[.slice As ns cs, .slice Ac nc cc, .slice Ak nk ck, .int .i64 lim, .int .i64 rnd] 26)).alloc (.cells #[.string ⟨#[]⟩, .int .i64 0, .int .i64 0, .int .i64 0] 148)) W → Blk W (w.heap.size + 1) 148 #[.string ⟨#[]⟩, .int .i64 0, .int .i64 0, .int .i64 0]) := fun W h => by
  have := z.t h
  simpa using this
 clear hs
 go_enter func121, ntmps121
 go_wp2_with fail
 clear q2
 go_loopw [11] (fun i wr => ∃ k : Nat, k ≤ nk ∧ i = .int .i64 k ∧ Hid (∀ j, j < k → (kds.getD j kd0).nm ≠ nm) ∧ Below ((w.alloc (.cells #[.slice As ns cs, .slice Ac nc cc, .slice Ak nk ck, .int .i64 lim, .int .i64 rnd] 26)).alloc (.cells #[.string ⟨#[]⟩, .int .i64 0, .int .i64 0, .int .i64 0] 148)).heap.size ((w.alloc (.cells #[.slice As ns cs, .slice Ac nc cc, .slice Ak nk ck, .int .i64 lim, .int .i64 rnd] 26)).alloc (.cells #[.string ⟨#[]⟩, .int .i64 0, .int .i64 0, .int .i64 0] 148)) wr) (fun i _ => nk - (intOf i).toNat)
 case atStart => exact ⟨0, Nat.zero_le _, rfl, fun j hj => absurd hj (by omega), b0 _⟩
 case round =>
  obtain ⟨k, hk', rfl, HA, hbl⟩ := hrel
  have hBl := bT hb0 hbl
  have hsz := hBl.size
  have z1 := HZ.out wr hbl
  have hzl := z1.lt
  have hzne : w.heap.size + 1 ≠ wr.heap.size := Nat.ne_of_lt hzl
  by_cases hk : k < nk
  case neg =>
   obtain rfl : k = nk := by omega
   obtain ⟨e1, e2⟩ := kd_no (l := kds) (nm := nm) (by rw [← HN.out]; exact HA.out)
   obtain rfl : rx = kd0 := hx.out.trans e1
   obtain rfl : re = 110 := he.out.trans e2
   obtain ⟨⟨p0, p1, p2, p3⟩, f0, f1, f2, f3⟩ := z1.a4f
   clear e1 e2 hx he
   go_wp2_with fail
   refine bodyPost_ret (v := .tuple #[.agg #[.string ⟨#[]⟩, .int .i64 0, .int .i64 0, .int .i64 0], .int .i64 110]) (by simp [results, results121, go_sem, p0, p1, p2, p3]) rfl ⟨rfl, ?_⟩
   exact bS (bS (bS (bS hBl (Nat.le_succ _) _) (Nat.le_succ _) _) (Nat.le_succ _) _) (Nat.le_succ _) _
  obtain ⟨b, off, rfl, hlt, hat⟩ := (HS.out.below hbl).2.2 (by omega)
  obtain ⟨c0, _, c1, c2, c3⟩ := hat k hk
  have HKX : Hid ((kds.getD k kd0).nm = nm → rx = kds.getD k kd0 ∧ re = 0) := fun h => by
   obtain ⟨e1, e2⟩ := kd_at (by rw [← HN.out]; exact hk) h HA.out
   exact ⟨hx.out.trans e1, he.out.trans e2⟩
  have HA2 : Hid ((kds.getD k kd0).nm ≠ nm → ∀ j, j < k + 1 → (kds.getD j kd0).nm ≠ nm) := fun h j hj => by
   rcases (by omega : j = k ∨ j < k) with rfl | hj
   ·
    exact h
   ·
    exact HA.out j hj
  generalize kds.getD k kd0 = x at *
  obtain ⟨xn, xc, xt, xs⟩ := x
  dsimp only at c0 c1 c2 c3
  have hbx := bA hbl (.cells #[.string xn, .int .i64 xc, .int .i64 xt, .int .i64 xs] 148)
  have x1 := Blk.mk wr 148 #[.string xn, .int .i64 xc, .int .i64 xt, .int .i64 xs]
  have z2 := z1.alloc (.cells #[.string xn, .int .i64 xc, .int .i64 xt, .int .i64 xs] 148)
  clear hat
  by_cases hy : xn = nm
  ·
   obtain ⟨rfl, rfl⟩ := HKX.out hy
   have v1 : (xn.toList == nm.toList) = true := by rw [hy]; simp
   obtain ⟨⟨p0, p1, p2, p3⟩, f0, f1, f2, f3⟩ := z1.a4f
   clear hy hx he HKX HA2
   go_wp2_with fail
   refine bodyPost_ret (v := .tuple #[.agg #[.string xn, .int .i64 xc, .int .i64 xt, .int .i64 xs], .int .i64 0]) (by simp [results, results121, go_sem, ca9, p0, p1, p2, p3, hzne]) rfl ⟨rfl, ?_⟩
   exact bA (bS (bS (bS (bS hBl (Nat.le_succ _) _) (Nat.le_succ _) _) (Nat.le_succ _) _) (Nat.le_succ _) _) _
  ·
   have v1 := str_neqk hy
   have HA3 := hid (HA2.out hy)
   clear hy HKX HA2
   go_wp2_with fail
   go_roundw
   case rel => exact ⟨k + 1, by omega, by go_num, HA3.out, hbx⟩
   case measure => simp [intOf]; omega
theorem Blk.all4 {w : World} {g : Nat} {t : TypeId} {a b c d : Value} (h : Blk w g t #[a, b, c, d]) : w.cell? ⟨g, 0, none⟩ = some a ∧ w.cell? ⟨g, 1, none⟩ = some b ∧ w.cell? ⟨g, 2, none⟩ = some c ∧ w.cell? ⟨g, 3, none⟩ = some d :=
 ⟨h.cell 0, h.cell 1, h.cell 2, h.cell 3⟩
theorem sign_c (n : Int) (w : World) : Calls Tryz.prog 192 #[.int .i64 n] w fun e w' => e = .returned (.bool (decide (-1 ≤ n ∧ n ≤ 1))) ∧ w = w' := by
 by_cases h1 : -1 ≤ n
 ·
  by_cases h2 : n ≤ 1
  ·
   go_enter Tryz.func192, Tryz.ntmps192
   go_wp2
   go_ret
   exact ⟨rb9 (by simp; omega), rfl⟩
  ·
   go_enter Tryz.func192, Tryz.ntmps192
   go_wp2
   go_ret
   exact ⟨rb9 (by simp; omega), rfl⟩
 ·
  go_enter Tryz.func192, Tryz.ntmps192
  go_wp2
  go_ret
  exact ⟨rb9 (by simp; omega), rfl⟩
structure ScOK (x : List Bd) : Prop where
 bands : bE9 x = 0
 e : ∀ i, i < x.length → (x.getD i bd0).e = 0
structure TbOK (sch : List (List Bd)) (cts : List Ct) (kds : List Kd) (lim rnd : Int) : Prop where
 lim : rateB lim = true
 rnd : modeB rnd = true
 sn : 1 ≤ sch.length
 sch : ∀ k, k < sch.length → ScOK (sch.getD k [])
 cts : ∀ k, k < cts.length → CtOK (cts.getD k ct0)
 kds : ∀ k, k < kds.length → KdOK (kds.getD k kd0)
theorem sB5 {w W W1 : World} {B : Nat} {v0 v1 v2 v3 v4 : Value} (hB : B = w.heap.size)
  (h : W.cell? ⟨B, 0, none⟩ = some v0 ∧ W.cell? ⟨B, 1, none⟩ = some v1 ∧ W.cell? ⟨B, 2, none⟩ = some v2 ∧ W.cell? ⟨B, 3, none⟩ = some v3 ∧ W.cell? ⟨B, 4, none⟩ = some v4 ∧ w.heap.size < W.heap.size ∧ Below w.heap.size w W) (hb : Below W.heap.size W W1) :
  W1.cell? ⟨B, 0, none⟩ = some v0 ∧ W1.cell? ⟨B, 1, none⟩ = some v1 ∧ W1.cell? ⟨B, 2, none⟩ = some v2 ∧ W1.cell? ⟨B, 3, none⟩ = some v3 ∧ W1.cell? ⟨B, 4, none⟩ = some v4 ∧ w.heap.size < W1.heap.size ∧ Below w.heap.size w W1 := by
 obtain ⟨h0, h1, h2, h3, h4, h5, h6⟩ := h
 have hlt : B < W.heap.size := by omega
 have e : ∀ o, W1.cell? ⟨B, o, none⟩ = W.cell? ⟨B, o, none⟩ := fun o => hb.cell (p := ⟨B, o, none⟩) hlt
 exact ⟨(e _).trans h0, (e _).trans h1, (e _).trans h2, (e _).trans h3, (e _).trans h4, Nat.lt_of_lt_of_le h5 hb.size, h6.trans (hb.mono h6.size)⟩
def chargeE (c : Cd) (tx n d : Int) : Int :=
 if cE9 c.s c.k c.a c.f ≠ 0 then cE9 c.s c.k c.a c.f
 else if partB n d = false then 1
 else if c.k = 4 then (if mrB tx = true then 0 else 10)
 else if mrB tx = true ∧ mrB (tx - freeI c.k c.a n d) = true then 0 else 10
def chargeV (c : Cd) (tx n d : Int) : Int := if c.k = 4 then 0 else max 0 (tx - freeI c.k c.a n d)
theorem free_bd (c : Cd) (n d : Int) (h : cE9 c.s c.k c.a c.f = 0) (hp : partB n d = true) : -999999000 ≤ freeI c.k c.a n d ∧ freeI c.k c.a n d ≤ 999999000 := by
 have ha := code_a c.s c.k c.a c.f h
 have hp' := partB_iff.1 hp
 have hq := part_bd c.a n d ha.1 (by omega) (by omega)
 unfold freeI
 split <;> omega
theorem charge_e (s k a f : Int) (al : Bool) (tx n d : Int) (w : World) (r : Int) (hr : Hid (r = chargeE ⟨s, k, a, f, al⟩ tx n d)) (h0 : r ≠ 0) :
  Calls prog 195 #[.agg #[.int .i64 s, .int .i64 k, .int .i64 a, .int .i64 f, .bool al], .int .i64 tx, .int .i64 n, .int .i64 d] w fun e w' => e = .returned (.tuple #[.int .i64 0, .int .i64 r]) ∧ Below w.heap.size w w' := by
 have z := Blk.mk w 28 #[.int .i64 s, .int .i64 k, .int .i64 a, .int .i64 f, .bool al]
 have hb0 := bz1 w (.cells #[.int .i64 s, .int .i64 k, .int .i64 a, .int .i64 f, .bool al] 28)
 have hR := hr.out
 unfold chargeE at hR
 dsimp only at hR
 by_cases h1 : cE9 s k a f = 0
 case neg =>
  rw [if_pos h1] at hR
  have K := hid (cfree_e s k a f al n d · h1)
  rw [← hR] at K
  have t : (r != 0) = true := by simpa using h0
  clear hR h0 h1
  go_enter func195, ntmps195
  go_wp2_with fail
  refine (K.out _).mono ?_
  rintro e w1 ⟨rfl, hb1⟩
  go_wp2_with fail
  go_ret2
  exact ⟨rfl, bT hb0 hb1⟩
 rw [if_neg (by simpa using h1)] at hR
 cases hp : partB n d
 ·
  rw [if_pos hp] at hR
  have K := hid (cfree_r s k a f al n d · h1 hp)
  subst hR
  clear h1 hp h0
  go_enter func195, ntmps195
  go_wp2_with fail
  refine (K.out _).mono ?_
  rintro e w1 ⟨rfl, hb1⟩
  go_wp2_with fail
  go_ret2
  exact ⟨rfl, bT hb0 hb1⟩
 rw [if_neg (by rw [hp]; decide)] at hR
 have hfb := free_bd ⟨s, k, a, f, al⟩ n d h1 hp
 dsimp only at hfb
 have K := hid (cfree_t s k a f al n d · h1 hp)
 generalize freeI k a n d = fr at *
 clear h1 hp
 by_cases h4 : k = 4
 ·
  rw [if_pos h4] at hR
  subst h4
  cases ht : mrB tx
  ·
   rw [if_neg (by rw [ht]; decide)] at hR
   subst hR
   go_enter func195, ntmps195
   go_wp2_with fail
   refine (K.out _).mono ?_
   rintro e w1 ⟨rfl, hb1⟩
   have a1 := (z.t hb1).cell 1
   go_wp2_with fail
   refine (r1z _ _ _ tx _ (by simp)).mono ?_
   rw [ht]
   rintro e w' ⟨rfl, rfl⟩
   go_wp2_with fail
   go_ret2
   exact ⟨rfl, bA (bT hb0 hb1) _⟩
  ·
   rw [if_pos ht] at hR
   exact absurd hR h0
 ·
  rw [if_neg h4] at hR
  have u4 : (k == 4) = false := by simpa using h4
  by_cases hs : mrB tx = true ∧ mrB (tx - fr) = true
  ·
   rw [if_pos hs] at hR
   exact absurd hR h0
  ·
   rw [if_neg hs] at hR
   subst hR
   have K2 := hid (sub_f tx fr · (fun h => hs ⟨h.1, h.2.2⟩))
   clear hs h4
   go_enter func195, ntmps195
   go_wp2_with fail
   refine (K.out _).mono ?_
   rintro e w1 ⟨rfl, hb1⟩
   have a1 := (z.t hb1).cell 1
   go_wp2_with fail
   refine (K2.out _).mono ?_
   rintro e w2 ⟨rfl, hb2⟩
   go_wp2_with fail
   go_ret2
   exact ⟨rfl, bT (bT hb0 hb1) hb2⟩
theorem charge_t (s k a f : Int) (al : Bool) (tx n d : Int) (w : World) (hr : chargeE ⟨s, k, a, f, al⟩ tx n d = 0) :
  Calls prog 195 #[.agg #[.int .i64 s, .int .i64 k, .int .i64 a, .int .i64 f, .bool al], .int .i64 tx, .int .i64 n, .int .i64 d] w fun e w' => e = .returned (.tuple #[.int .i64 (chargeV ⟨s, k, a, f, al⟩ tx n d), .int .i64 0]) ∧ Below w.heap.size w w' := by
 have z := Blk.mk w 28 #[.int .i64 s, .int .i64 k, .int .i64 a, .int .i64 f, .bool al]
 have hb0 := bz1 w (.cells #[.int .i64 s, .int .i64 k, .int .i64 a, .int .i64 f, .bool al] 28)
 have hR := hr
 unfold chargeE at hR
 dsimp only at hR
 by_cases h1 : cE9 s k a f = 0
 case neg =>
  rw [if_pos h1] at hR
  exact absurd hR h1
 rw [if_neg (by simpa using h1)] at hR
 cases hp : partB n d
 ·
  rw [if_pos hp] at hR
  cases hR
 rw [if_neg (by rw [hp]; decide)] at hR
 have hfb := free_bd ⟨s, k, a, f, al⟩ n d h1 hp
 dsimp only at hfb
 have K := hid (cfree_t s k a f al n d · h1 hp)
 have HV : Hid (chargeV ⟨s, k, a, f, al⟩ tx n d = if k = 4 then 0 else max 0 (tx - freeI k a n d)) := rfl
 generalize chargeV ⟨s, k, a, f, al⟩ tx n d = cv at *
 generalize freeI k a n d = fr at *
 clear h1 hp hr
 by_cases h4 : k = 4
 ·
  rw [if_pos h4] at hR HV
  subst h4
  cases ht : mrB tx
  ·
   rw [if_neg (by rw [ht]; decide)] at hR
   cases hR
  ·
   go_enter func195, ntmps195
   go_wp2_with fail
   refine (K.out _).mono ?_
   rintro e w1 ⟨rfl, hb1⟩
   have a1 := (z.t hb1).cell 1
   go_wp2_with fail
   refine (r1z _ _ _ tx _ (by simp)).mono ?_
   rw [ht]
   rintro e w' ⟨rfl, rfl⟩
   go_wp2_with fail
   go_ret2
   exact ⟨ret2_int HV.out.symm rfl, bA (bT hb0 hb1) _⟩
 ·
  rw [if_neg h4] at hR HV
  have u4 : (k == 4) = false := by simpa using h4
  by_cases hs : mrB tx = true ∧ mrB (tx - fr) = true
  case neg =>
   rw [if_neg hs] at hR
   cases hR
  have K2 := hid (sub_t tx fr · hs.1 (mr_t (by omega)) hs.2)
  clear hs h4 hR
  go_enter func195, ntmps195
  go_wp2_with fail
  refine (K.out _).mono ?_
  rintro e w1 ⟨rfl, hb1⟩
  have a1 := (z.t hb1).cell 1
  go_wp2_with fail
  refine (K2.out _).mono ?_
  rintro e w2 ⟨rfl, hb2⟩
  go_wp2_with fail
  go_ret2
  exact ⟨ret2_int HV.out.symm rfl, bT (bT hb0 hb1) hb2⟩
def bdC (b : Bd) : List Value := [.int .i64 b.f, .int .i64 b.r, .int .i64 b.e]
def OwnB (w : World) (base : Nat) (v : Value) (n : Nat) (l : List Bd) : Prop := n = l.length ∧ w.ownsRow base 145 3 v n (l.flatMap bdC)
theorem bdC_len (x : Bd) : (bdC x).length = 3 := rfl
theorem OwnB.sl {w : World} {base : Nat} {v : Value} {n : Nat} {l : List Bd} (h : OwnB w base v n l) : ∃ A c, v = .slice A n c ∧ n ≤ c ∧ Blz w A n l := by
 obtain ⟨hn, h⟩ := h
 obtain ⟨A, c, rfl, hc, h1, h2, h3⟩ := own_sl bdC 3 bd0 bdC_len h hn (by decide)
 refine ⟨A, c, rfl, hc, h1, h2, fun h0 => ?_⟩
 obtain ⟨b, off, hA, hlt, hat⟩ := h3 h0
 refine ⟨b, off, hA, hlt, fun k hk => ⟨?_, ?_, ?_⟩⟩
 ·
  exact hat k (by omega) 0 _ rfl
 ·
  exact hat k (by omega) 1 _ rfl
 ·
  exact hat k (by omega) 2 _ rfl
theorem info_band : (Tryz.prog.info? 145).map (fun i => (i.zero, i.size, i.bytes)) = some (some (.agg #[.int .i64 0, .int .i64 0, .int .i64 0]), 3, 24) := by kernel_rfl
theorem own_cut {w : World} {base size n cap g : Nat} {e : TypeId} {xs : List Value} (h : w.ownsRow base e size (.slice (some ⟨g, 0, none⟩) n cap) n xs) (m : Nat) (hm : m ≤ n) : w.ownsRow base e size (.slice (some ⟨g, 0, none⟩) m cap) m (xs.take (m * size)) := by
 obtain ⟨hl, h2⟩ := h
 rcases h2 with ⟨h', _⟩ | ⟨g', cap', cur, h', hb, hg, hnc, hcm, hcs, htake⟩
 ·
  simp at h'
 ·
  simp only [Value.slice.injEq, Option.some.injEq, Addr.mk.injEq, and_true, true_and] at h'
  obtain ⟨rfl, rfl⟩ := h'
  have hle : m * size ≤ n * size := Nat.mul_le_mul_right _ hm
  refine ⟨by rw [List.length_take]; omega, Or.inr ⟨g, cap, cur, rfl, hb, hg, by omega, hcm, hcs, ?_⟩⟩
  rw [← htake, List.take_take, Nat.min_eq_left hle]
def fr (l : List Bd) (n d : Int) (k : Nat) : Int := (l.getD k bd0).f * n / d
def lastB (L : List Bd) : Bd := L.getD (L.length - 1) bd0
def dropIf (L : List Bd) (x : Int) : List Bd := if 0 < L.length ∧ (lastB L).f = x then L.take (L.length - 1) else L
def sc9 (l : List Bd) (n d : Int) : Nat → List Bd
 | 0 => []
 | k + 1 => dropIf (sc9 l n d k) (fr l n d k) ++ [⟨fr l n d k, (l.getD k bd0).r, (l.getD k bd0).e⟩]
theorem lastB_snoc (L : List Bd) (x : Bd) : lastB (L ++ [x]) = x := by simp [lastB, List.getD]
theorem scale_last (l : List Bd) (n d : Int) (k : Nat) : lastB (sc9 l n d (k + 1)) = ⟨fr l n d k, (l.getD k bd0).r, (l.getD k bd0).e⟩ := by
 rw [sc9, lastB_snoc]
theorem scale_ne (l : List Bd) (n d : Int) (k : Nat) (hk : 0 < k) : 0 < (sc9 l n d k).length := by
 obtain ⟨j, rfl⟩ : ∃ j, k = j + 1 := ⟨k - 1, by omega⟩
 rw [sc9]; simp
theorem scale_len (l : List Bd) (n d : Int) (k : Nat) : (sc9 l n d k).length ≤ k := by
 induction k with
 | zero => simp [sc9]
 | succ k ih =>
  rw [sc9, dropIf]
  split <;> simp <;> omega
theorem flatMap_take (L : List Bd) (m : Nat) : (L.flatMap bdC).take (m * 3) = (L.take m).flatMap bdC := by
 induction L generalizing m with
 | nil => simp
 | cons x L ih =>
  cases m with
  | zero => simp
  | succ m =>
   rw [List.flatMap_cons, List.take_succ_cons, List.flatMap_cons, ← ih m, Nat.succ_mul, show m * 3 + 3 = m * 3 + 1 + 1 + 1 by omega]
   simp [bdC]
theorem bdC_get (l : List Bd) (j : Nat) (hj : j < l.length) : (l.flatMap bdC)[j * 3]? = some (.int .i64 (l.getD j bd0).f) := by
 induction l generalizing j with
 | nil => simp at hj
 | cons y l ih =>
  cases j with
  | zero => simp [bdC]
  | succ j =>
   have := ih j (by simpa using hj)
   rw [List.flatMap_cons, show (j + 1) * 3 = j * 3 + 1 + 1 + 1 by omega]
   simpa [bdC] using this
def ScaleR (L : List Bd) (w : World) (e : Ending) (w' : World) : Prop := (∃ v m, e = .returned (.tuple #[v, .int .i64 0]) ∧ OwnB w' w.heap.size v m L) ∧ Below w.heap.size w w'
theorem bscale_c (l : List Bd) (A : Option Addr) (nb c : Nat) (n d : Int) (w : World) (h : Blz w A nb l) (hl : bE9 l = 0) (hp : partB n d = true) :
  Calls prog 196 #[.int .i64 n, .int .i64 d, .slice A nb c] w (ScaleR (sc9 l n d nb) w) := by
 have g := goodB l hl
 have hp' := partB_iff.1 hp
 have g8 : nb ≤ 8 := by have := h.1; have := g.hi; omega
 have HB := hid h
 have HG := hid g
 have KC := hid (bcheck_c l A nb c w h 0 hl.symm)
 have t1 : ¬ n < 0 := by omega
 have t2 : ¬ d < 1 := by omega
 have t3 : ¬ d < n := by omega
 have t4 : ¬ 1048576 < d := by omega
 have u1 : decide (n < 0) = false := by simpa using t1
 have u2 : decide (d < 1) = false := by simpa using t2
 have u3 : decide (d < n) = false := by simpa using t3
 have u4 : decide (1048576 < d) = false := by simpa using t4
 clear h hl g hp
 go_enter func196, ntmps196
 go_wp2_with fail
 refine KC.out.mono ?_
 rintro e w1 ⟨rfl, hb1⟩
 go_wp2_with fail
 go_loopw [9, 37] (fun v i wr => ∃ (k m : Nat), k ≤ nb ∧ m ≤ k ∧ i = .int .i64 k ∧ OwnB wr w.heap.size v m (sc9 l n d k) ∧ Below w.heap.size w wr) (fun _ i _ => nb - (intOf i).toNat)
 case atStart => exact ⟨0, 0, Nat.zero_le _, Nat.le_refl _, rfl, ⟨rfl, World.ownsRow_nil _ _ _ _⟩, hb1⟩
 case round =>
  obtain ⟨k, m, hk', hm, rfl, ⟨ho1, ho⟩, hbl⟩ := hrel
  have HO1 := hid ho1
  clear ho1
  obtain ⟨Av, cv, rfl⟩ := oL9 ho
  by_cases hk : k < nb
  case neg =>
   obtain rfl : k = nb := by omega
   go_wp2_with fail
   go_ret2
   exact ⟨⟨_, _, rfl, HO1.out, ho⟩, hbl⟩
  obtain ⟨b, off, rfl, hlt, hat⟩ := (HB.out.below hbl).2.2 (by omega)
  obtain ⟨c0, c1, c2⟩ := hat k (by rw [← HB.out.1]; exact hk)
  have hf := HG.out.f k (by rw [← HB.out.1]; exact hk)
  have KS := hid (fscale_t (l.getD k bd0).f n d · hf (by omega) (by omega))
  have hF : (l.getD k bd0).f * n / d = fr l n d k := rfl
  rw [hF] at KS
  have HN : Hid (sc9 l n d (k + 1) = dropIf (sc9 l n d k) (fr l n d k) ++ [⟨fr l n d k, (l.getD k bd0).r, (l.getD k bd0).e⟩]) := rfl
  have HAT := hid hat
  clear hat hF hf
  generalize fr l n d k = x at *
  generalize (l.getD k bd0).f = bf at *
  generalize (l.getD k bd0).r = br at *
  generalize (l.getD k bd0).e = be at *
  have bx := Blk.mk wr 145 #[.int .i64 bf, .int .i64 br, .int .i64 be]
  have hb2 := bA hbl (.cells #[.int .i64 bf, .int .i64 br, .int .i64 be] 145)
  have HO := hid (ho.alloc (.cells #[.int .i64 bf, .int .i64 br, .int .i64 be] 145))
  have a0 := bx.cell 0
  have hsz := hbl.size
  have hlto := hid ho.lt
  clear ho
  go_wp2_with fail
  refine (KS.out _).mono ?_
  rintro e w2 ⟨rfl, hb3⟩
  have hb4 := bT hb2 hb3
  have bx2 := bx.t hb3
  have hwr : wr.heap.size < w2.heap.size := by have := hb3.size; simp at this; omega
  have HO2 := oB9 HO.out hb3
  obtain ⟨x0, x1, x2, y0, y1, y2⟩ : w2.cell? ⟨wr.heap.size, 0, none⟩ = some (.int .i64 bf) ∧ w2.cell? ⟨wr.heap.size, 1, none⟩ = some (.int .i64 br) ∧ w2.cell? ⟨wr.heap.size, 2, none⟩ = some (.int .i64 be) ∧ w2.frozen? ⟨wr.heap.size, 0, none⟩ = false ∧ w2.frozen? ⟨wr.heap.size, 1, none⟩ = false ∧ w2.frozen? ⟨wr.heap.size, 2, none⟩ = false := ⟨bx2.cell 0, bx2.cell 1, bx2.cell 2, bx2.free 0, bx2.free 1, bx2.free 2⟩
  have bx3 : Blk (w2.setCell ⟨wr.heap.size, 0, none⟩ (.int .i64 x)) wr.heap.size 145 #[.int .i64 x, .int .i64 br, .int .i64 be] := heap_setCell_same w2 wr.heap.size 0 _ _ (.int .i64 x) bx2
  obtain ⟨z0, z1, z2⟩ : (w2.setCell ⟨wr.heap.size, 0, none⟩ (.int .i64 x)).cell? ⟨wr.heap.size, 0, none⟩ = some (.int .i64 x) ∧ (w2.setCell ⟨wr.heap.size, 0, none⟩ (.int .i64 x)).cell? ⟨wr.heap.size, 1, none⟩ = some (.int .i64 br) ∧ (w2.setCell ⟨wr.heap.size, 0, none⟩ (.int .i64 x)).cell? ⟨wr.heap.size, 2, none⟩ = some (.int .i64 be) := ⟨bx3.cell 0, bx3.cell 1, bx3.cell 2⟩
  have hb5 := bS hb4 (p := ⟨wr.heap.size, 0, none⟩) hsz (.int .i64 x)
  have hgw : w2.grownBy (w2.setCell ⟨wr.heap.size, 0, none⟩ (.int .i64 x)) (some wr.heap.size) := ⟨rfl, rfl, rfl, by simp, fun k _ hk => heap_setCell_other w2 ⟨wr.heap.size, 0, none⟩ k _ (fun e => hk (by simp [e]))⟩
  have HGW := hid hgw
  clear hgw
  by_cases hm0 : m = 0
  ·
   have hz : decide ((0 : Int) < (m : Int)) = false := by simp; omega
   have hD : Hid (dropIf (sc9 l n d k) x = sc9 l n d k) := by
    unfold Hid dropIf
    rw [if_neg (by rw [← HO1.out, hm0]; simp)]
   have HO3 := hid (HO2.kept HGW.out (by
    right
    intro h
    have := (hlto.out _ h).2
    omega))
   have hz2 : ¬ 0 < m := by omega
   clear hm0 HO2
   go_wp2_with (at_builtin; refine wa9 _ rfl _ _ 146 rfl 145 _ 3 24 underlying146 info_band rfl (by decide) rfl HO3.out _ rfl (by first | rfl | simp) rfl (by simp [Value.oneCell']) (by omega) (by omega) (by first | omega | exact hb5.size | (simp; omega)) ?_; intro v' w3 ho' hg)
   go_roundw
   case rel =>
    refine ⟨k + 1, m + 1, by omega, by omega, by go_num, ⟨by rw [HN.out, hD.out]; simp [← HO1.out], ?_⟩, bP hb5 HO3.out hg (Nat.le_refl _)⟩
    rw [HN.out, hD.out, List.flatMap_append]
    simpa [bdC] using ho'
   case measure => simp [intOf]; omega
  ·
   obtain ⟨g, cap, hv, hgb, hgl, hgc, hgo⟩ := own_form HO2 (by omega)
   simp only [Value.slice.injEq, true_and] at hv
   obtain ⟨rfl, rfl⟩ := hv
   have hgs : g < wr.heap.size := by
    have := (hlto.out g rfl).2
    exact this
   have hq := (bdC_get (sc9 l n d k) (m - 1) (by rw [← HO1.out]; omega))
   have hcc := (hgo.cellAt ((m - 1) * 3) (by omega)).trans hq
   rw [show (sc9 l n d k).getD (m - 1) bd0 = lastB (sc9 l n d k) from by unfold lastB; rw [← HO1.out]] at hcc
   obtain ⟨pf, hpf⟩ : ∃ pf, pf = (lastB (sc9 l n d k)).f := ⟨_, rfl⟩
   rw [← hpf] at hcc
   have hz : decide ((0 : Int) < (m : Int)) = true := by simp; omega
   have hz2 : 0 < m := by omega
   have m1 : IntKind.i64.wrap ((m : Int) - 1) = (m : Int) - 1 := by rw [IntKind.wrap_i64]; omega
   have m2 : ((m : Int) - 1).toNat = m - 1 := by omega
   have m3 : 0 ≤ (m : Int) - 1 := by omega
   have m4 : (m : Int) - 1 < (m : Int) := by omega
   have m5 : (1 : Int) ≤ (m : Int) := by omega
   have HPF := hid hpf
   have HGO := hid hgo
   clear hq hpf hgo HO2 hm0
   by_cases he : pf = x
   ·
    have hD : Hid (dropIf (sc9 l n d k) x = (sc9 l n d k).take (m - 1)) := by
     unfold Hid dropIf
     rw [if_pos ⟨by rw [← HO1.out]; exact hz2, by rw [← HPF.out]; exact he⟩, ← HO1.out]
    subst he
    have m6 : (m : Int) - 1 ≤ (cv : Int) := by omega
    have m7 : m - 1 ≤ cv := by omega
    have HO4 := hid ((own_cut HGO.out (m - 1) (by omega)).kept HGW.out (Or.inr (by intro h; have h2 : some g = some wr.heap.size := h; injection h2 with h2; omega)))
    go_wp2_with (at_builtin; refine wa9 _ rfl _ _ 146 rfl 145 _ 3 24 underlying146 info_band rfl (by decide) rfl HO4.out _ rfl (by first | rfl | simp) rfl (by simp [Value.oneCell']) (by omega) (by omega) (by first | omega | exact hb5.size | (simp; omega)) ?_; intro v' w3 ho' hg)
    go_roundw
    case rel =>
     refine ⟨k + 1, m - 1 + 1, by omega, by omega, by go_num, ⟨by rw [HN.out, hD.out]; simp [← HO1.out], ?_⟩, bP hb5 HO4.out hg (Nat.le_refl _)⟩
     rw [HN.out, hD.out, List.flatMap_append, ← flatMap_take]
     simpa [bdC] using ho'
    case measure => simp [intOf]; omega
   ·
    have hD : Hid (dropIf (sc9 l n d k) x = sc9 l n d k) := by
     unfold Hid dropIf
     rw [if_neg (fun h => he (HPF.out.trans h.2))]
    have hne : (pf == x) = false := by simpa using he
    clear he
    have HO4 := hid (HGO.out.kept HGW.out (Or.inr (by intro h; have h2 : some g = some wr.heap.size := h; injection h2 with h2; omega)))
    go_wp2_with (at_builtin; refine wa9 _ rfl _ _ 146 rfl 145 _ 3 24 underlying146 info_band rfl (by decide) rfl HO4.out _ rfl (by first | rfl | simp) rfl (by simp [Value.oneCell']) (by omega) (by omega) (by first | omega | exact hb5.size | (simp; omega)) ?_; intro v' w3 ho' hg)
    go_roundw
    case rel =>
     refine ⟨k + 1, m + 1, by omega, by omega, by go_num, ⟨by rw [HN.out, hD.out]; simp [← HO1.out], ?_⟩, bP hb5 HO4.out hg (Nat.le_refl _)⟩
     rw [HN.out, hD.out, List.flatMap_append]
     simpa [bdC] using ho'
    case measure => simp [intOf]; omega
theorem abel_le (x : Int) (f r : Nat → Int) (n : Nat) (hm : ∀ i, i + 1 < n → f i ≤ f (i + 1)) : ∀ k, k + 1 ≤ n → refS x f r (k + 1) = pSz x f r n k + pos (x - f k) * r k := by
 intro k
 induction k with
 | zero =>
  intro _
  simp only [refS, pSz, if_true]
  by_cases h : f 0 < x
  ·
   rw [if_pos h, pos_t (by omega)]; simp
  ·
   rw [if_neg h, pos_f (by omega)]; simp
 | succ k ih =>
  intro hk
  have h1 := ih (by omega)
  have hw : widthI x f n k = pos (x - f k) - pos (x - f (k + 1)) := by
   have := hm k (by omega)
   unfold widthI pos
   rw [if_pos (by omega)]
   omega
  rw [refS, h1, pSz, hw]
  have e : (if f (k + 1) < x then (x - f (k + 1)) * (r (k + 1) - (if k + 1 = 0 then 0 else r (k + 1 - 1))) else 0) = pos (x - f (k + 1)) * (r (k + 1) - r k) := by
   rw [if_neg (show ¬ (k + 1 = 0) by omega), Nat.add_sub_cancel]
   by_cases h : f (k + 1) < x
   ·
    rw [if_pos h, pos_t (by omega)]
   ·
    rw [if_neg h, pos_f (by omega), Int.zero_mul]
  rw [e, Int.mul_sub, Int.sub_mul]
  omega
theorem ref_prog_le (x : Int) (f r : Nat → Int) (n : Nat) (hm : ∀ i, i + 1 < n → f i ≤ f (i + 1)) : refS x f r n = pSz x f r n n := by
 cases n with
 | zero => rfl
 | succ n => rw [abel_le x f r (n + 1) hm n (by omega), pSz, width_last x f (n + 1) n (by omega)]
theorem refS_congr (x : Int) (f g r q : Nat → Int) (n : Nat) (h : ∀ i, i < n → f i = g i ∧ r i = q i) : refS x f r n = refS x g q n := by
 induction n with
 | zero => rfl
 | succ n ih =>
  rw [refS, refS, ih (fun i hi => h i (by omega)), (h n (by omega)).1, (h n (by omega)).2]
  by_cases h0 : n = 0
  ·
   subst h0; rfl
  ·
   rw [if_neg h0, if_neg h0, (h (n - 1) (by omega)).2]
def refL (L : List Bd) (x : Int) : Int := refS x (fun k => (L.getD k bd0).f) (fun k => (L.getD k bd0).r) L.length
def lastR (L : List Bd) : Int := if L.length = 0 then 0 else (lastB L).r
theorem getD_app_lt (L : List Bd) (b : Bd) (i : Nat) (hi : i < L.length) : (L ++ [b]).getD i bd0 = L.getD i bd0 := by
 simp [List.getD, List.getElem?_append_left hi]
theorem getD_app_eq (L : List Bd) (b : Bd) : (L ++ [b]).getD L.length bd0 = b := by simp [List.getD]
theorem refL_snoc (L : List Bd) (b : Bd) (x : Int) : refL (L ++ [b]) x = refL L x + pos (x - b.f) * (b.r - lastR L) := by
 unfold refL
 rw [List.length_append, List.length_singleton, refS]
 try dsimp only
 rw [getD_app_eq, refS_congr x _ (fun k => (L.getD k bd0).f) _ (fun k => (L.getD k bd0).r) L.length (fun i hi => by rw [getD_app_lt L b i hi]; exact ⟨rfl, rfl⟩)]
 have e : (if L.length = 0 then 0 else ((L ++ [b]).getD (L.length - 1) bd0).r) = lastR L := by
  unfold lastR lastB
  by_cases h : L.length = 0
  ·
   rw [if_pos h, if_pos h]
  ·
   rw [if_neg h, if_neg h, getD_app_lt L b _ (by omega)]
 rw [e]
 by_cases h : b.f < x
 ·
  rw [if_pos h, pos_t (by omega)]
 ·
  rw [if_neg h, pos_f (by omega), Int.zero_mul]
theorem take_snoc (L : List Bd) (h : 0 < L.length) : L = L.take (L.length - 1) ++ [lastB L] := by
 have h1 : L.take (L.length - 1 + 1) = L.take (L.length - 1) ++ [L[L.length - 1]] := List.take_succ_eq_append_getElem (by omega)
 rw [show L.length - 1 + 1 = L.length by omega, List.take_length] at h1
 rw [show lastB L = L[L.length - 1] from by simp [lastB, List.getD, List.getElem?_eq_getElem (show L.length - 1 < L.length by omega)]]
 exact h1
theorem refL_drop (L : List Bd) (b : Bd) (x : Int) : refL (dropIf L b.f ++ [b]) x = refL L x + pos (x - b.f) * (b.r - lastR L) := by
 unfold dropIf
 split
 ·
  rename_i h
  have hs := take_snoc L h.1
  have h1 := refL_snoc (L.take (L.length - 1)) (lastB L) x
  rw [← hs, h.2] at h1
  rw [refL_snoc, h1]
  have hl : lastR L = (lastB L).r := by unfold lastR; rw [if_neg (by omega)]
  rw [hl, Int.mul_sub, Int.mul_sub, Int.mul_sub]
  omega
 ·
  exact refL_snoc L b x
theorem scale_lastR (l : List Bd) (n d : Int) (k : Nat) : lastR (sc9 l n d (k + 1)) = (l.getD k bd0).r := by
 have h := scale_ne l n d (k + 1) (by omega)
 unfold lastR
 rw [if_neg (by omega), scale_last]
theorem scale_ref (l : List Bd) (n d x : Int) : ∀ k, refL (sc9 l n d k) x = refS x (fr l n d) (fun k => (l.getD k bd0).r) k := by
 intro k
 induction k with
 | zero => rfl
 | succ k ih =>
  rw [sc9, refL_drop (sc9 l n d k) ⟨fr l n d k, (l.getD k bd0).r, (l.getD k bd0).e⟩ x, ih, refS]
  dsimp only
  have e : lastR (sc9 l n d k) = if k = 0 then 0 else (l.getD (k - 1) bd0).r := by
   cases k with
   | zero => rfl
   | succ k => rw [scale_lastR, if_neg (by omega), Nat.add_sub_cancel]
  rw [e]
  by_cases h : fr l n d k < x
  ·
   rw [if_pos h, pos_t (by omega)]
  ·
   rw [if_neg h, pos_f (by omega), Int.zero_mul]
structure Gd (L : List Bd) : Prop where
 b : ∀ i, i < L.length → (0 ≤ (L.getD i bd0).f ∧ (L.getD i bd0).f ≤ 100000000000) ∧ (0 ≤ (L.getD i bd0).r ∧ (L.getD i bd0).r ≤ 10000) ∧ (0 ≤ (L.getD i bd0).e ∧ (L.getD i bd0).e ≤ 10000)
 m : ∀ i, i + 1 < L.length → (L.getD i bd0).f < (L.getD (i + 1) bd0).f
 z : 0 < L.length → (L.getD 0 bd0).f = 0
theorem Gd.snoc {D : List Bd} (h : Gd D) (b : Bd) (hb : (0 ≤ b.f ∧ b.f ≤ 100000000000) ∧ (0 ≤ b.r ∧ b.r ≤ 10000) ∧ (0 ≤ b.e ∧ b.e ≤ 10000)) (h0 : D.length = 0 → b.f = 0) (hl : 0 < D.length → (lastB D).f < b.f) : Gd (D ++ [b]) := by
 refine ⟨fun i hi => ?_, fun i hi => ?_, fun _ => ?_⟩
 ·
  rw [List.length_append, List.length_singleton] at hi
  rcases (by omega : i = D.length ∨ i < D.length) with rfl | hi
  ·
   rw [getD_app_eq]; exact hb
  ·
   rw [getD_app_lt D b i hi]; exact h.b i hi
 ·
  rw [List.length_append, List.length_singleton] at hi
  rw [getD_app_lt D b i (by omega)]
  rcases (by omega : i + 1 = D.length ∨ i + 1 < D.length) with h1 | h1
  ·
   rw [h1, getD_app_eq]
   have := hl (by omega)
   unfold lastB at this
   rwa [show D.length - 1 = i by omega] at this
  ·
   rw [getD_app_lt D b (i + 1) h1]; exact h.m i h1
 ·
  by_cases h1 : D.length = 0
  ·
   have : D = [] := List.eq_nil_of_length_eq_zero h1
   subst this
   exact h0 rfl
  ·
   rw [getD_app_lt D b 0 (by omega)]; exact h.z (by omega)
theorem getD_takeB (L : List Bd) (k j : Nat) (h : j < k) : (L.take k).getD j bd0 = L.getD j bd0 := by simp [List.getD, h]
theorem Gd.take {L : List Bd} (h : Gd L) (m : Nat) (hm : m ≤ L.length) : Gd (L.take m) := by
 have hl : (L.take m).length = m := by rw [List.length_take]; omega
 refine ⟨fun i hi => ?_, fun i hi => ?_, fun hi => ?_⟩
 ·
  rw [getD_takeB L m i (by omega)]; exact h.b i (by omega)
 ·
  rw [getD_takeB L m i (by omega), getD_takeB L m (i + 1) (by omega)]; exact h.m i (by omega)
 ·
  rw [getD_takeB L m 0 (by omega)]; exact h.z (by omega)
theorem fr_mono {l : List Bd} (g : GoodB l l.length) (n d : Int) (hp : partB n d = true) (k : Nat) (hk : k + 1 < l.length) : fr l n d k ≤ fr l n d (k + 1) := by
 have hp' := partB_iff.1 hp
 have h1 := g.m k hk
 unfold fr
 exact Int.ediv_le_ediv (by omega) (Int.mul_le_mul_of_nonneg_right (by omega) hp'.1)
theorem fr_bd {l : List Bd} (g : GoodB l l.length) (n d : Int) (hp : partB n d = true) (k : Nat) (hk : k < l.length) : 0 ≤ fr l n d k ∧ fr l n d k ≤ 100000000000 := by
 have hp' := partB_iff.1 hp
 have h1 := g.f k hk
 have := part_bd (l.getD k bd0).f n d h1.1 (by omega) (by omega)
 unfold fr
 omega
theorem fr_zero {l : List Bd} (g : GoodB l l.length) (n d : Int) : fr l n d 0 = 0 := by
 unfold fr
 rw [g.f0]; simp
theorem scale_gd {l : List Bd} (g : GoodB l l.length) (n d : Int) (hp : partB n d = true) : ∀ k, k ≤ l.length → Gd (sc9 l n d k) := by
 intro k
 induction k with
 | zero => intro _; exact ⟨fun i hi => absurd hi (by simp [sc9]), fun i hi => absurd hi (by simp [sc9]), fun hi => absurd hi (by simp [sc9])⟩
 | succ k ih =>
  intro hk
  have hL := ih (by omega)
  have hb := fr_bd g n d hp k (by omega)
  rw [sc9]
  have hlast : 0 < k → (lastB (sc9 l n d k)).f = fr l n d (k - 1) := fun h0 => by
   obtain ⟨j, rfl⟩ : ∃ j, k = j + 1 := ⟨k - 1, by omega⟩
   rw [scale_last]; rfl
  have hz : (sc9 l n d k).length = 0 → k = 0 := fun h => by
   rcases Nat.eq_zero_or_pos k with h0 | h0
   ·
    exact h0
   ·
    have := scale_ne l n d k h0; omega
  unfold dropIf
  split
  ·
   rename_i h
   refine Gd.snoc (hL.take _ (by omega)) _ ⟨hb, g.r k (by omega), g.e k (by omega)⟩ (fun h1 => ?_) (fun h1 => ?_)
   ·
    rw [List.length_take] at h1
    have h2 : (sc9 l n d k).length = 1 := by omega
    have h3 := hL.z h.1
    have h4 := h.2
    unfold lastB at h4
    rw [h2] at h4
    show fr l n d k = 0
    rw [← h4]; exact h3
   ·
    have hlen : ((sc9 l n d k).take ((sc9 l n d k).length - 1)).length = (sc9 l n d k).length - 1 := by rw [List.length_take]; omega
    rw [hlen] at h1
    unfold lastB
    rw [hlen, getD_takeB _ _ _ (by omega)]
    have h3 := hL.m ((sc9 l n d k).length - 1 - 1) (by omega)
    rw [show (sc9 l n d k).length - 1 - 1 + 1 = (sc9 l n d k).length - 1 by omega] at h3
    have h4 := h.2
    unfold lastB at h4
    show _ < fr l n d k
    rw [← h4]; exact h3
  ·
   rename_i h
   refine Gd.snoc hL _ ⟨hb, g.r k (by omega), g.e k (by omega)⟩ (fun h1 => ?_) (fun h1 => ?_)
   ·
    have h0 := hz h1
    subst h0
    exact fr_zero g n d
   ·
    have h0 : 0 < k := by
     rcases Nat.eq_zero_or_pos k with h0 | h0
     ·
      subst h0; simp [sc9] at h1
     ·
      exact h0
    have hne : (lastB (sc9 l n d k)).f ≠ fr l n d k := fun h2 => h ⟨h1, h2⟩
    have hm := fr_mono g n d hp (k - 1) (by omega)
    rw [show k - 1 + 1 = k by omega] at hm
    have := hlast h0
    show (lastB (sc9 l n d k)).f < fr l n d k
    omega
theorem firstNZ_zero (f : Nat → Int) (n : Nat) (h : ∀ k, k < n → f k = 0) : fz9 f n = 0 := by
 induction n with
 | zero => rfl
 | succ n ih => exact ft9 f n (ih (fun k hk => h k (by omega))) (h n (by omega))
theorem Gd.err {L : List Bd} (h : Gd L) (h1 : 0 < L.length) (h8 : L.length ≤ 8) : bE9 L = 0 := by
 unfold bE9
 rw [if_neg (by omega)]
 refine firstNZ_zero _ _ (fun k hk => ?_)
 have hb := h.b k hk
 unfold baz bandV
 rw [if_neg, if_neg, if_neg]
 ·
  rw [riz, riz]; exact fun hn => hn ⟨hb.2.1, hb.2.2⟩
 ·
  rintro ⟨h0, h2⟩
  have := h.m (k - 1) (by omega)
  rw [show k - 1 + 1 = k by omega] at this
  omega
 ·
  rintro (h0 | h0 | ⟨h0, h2⟩)
  ·
   omega
  ·
   omega
  ·
   subst h0; exact h2 (h.z h1)
theorem scale_err {l : List Bd} (hl : bE9 l = 0) (n d : Int) (hp : partB n d = true) : bE9 (sc9 l n d l.length) = 0 := by
 have g := goodB l hl
 exact (scale_gd g n d hp l.length (Nat.le_refl _)).err (scale_ne l n d _ g.lo) (by have := scale_len l n d l.length; have := g.hi; omega)
theorem scale_val {l : List Bd} (hl : bE9 l = 0) (n d x : Int) (hp : partB n d = true) : bandS (·.r) (sc9 l n d l.length) x = pSz x (fr l n d) (fun k => (l.getD k bd0).r) l.length l.length := by
 have g := goodB l hl
 have gs := goodB _ (scale_err hl n d hp)
 unfold bandS
 rw [← ref_prog x _ _ _ gs.m, ← ref_prog_le x _ _ _ (fun k hk => fr_mono g n d hp k hk)]
 exact scale_ref l n d x l.length
def exE (sch : List (List Bd)) (c : Cd) (tx n d : Int) : Int := if fitE sch c ≠ 0 then fitE sch c else chargeE c tx n d
def exV (sch : List (List Bd)) (c : Cd) (tx n d : Int) : Int :=
 if c.k = 4 then 0 else if c.k = 3 then chargeV c tx n d * ((sch.getD c.s.toNat []).getD c.f.toNat bd0).r
 else pSz (chargeV c tx n d) (fr (sch.getD c.s.toNat []) n d) (fun k => ((sch.getD c.s.toNat []).getD k bd0).r) (sch.getD c.s.toNat []).length (sch.getD c.s.toNat []).length
theorem fit_ok {sch : List (List Bd)} {c : Cd} (h : fitE sch c = 0) : cE9 c.s c.k c.a c.f = 0 ∧ 0 ≤ c.s ∧ c.s < sch.length ∧ 0 ≤ c.f ∧ (c.k = 3 → c.f < (sch.getD c.s.toNat []).length) := by
 unfold fitE at h
 by_cases h1 : cE9 c.s c.k c.a c.f = 0
 ·
  rw [if_neg (by simpa using h1)] at h
  have ha := code_a _ _ _ _ h1
  by_cases h2 : (sch.length : Int) ≤ c.s
  ·
   rw [if_pos h2] at h; cases h
  ·
   rw [if_neg h2] at h
   refine ⟨h1, by omega, by omega, by omega, fun h3 => ?_⟩
   by_cases h4 : ((sch.getD c.s.toNat []).length : Int) ≤ c.f
   ·
    rw [if_pos ⟨h3, h4⟩] at h; cases h
   ·
    omega
 ·
  rw [if_pos h1] at h
  exact absurd h h1
theorem charge_ok {c : Cd} {tx n d : Int} (h : chargeE c tx n d = 0) : partB n d = true ∧ 0 ≤ chargeV c tx n d ∧ chargeV c tx n d ≤ 100000000000 ∧ mrB tx = true := by
 unfold chargeE at h
 by_cases h1 : cE9 c.s c.k c.a c.f = 0
 ·
  rw [if_neg (by simpa using h1)] at h
  cases hp : partB n d
  ·
   rw [if_pos hp] at h; cases h
  ·
   rw [if_neg (by rw [hp]; decide)] at h
   unfold chargeV
   by_cases h4 : c.k = 4
   ·
    rw [if_pos h4] at h ⊢
    refine ⟨rfl, Int.le_refl _, by decide, ?_⟩
    cases ht : mrB tx
    ·
     rw [ht] at h; simp at h
    ·
     rfl
   ·
    rw [if_neg h4] at h ⊢
    by_cases hs : mrB tx = true ∧ mrB (tx - freeI c.k c.a n d) = true
    ·
     have := miz.1 hs.2
     exact ⟨rfl, by omega, by omega, hs.1⟩
    ·
     rw [if_neg hs] at h; cases h
 ·
  rw [if_pos h1] at h
  exact absurd h h1
theorem ScAt.one {w : World} {A : Option Addr} {ns : Nat} {sch : List (List Bd)} (hs : ScSl w A ns sch) (i : Nat) (hi : i < ns) : ∃ b off B n c, A = some ⟨b, off, none⟩ ∧ b < w.heap.size ∧ w.cell? ⟨b, off + i, none⟩ = some (.slice B n c) ∧ Blz w B n (sch.getD i []) := by
 obtain ⟨b, off, hA, hlt, hat⟩ := hs.2.2 (by omega)
 obtain ⟨B, n, c, c0, hbs⟩ := hat i hi
 exact ⟨b, off, B, n, c, hA, hlt, by rw [Nat.mul_one] at c0; exact c0, hbs⟩
theorem texact_e (sch : List (List Bd)) (As Ac Ak : Option Addr) (ns cs nc cc nk ck : Nat) (lim rnd : Int) (s k a f : Int) (al : Bool) (tx n d : Int) (w : World) (hs : ScSl w As ns sch) (r : Int) (hr : Hid (r = exE sch ⟨s, k, a, f, al⟩ tx n d)) (h0 : r ≠ 0) :
  Calls prog 176 #[.agg #[.slice As ns cs, .slice Ac nc cc, .slice Ak nk ck, .int .i64 lim, .int .i64 rnd], .agg #[.int .i64 s, .int .i64 k, .int .i64 a, .int .i64 f, .bool al], .int .i64 tx, .int .i64 n, .int .i64 d] w fun e w' => e = .returned (.tuple #[.int .i64 0, .int .i64 r]) ∧ Below w.heap.size w w' := by
 have z := (Blk.mk w 26 #[.slice As ns cs, .slice Ac nc cc, .slice Ak nk ck, .int .i64 lim, .int .i64 rnd]).alloc (.cells #[.int .i64 s, .int .i64 k, .int .i64 a, .int .i64 f, .bool al] 28)
 have y := Blk.mk (w.alloc (.cells #[.slice As ns cs, .slice Ac nc cc, .slice Ak nk ck, .int .i64 lim, .int .i64 rnd] 26)) 28 #[.int .i64 s, .int .i64 k, .int .i64 a, .int .i64 f, .bool al]
 rw [World.size_alloc] at y
 have hb0 := bA (bz1 w (.cells #[.slice As ns cs, .slice Ac nc cc, .slice Ak nk ck, .int .i64 lim, .int .i64 rnd] 26)) (.cells #[.int .i64 s, .int .i64 k, .int .i64 a, .int .i64 f, .bool al] 28)
 have t : (r != 0) = true := by simpa using h0
 have hR := hr.out
 unfold exE at hR
 by_cases h1 : fitE sch ⟨s, k, a, f, al⟩ = 0
 case neg =>
  rw [if_pos h1] at hR
  have K := hid (tfits_c sch As Ac Ak ns cs nc cc nk ck lim rnd s k a f al _ (hs.below hb0) r hR)
  clear hR h0 h1 hs
  go_enter func176, ntmps176
  go_wp2_with fail
  refine K.out.mono ?_
  rintro e w1 ⟨rfl, hb1⟩
  go_wp2_with fail
  go_ret2
  exact ⟨rfl, bT hb0 hb1⟩
 rw [if_neg (by simpa using h1)] at hR
 have K := hid (tfits_c sch As Ac Ak ns cs nc cc nk ck lim rnd s k a f al _ (hs.below hb0) 0 h1.symm)
 have K2 := hid (charge_e s k a f al tx n d · r hR h0)
 clear hR h0 h1 hs
 go_enter func176, ntmps176
 go_wp2_with fail
 refine K.out.mono ?_
 rintro e w1 ⟨rfl, hb1⟩
 have y1 := y.t hb1
 obtain ⟨p0, p1, p2, p3, p4⟩ := y1.all5
 go_wp2_with fail
 refine (K2.out _).mono ?_
 rintro e w2 ⟨rfl, hb2⟩
 go_wp2_with fail
 go_ret2
 exact ⟨rfl, bT (bT hb0 hb1) hb2⟩
theorem texact_t (sch : List (List Bd)) (As Ac Ak : Option Addr) (ns cs nc cc nk ck : Nat) (lim rnd : Int) (s k a f : Int) (al : Bool) (tx n d : Int) (w : World) (hs : ScSl w As ns sch) (hok : ∀ k, k < ns → bE9 (sch.getD k []) = 0) (hr : exE sch ⟨s, k, a, f, al⟩ tx n d = 0) :
  Calls prog 176 #[.agg #[.slice As ns cs, .slice Ac nc cc, .slice Ak nk ck, .int .i64 lim, .int .i64 rnd], .agg #[.int .i64 s, .int .i64 k, .int .i64 a, .int .i64 f, .bool al], .int .i64 tx, .int .i64 n, .int .i64 d] w fun e w' => e = .returned (.tuple #[.int .i64 (exV sch ⟨s, k, a, f, al⟩ tx n d), .int .i64 0]) ∧ Below w.heap.size w w' := by
 have z := (Blk.mk w 26 #[.slice As ns cs, .slice Ac nc cc, .slice Ak nk ck, .int .i64 lim, .int .i64 rnd]).alloc (.cells #[.int .i64 s, .int .i64 k, .int .i64 a, .int .i64 f, .bool al] 28)
 have y := Blk.mk (w.alloc (.cells #[.slice As ns cs, .slice Ac nc cc, .slice Ak nk ck, .int .i64 lim, .int .i64 rnd] 26)) 28 #[.int .i64 s, .int .i64 k, .int .i64 a, .int .i64 f, .bool al]
 rw [World.size_alloc] at y
 have hb0 := bA (bz1 w (.cells #[.slice As ns cs, .slice Ac nc cc, .slice Ak nk ck, .int .i64 lim, .int .i64 rnd] 26)) (.cells #[.int .i64 s, .int .i64 k, .int .i64 a, .int .i64 f, .bool al] 28)
 have hR := hr
 unfold exE at hR
 by_cases h1 : fitE sch ⟨s, k, a, f, al⟩ = 0
 case neg =>
  rw [if_pos h1] at hR
  exact absurd hR h1
 rw [if_neg (by simpa using h1)] at hR
 have K := hid (tfits_c sch As Ac Ak ns cs nc cc nk ck lim rnd s k a f al _ (hs.below hb0) 0 h1.symm)
 have K2 := hid (charge_t s k a f al tx n d · hR)
 obtain ⟨hc0, hs0, hs1, hf0, hf3⟩ := fit_ok h1
 obtain ⟨hp, hv0, hv1, _⟩ := charge_ok hR
 dsimp only at hc0 hs0 hs1 hf0 hf3
 obtain ⟨i, rfl⟩ := Int.eq_ofNat_of_zero_le hs0
 rw [Int.toNat_natCast] at hf3
 have hi : i < ns := by have := hs.1; omega
 have hBE := hok i hi
 obtain ⟨gb, go, B, nb, cb, rfl, hlt, c0, hbs⟩ := ScAt.one hs i hi
 have HV : Hid (exV sch ⟨(i : Int), k, a, f, al⟩ tx n d = if k = 4 then 0 else if k = 3 then chargeV ⟨(i : Int), k, a, f, al⟩ tx n d * ((sch.getD i []).getD f.toNat bd0).r else pSz (chargeV ⟨(i : Int), k, a, f, al⟩ tx n d) (fr (sch.getD i []) n d) (fun k => ((sch.getD i []).getD k bd0).r) (sch.getD i []).length (sch.getD i []).length) := rfl
 generalize exV sch ⟨(i : Int), k, a, f, al⟩ tx n d = ev at *
 generalize chargeV ⟨(i : Int), k, a, f, al⟩ tx n d = cv at *
 have HBS := hid hbs
 have ii0 : (0 : Int) ≤ (i : Int) := by omega
 have ii1 : (i : Int) < (ns : Int) := by omega
 have ii2 : ((i : Int)).toNat = i := by omega
 clear h1 hR hr hs hok hbs hc0 hs0 hs1
 by_cases h4 : k = 4
 ·
  subst h4
  rw [if_pos rfl] at HV
  go_enter func176, ntmps176
  go_wp2_with fail
  refine K.out.mono ?_
  rintro e w1 ⟨rfl, hb1⟩
  have y1 := y.t hb1
  obtain ⟨p0, p1, p2, p3, p4⟩ := y1.all5
  go_wp2_with fail
  refine (K2.out _).mono ?_
  rintro e w2 ⟨rfl, hb2⟩
  have a1 := (y1.t hb2).cell 1
  go_wp2_with fail
  go_ret2
  exact ⟨ret2_int HV.out.symm rfl, bT (bT hb0 hb1) hb2⟩
 rw [if_neg h4] at HV
 have u4 : (k == 4) = false := by simpa using h4
 by_cases h3 : k = 3
 ·
  subst h3
  rw [if_pos rfl] at HV
  obtain ⟨j, rfl⟩ := Int.eq_ofNat_of_zero_le hf0
  have hj : j < nb := by have := hf3 rfl; have := HBS.out.1; omega
  rw [Int.toNat_natCast] at HV
  have hrb := (goodB _ hBE).r j (by have := HBS.out.1; omega)
  obtain ⟨b2, o2, rfl, hlt2, hat2⟩ := HBS.out.2.2 (by omega)
  obtain ⟨_, d1, _⟩ := hat2 j (by have := HBS.out.1; omega)
  generalize ((sch.getD i []).getD j bd0).r = br at *
  have KP := hid (part_t cv br · (mr_t (by omega)) (riz.2 hrb))
  have jj0 : (0 : Int) ≤ (j : Int) := by omega
  have jj1 : (j : Int) < (nb : Int) := by omega
  have jj2 : ((j : Int)).toNat = j := by omega
  clear hat2 hf3 hBE h4 hf0
  go_enter func176, ntmps176
  go_wp2_with fail
  refine K.out.mono ?_
  rintro e w1 ⟨rfl, hb1⟩
  have y1 := y.t hb1
  have z1 := z.t hb1
  obtain ⟨p0, p1, p2, p3, p4⟩ := y1.all5
  go_wp2_with fail
  refine (K2.out _).mono ?_
  rintro e w2 ⟨rfl, hb2⟩
  have y2 := y1.t hb2
  have z2 := z1.t hb2
  have a1 := y2.cell 1
  have hb3 := bT (bT hb0 hb1) hb2
  have c1 := (hb3.cell (p := ⟨gb, go + i, none⟩) hlt).trans c0
  have e1 := (hb3.cell (p := ⟨b2, o2 + j * 3 + 1, none⟩) hlt2).trans d1
  have hs3 := hb3.size
  have hl1 : gb < w2.heap.size := by omega
  have hl2 : b2 < w2.heap.size := by omega
  have G : Hid (∀ W, Below w2.heap.size w2 W → Below w2.heap.size w2 W ∧ W.cell? ⟨w.heap.size, 0, none⟩ = some (.slice (some ⟨gb, go, none⟩) ns cs) ∧ W.cell? ⟨w.heap.size + 1, 0, none⟩ = some (.int .i64 i) ∧ W.cell? ⟨w.heap.size + 1, 3, none⟩ = some (.int .i64 j) ∧ W.cell? ⟨gb, go + i, none⟩ = some (.slice (some ⟨b2, o2, none⟩) nb cb) ∧ W.cell? ⟨b2, o2 + j * 3 + 1, none⟩ = some (.int .i64 br)) := fun W hW => ⟨hW, (z2.t hW).cell 0, (y2.t hW).cell 0, (y2.t hW).cell 3, (hW.cell (p := ⟨gb, go + i, none⟩) hl1).trans c1, (hW.cell (p := ⟨b2, o2 + j * 3 + 1, none⟩) hl2).trans e1⟩
  go_wp2_with fail
  go_region_held3 (fun W => Below w2.heap.size w2 W ∧ W.cell? ⟨w.heap.size, 0, none⟩ = some (.slice (some ⟨gb, go, none⟩) ns cs) ∧ W.cell? ⟨w.heap.size + 1, 0, none⟩ = some (.int .i64 i) ∧ W.cell? ⟨w.heap.size + 1, 3, none⟩ = some (.int .i64 j) ∧ W.cell? ⟨gb, go + i, none⟩ = some (.slice (some ⟨b2, o2, none⟩) nb cb) ∧ W.cell? ⟨b2, o2 + j * 3 + 1, none⟩ = some (.int .i64 br))
   (first | assumption | exact G.out _ (b0 _).drew | (exact sK G.out (by assumption) (by assumption)))
   (first | (go_at_call 182; (with_reducible refine (KP.out _).mono ?_); rintro e w6 ⟨rfl, hb6⟩))
  all_goals
   have hbz := bT hb3 (show Below w2.heap.size w2 _ ∧ _ from by assumption).1
   go_wp2_with fail
   go_ret2
   exact ⟨ret2_int HV.out.symm rfl, hbz⟩
 ·
  rw [if_neg h3] at HV
  have u3 : (k == 3) = false := by simpa using h3
  have KS := hid (fun W h => bscale_c (sch.getD i []) B nb cb n d W h hBE hp)
  have KE := hid (fun A m c W h => bexact1_c cv (sc9 (sch.getD i []) n d (sch.getD i []).length) A m c W h (scale_err hBE n d hp) (mr_t (by omega)))
  have hval := scale_val hBE n d cv hp
  rw [hval] at KE
  rw [HBS.out.1] at KS
  generalize pSz cv (fr (sch.getD i []) n d) (fun k => ((sch.getD i []).getD k bd0).r) (sch.getD i []).length (sch.getD i []).length = pv at *
  rw [← HBS.out.1] at KS
  have HNB := hid HBS.out.1
  clear hval hf3 hBE h4 h3
  go_enter func176, ntmps176
  go_wp2_with fail
  refine K.out.mono ?_
  rintro e w1 ⟨rfl, hb1⟩
  have y1 := y.t hb1
  have z1 := z.t hb1
  obtain ⟨p0, p1, p2, p3, p4⟩ := y1.all5
  go_wp2_with fail
  refine (K2.out _).mono ?_
  rintro e w2 ⟨rfl, hb2⟩
  have y2 := y1.t hb2
  have z2 := z1.t hb2
  have a0 := y2.cell 0
  have a1 := y2.cell 1
  have t0 := z2.cell 0
  have hb3 := bT (bT hb0 hb1) hb2
  have c1 := (hb3.cell (p := ⟨gb, go + i, none⟩) hlt).trans c0
  go_wp2_with fail
  refine (KS.out _ (HBS.out.below hb3)).mono ?_
  rintro e w3 ⟨⟨v, m, rfl, hv⟩, hb4⟩
  obtain ⟨Av, cv2, rfl, _, hbv⟩ := hv.sl
  have hbv' : Blz w3 Av m (sc9 (sch.getD i []) n d (sch.getD i []).length) := by rw [← HNB.out]; exact hbv
  have HBV := hid hbv'
  clear hv hbv hbv'
  go_wp2_with fail
  refine (KE.out _ _ _ _ HBV.out).mono ?_
  rintro e w4 ⟨rfl, hb5⟩
  go_wp2_with fail
  go_ret2
  exact ⟨ret2_int HV.out.symm rfl, bT (bT hb3 hb4) hb5⟩
def topTo (l : List Bd) : Nat → Int
 | 0 => 0
 | k + 1 => max (topTo l k) (l.getD k bd0).r
theorem top_mono (l : List Bd) (k : Nat) : ∀ d, topTo l k ≤ topTo l (k + d) := by
 intro d
 induction d with
 | zero => exact Int.le_refl _
 | succ d ih => rw [← Nat.add_assoc, topTo]; omega
theorem top_ge (l : List Bd) (k n : Nat) (h : k < n) : (l.getD k bd0).r ≤ topTo l n := by
 have h1 : (l.getD k bd0).r ≤ topTo l (k + 1) := by rw [topTo]; omega
 have h2 := top_mono l (k + 1) (n - (k + 1))
 rw [show k + 1 + (n - (k + 1)) = n by omega] at h2
 omega
theorem top_bd (l : List Bd) (n : Nat) (h : ∀ k, k < n → 0 ≤ (l.getD k bd0).r ∧ (l.getD k bd0).r ≤ 10000) : 0 ≤ topTo l n ∧ topTo l n ≤ 10000 := by
 induction n with
 | zero => exact ⟨Int.le_refl _, by rw [topTo]; decide⟩
 | succ n ih =>
  have h1 := ih (fun k hk => h k (by omega))
  have h2 := h n (by omega)
  rw [topTo]
  omega
theorem prog_top (x T : Int) (f r : Nat → Int) (n : Nat) (hr : ∀ k, k < n → r k ≤ T) : ∀ k, k ≤ n → pSz x f r n k ≤ pSz x f (fun _ => 1) n k * T := by
 intro k
 induction k with
 | zero => intro _; simp [pSz]
 | succ k ih =>
  intro hk
  have h1 := ih (by omega)
  have h2 := hr k (by omega)
  have h3 : 0 ≤ widthI x f n k := by unfold widthI pos; omega
  have h4 := Int.mul_le_mul_of_nonneg_left h2 h3
  rw [pSz, pSz, Int.mul_one, Int.add_mul]
  omega
theorem prog_one (x : Int) (f : Nat → Int) (n : Nat) (hm : ∀ i, i + 1 < n → f i < f (i + 1)) (hn : 0 < n) (h0 : f 0 = 0) (hx : 0 ≤ x) : pSz x f (fun _ => 1) n n = x := by
 rw [← ref_prog x f (fun _ => 1) n hm]
 have key : ∀ k, 0 < k → refS x f (fun _ => 1) k = x := by
  intro k hk
  induction k with
  | zero => omega
  | succ k ih =>
   rw [refS]
   by_cases h : k = 0
   ·
    subst h
    simp only [refS, h0, if_true]
    split <;> omega
   ·
    rw [ih (by omega), if_neg h]
    split <;> omega
 exact key n hn
theorem bandS_top (l : List Bd) (hl : bE9 l = 0) (x : Int) (hx : 0 ≤ x) : bandS (·.r) l x ≤ x * topTo l l.length := by
 have g := goodB l hl
 have h1 := prog_top x (topTo l l.length) (fun k => (l.getD k bd0).f) (fun k => (l.getD k bd0).r) l.length (fun k hk => top_ge l k l.length hk) l.length (Nat.le_refl _)
 rw [prog_one x (fun k => (l.getD k bd0).f) l.length g.m g.lo g.f0 hx] at h1
 exact h1
theorem bandS_15 (L : List Bd) (h : bE9 L = 0) (x : Int) (h0 : 0 ≤ x) (h1 : x ≤ 100000000000) : 0 ≤ bandS (·.r) L x ∧ bandS (·.r) L x ≤ 1000000000000000 := by
 have gs := goodB _ h
 have h5 := bandS_top L h x h0
 have h6 := top_bd L _ gs.r
 have h7 : x * topTo L L.length ≤ 100000000000 * 10000 := (mul_bd0 h0 h1 h6.1 h6.2 (by decide)).2
 have h8 := prog_bd x (fun k => (L.getD k bd0).f) (fun k => (L.getD k bd0).r) _ (fun i hi => (gs.f i hi).1) gs.r h1 _ (Nat.le_refl _)
 exact ⟨h8.1, by omega⟩
theorem exV_bd (sch : List (List Bd)) (c : Cd) (tx n d : Int) (hok : ∀ k, k < sch.length → bE9 (sch.getD k []) = 0) (hr : exE sch c tx n d = 0) : 0 ≤ exV sch c tx n d ∧ exV sch c tx n d ≤ 1000000000000000 := by
 unfold exE at hr
 by_cases h1 : fitE sch c = 0
 case neg =>
  rw [if_pos h1] at hr
  exact absurd hr h1
 rw [if_neg (by simpa using h1)] at hr
 obtain ⟨hc0, hs0, hs1, hf0, hf3⟩ := fit_ok h1
 obtain ⟨hp, hv0, hv1, _⟩ := charge_ok hr
 have hBE := hok c.s.toNat (by omega)
 have g := goodB _ hBE
 unfold exV
 generalize chargeV c tx n d = x at *
 by_cases h4 : c.k = 4
 ·
  rw [if_pos h4]; omega
 rw [if_neg h4]
 by_cases h3 : c.k = 3
 ·
  rw [if_pos h3]
  have hf := hf3 h3
  have := g.r c.f.toNat (by omega)
  exact mul_bd0 (A := 100000000000) (B := 10000) hv0 hv1 this.1 this.2 (by decide)
 ·
  rw [if_neg h3, ← scale_val hBE n d x hp]
  exact bandS_15 _ (scale_err hBE n d hp) x hv0 hv1
theorem tdue_e (sch : List (List Bd)) (As Ac Ak : Option Addr) (ns cs nc cc nk ck : Nat) (lim rnd : Int) (s k a f : Int) (al : Bool) (tx n d : Int) (w : World) (hs : ScSl w As ns sch) (r : Int) (hr : Hid (r = exE sch ⟨s, k, a, f, al⟩ tx n d)) (h0 : r ≠ 0) :
  Calls prog 159 #[.agg #[.slice As ns cs, .slice Ac nc cc, .slice Ak nk ck, .int .i64 lim, .int .i64 rnd], .agg #[.int .i64 s, .int .i64 k, .int .i64 a, .int .i64 f, .bool al], .int .i64 tx, .int .i64 n, .int .i64 d] w fun e w' => e = .returned (.tuple #[.int .i64 0, .int .i64 r]) ∧ Below w.heap.size w w' := by
 have hb0 := bA (bz1 w (.cells #[.slice As ns cs, .slice Ac nc cc, .slice Ak nk ck, .int .i64 lim, .int .i64 rnd] 26)) (.cells #[.int .i64 s, .int .i64 k, .int .i64 a, .int .i64 f, .bool al] 28)
 have K := hid (texact_e sch As Ac Ak ns cs nc cc nk ck lim rnd s k a f al tx n d _ (hs.below hb0) r hr h0)
 have t : (r != 0) = true := by simpa using h0
 clear hs h0
 go_enter func159, ntmps159
 go_wp2_with fail
 refine K.out.mono ?_
 rintro e w1 ⟨rfl, hb1⟩
 go_wp2_with fail
 go_ret2
 exact ⟨rfl, bT hb0 hb1⟩
theorem tdue_t (sch : List (List Bd)) (As Ac Ak : Option Addr) (ns cs nc cc nk ck : Nat) (lim rnd : Int) (s k a f : Int) (al : Bool) (tx n d : Int) (w : World) (hs : ScSl w As ns sch) (hok : ∀ k, k < ns → bE9 (sch.getD k []) = 0) (hm : modeB rnd = true) (hr : exE sch ⟨s, k, a, f, al⟩ tx n d = 0) :
  Calls prog 159 #[.agg #[.slice As ns cs, .slice Ac nc cc, .slice Ak nk ck, .int .i64 lim, .int .i64 rnd], .agg #[.int .i64 s, .int .i64 k, .int .i64 a, .int .i64 f, .bool al], .int .i64 tx, .int .i64 n, .int .i64 d] w fun e w' => e = .returned (.tuple #[.int .i64 (ro9 (exV sch ⟨s, k, a, f, al⟩ tx n d) 10000 rnd), .int .i64 0]) ∧ Below w.heap.size w w' := by
 have hb0 := bA (bz1 w (.cells #[.slice As ns cs, .slice Ac nc cc, .slice Ak nk ck, .int .i64 lim, .int .i64 rnd] 26)) (.cells #[.int .i64 s, .int .i64 k, .int .i64 a, .int .i64 f, .bool al] 28)
 have z := (Blk.mk w 26 #[.slice As ns cs, .slice Ac nc cc, .slice Ak nk ck, .int .i64 lim, .int .i64 rnd]).alloc (.cells #[.int .i64 s, .int .i64 k, .int .i64 a, .int .i64 f, .bool al] 28)
 have K := hid (texact_t sch As Ac Ak ns cs nc cc nk ck lim rnd s k a f al tx n d _ (hs.below hb0) hok hr)
 have hbd := exV_bd sch ⟨s, k, a, f, al⟩ tx n d (fun k hk => hok k (by have := hs.1; omega)) hr
 have K2 := hid (fcoins_t (exV sch ⟨s, k, a, f, al⟩ tx n d) rnd · (exB_iff.2 (by omega)) hm)
 generalize ro9 (exV sch ⟨s, k, a, f, al⟩ tx n d) 10000 rnd = rv at *
 generalize exV sch ⟨s, k, a, f, al⟩ tx n d = ev at *
 clear hs hok hr
 go_enter func159, ntmps159
 go_wp2_with fail
 refine K.out.mono ?_
 rintro e w1 ⟨rfl, hb1⟩
 have a4 := (z.t hb1).cell 4
 go_wp2_with fail
 refine (K2.out _).mono ?_
 rintro e w2 ⟨rfl, hb2⟩
 go_wp2_with fail
 go_ret2
 exact ⟨rfl, bT (bT hb0 hb1) hb2⟩
theorem I64Sl.grown {w w' : World} {A : Option Addr} {n : Nat} {l : List Int} {row : Option Nat} (h : I64Sl w A n l) (hg : w.grownBy w' row) (hn : ∀ b off, A = some ⟨b, off, none⟩ → row ≠ some b) : I64Sl w' A n l := by
 obtain ⟨h1, h2, h3⟩ := h
 refine ⟨h1, h2, fun h0 => ?_⟩
 obtain ⟨b, off, hA, hlt, hc⟩ := h3 h0
 refine ⟨b, off, hA, Nat.lt_of_lt_of_le hlt hg.size, fun k hk => ?_⟩
 rw [← hc k hk]
 exact World.cell?_of_block (hg.block b hlt (fun e => hn b off hA e.symm))
section
variable {P : Program}
end
theorem of2025_c (w : World) : Calls Tryz.prog 144 #[.int .i64 45750] w fun e w' => e = .returned (.tuple #[.agg #[.int .i64 2025, .int .i64 4, .int .i64 5], .int .i64 0]) ∧ Below w.heap.size w w' := by
 have y := (Blk.mk w 152 #[.int .i64 0, .int .i64 0, .int .i64 0]).alloc (.cells #[.int .i64 2025, .int .i64 1, .int .i64 1] 152)
 have x := Blk.mk (w.alloc (.cells #[.int .i64 0, .int .i64 0, .int .i64 0] 152)) 152 #[.int .i64 2025, .int .i64 1, .int .i64 1]
 rw [World.size_alloc] at x
 have hb0 := bA (bz1 w (.cells #[.int .i64 0, .int .i64 0, .int .i64 0] 152)) (.cells #[.int .i64 2025, .int .i64 1, .int .i64 1] 152)
 go_enter Tryz.func144, Tryz.ntmps144
 go_wp2_with fail
 refine wp_loop_rounds 1 ?_
 rw [rounds_succ]
 go_wp2_with fail
 refine (number2026_1_c _).mono ?_
 rintro e w1 ⟨rfl, hb1⟩
 have hb2 := bT hb0 hb1
 have y1 := y.t hb1
 have x1 := x.t hb1
 obtain ⟨a0, a1, a2, a3, a4, a5⟩ := x1.a3
 go_wp2_with fail
 refine (number2025_1_c _).mono ?_
 rintro e w2 ⟨rfl, hb3⟩
 have hb4 := bT hb2 hb3
 have y2 := y1.t hb3
 have x2 := x1.t hb3
 obtain ⟨a0, a1, a2, a3, a4, a5⟩ := x2.a3
 have x3 : Blk (((w2.setCell ⟨w.heap.size + 1, 1, none⟩ (.int .i64 2)).setCell ⟨w.heap.size + 1, 1, none⟩ (.int .i64 3)).setCell ⟨w.heap.size + 1, 1, none⟩ (.int .i64 4)) (w.heap.size + 1) 152 #[.int .i64 2025, .int .i64 4, .int .i64 1] := ((x2.put 1 (.int .i64 2)).put 1 (.int .i64 3)).put 1 (.int .i64 4)
 obtain ⟨a6, a7, a8, a9, a10, a11⟩ := x3.a3
 go_wp2_with fail
 refine wp_loop_rounds 4 ?_
 rw [rounds_succ]
 go_wp2_with fail
 refine (last2025_1_c _).mono ?_
 rintro e w' ⟨rfl, rfl⟩
 go_wp2_with fail
 refine (last2025_1_c _).mono ?_
 rintro e w' ⟨rfl, rfl⟩
 go_wp2_with fail
 rw [rounds_succ]
 go_wp2_with fail
 refine (last2025_2_c _).mono ?_
 rintro e w' ⟨rfl, rfl⟩
 go_wp2_with fail
 refine (last2025_2_c _).mono ?_
 rintro e w' ⟨rfl, rfl⟩
 go_wp2_with fail
 rw [rounds_succ]
 go_wp2_with fail
 refine (last2025_3_c _).mono ?_
 rintro e w' ⟨rfl, rfl⟩
 go_wp2_with fail
 refine (last2025_3_c _).mono ?_
 rintro e w' ⟨rfl, rfl⟩
 go_wp2_with fail
 rw [rounds_succ]
 go_wp2_with fail
 have hb5 := bS (bS (bS hb4 (p := ⟨w.heap.size + 1, 1, none⟩) (Nat.le_succ _) (.int .i64 2)) (p := ⟨w.heap.size + 1, 1, none⟩) (Nat.le_succ _) (.int .i64 3)) (p := ⟨w.heap.size + 1, 1, none⟩) (Nat.le_succ _) (.int .i64 4)
 have y3 := ((y2.far (a := ⟨w.heap.size + 1, 1, none⟩) (Nat.ne_of_lt (Nat.lt_succ_self _)) (.int .i64 2)).far (a := ⟨w.heap.size + 1, 1, none⟩) (Nat.ne_of_lt (Nat.lt_succ_self _)) (.int .i64 3)).far (a := ⟨w.heap.size + 1, 1, none⟩) (Nat.ne_of_lt (Nat.lt_succ_self _)) (.int .i64 4)
 generalize hW : ((w2.setCell ⟨w.heap.size + 1, 1, none⟩ (.int .i64 2)).setCell ⟨w.heap.size + 1, 1, none⟩ (.int .i64 3)).setCell ⟨w.heap.size + 1, 1, none⟩ (.int .i64 4) = w3 at *
 clear hW
 obtain ⟨b0, b1, b2, b3, b4, b5⟩ := y3.a3
 refine (last2025_4_c _).mono ?_
 rintro e w' ⟨rfl, rfl⟩
 go_wp2_with fail
 exact bodyPost_ret (v := .tuple #[.agg #[.int .i64 2025, .int .i64 4, .int .i64 5], .int .i64 0]) (by simp [results, Tryz.results144, go_sem, b0, b1, b2]) rfl ⟨rfl, bS (bS (bS (bS hb5 (Nat.le_succ _) _) (Nat.le_refl _) _) (Nat.le_refl _) _) (Nat.le_refl _) _⟩
theorem dadd2025_c (w : World) : Calls Tryz.prog 103 #[.agg #[.int .i64 2025, .int .i64 4, .int .i64 6], .int .i64 (-1)] w fun e w' => e = .returned (.tuple #[.agg #[.int .i64 2025, .int .i64 4, .int .i64 5], .int .i64 0]) ∧ Below w.heap.size w w' := by
 have y := Blk.mk (w.alloc (.cells #[.int .i64 2025, .int .i64 4, .int .i64 6] 152)) 152 #[.int .i64 0, .int .i64 0, .int .i64 0]
 rw [World.size_alloc] at y
 have hb0 := bA (bz1 w (.cells #[.int .i64 2025, .int .i64 4, .int .i64 6] 152)) (.cells #[.int .i64 0, .int .i64 0, .int .i64 0] 152)
 go_enter Tryz.func103, Tryz.ntmps103
 go_wp2_with fail
 refine (number2025_4_c _).mono ?_
 rintro e w1 ⟨rfl, hb1⟩
 have hb2 := bT hb0 hb1
 have y1 := y.t hb1
 go_wp2_with fail
 refine (of2025_c _).mono ?_
 rintro e w2 ⟨rfl, hb3⟩
 have hb4 := bT hb2 hb3
 obtain ⟨b0, b1, b2, b3, b4, b5⟩ := (y1.t hb3).a3
 go_wp2_with fail
 exact bodyPost_ret (v := .tuple #[.agg #[.int .i64 2025, .int .i64 4, .int .i64 5], .int .i64 0]) (by simp [results, Tryz.results103, go_sem, b0, b1, b2]) rfl ⟨rfl, bS (bS (bS hb4 (Nat.le_succ _) _) (Nat.le_succ _) _) (Nat.le_succ _) _⟩
theorem between2024_c (w : World) : Calls Tryz.prog 105 #[.agg #[.int .i64 2024, .int .i64 4, .int .i64 6], .agg #[.int .i64 2025, .int .i64 4, .int .i64 6]] w fun e w' => e = .returned (.tuple #[.int .i64 365, .int .i64 0]) ∧ Below w.heap.size w w' := by
 have x := (Blk.mk w 152 #[.int .i64 2024, .int .i64 4, .int .i64 6]).alloc (.cells #[.int .i64 2025, .int .i64 4, .int .i64 6] 152)
 have y := Blk.mk (w.alloc (.cells #[.int .i64 2024, .int .i64 4, .int .i64 6] 152)) 152 #[.int .i64 2025, .int .i64 4, .int .i64 6]
 rw [World.size_alloc] at y
 have hb0 := bA (bz1 w (.cells #[.int .i64 2024, .int .i64 4, .int .i64 6] 152)) (.cells #[.int .i64 2025, .int .i64 4, .int .i64 6] 152)
 go_enter Tryz.func105, Tryz.ntmps105
 go_wp2_with fail
 refine (number2024_4_c _).mono ?_
 rintro e w1 ⟨rfl, hb1⟩
 have hb2 := bT hb0 hb1
 obtain ⟨b0, b1, b2, b3, b4, b5⟩ := (y.t hb1).a3
 go_wp2_with fail
 refine (number2025_4_c _).mono ?_
 rintro e w2 ⟨rfl, hb3⟩
 go_wp2_with fail
 go_ret2
 exact ⟨rfl, bT hb2 hb3⟩
def nIz (f : Int) : Int := if f = 1 then 52 else if f = 2 then 26 else if f = 3 then 13 else if f = 4 then 12 else 0
theorem nominal_c (f : Int) (w : World) : Calls Tryz.prog 101 #[.int .i64 f] w fun e w' => e = .returned (.int .i64 (nIz f)) ∧ w = w' := by
 by_cases h : f = 1 ∨ f = 2 ∨ f = 3 ∨ f = 4
 ·
  rcases h with rfl | rfl | rfl | rfl
  all_goals
   go_enter Tryz.func101, Tryz.ntmps101
   go_wp2
   go_ret
   exact ⟨rfl, rfl⟩
 ·
  have h1 : (f == 1) = false := by simp; omega
  have h2 : (f == 2) = false := by simp; omega
  have h3 : (f == 3) = false := by simp; omega
  have h4 : (f == 4) = false := by simp; omega
  have e : Hid (nIz f = 0) := by unfold Hid nIz; rw [if_neg (by omega), if_neg (by omega), if_neg (by omega), if_neg (by omega)]
  clear h
  go_enter Tryz.func101, Tryz.ntmps101
  go_wp2
  go_ret
  exact ⟨ret_int e.out.symm, rfl⟩
theorem Blk.a9 {w : World} {g : Nat} {t : TypeId} {a b c d e f x y z : Value} (h : Blk w g t #[a, b, c, d, e, f, x, y, z]) : w.cell? ⟨g, 0, none⟩ = some a ∧ w.cell? ⟨g, 1, none⟩ = some b ∧ w.cell? ⟨g, 2, none⟩ = some c ∧ w.cell? ⟨g, 3, none⟩ = some d ∧ w.cell? ⟨g, 4, none⟩ = some e ∧ w.cell? ⟨g, 5, none⟩ = some f ∧ w.cell? ⟨g, 6, none⟩ = some x ∧ w.cell? ⟨g, 7, none⟩ = some y ∧ w.cell? ⟨g, 8, none⟩ = some z :=
 ⟨h.cell 0, h.cell 1, h.cell 2, h.cell 3, h.cell 4, h.cell 5, h.cell 6, h.cell 7, h.cell 8⟩
theorem nom_cases (f : Int) (h : nIz f ≠ 0) : f = 1 ∨ f = 2 ∨ f = 3 ∨ f = 4 := by
 unfold nIz at h
 by_cases h1 : f = 1
 ·
  exact Or.inl h1
 by_cases h2 : f = 2
 ·
  exact Or.inr (Or.inl h2)
 by_cases h3 : f = 3
 ·
  exact Or.inr (Or.inr (Or.inl h3))
 by_cases h4 : f = 4
 ·
  exact Or.inr (Or.inr (Or.inr h4))
 ·
  rw [if_neg h1, if_neg h2, if_neg h3, if_neg h4] at h; exact absurd rfl h
def YrAt (w : World) (g : Nat) (f days : Int) : Prop := ∃ a b c d e x y, Blk w g 202 #[.int .i64 f, a, b, c, d, e, x, y, .int .i64 days]
theorem YrAt.t {w w' : World} {g : Nat} {f d : Int} (h : YrAt w g f d) (hb : Below w.heap.size w w') : YrAt w' g f d := by
 obtain ⟨a, b, c, d, e, x, y, h⟩ := h
 exact ⟨a, b, c, d, e, x, y, h.t hb⟩
def NewYr (f days : Int) (w : World) (e : Ending) (w' : World) : Prop := (∃ g, e = .returned (.tuple #[.pointer (some ⟨g, 0, none⟩), .int .i64 0]) ∧ YrAt w' g f days ∧ g < w'.heap.size ∧ w.heap.size ≤ g) ∧ Below w.heap.size w w'
theorem new2024_yes (f : Int) (h : nIz f ≠ 0) (w : World) : Calls prog 68 #[.int .i64 f, .agg #[.int .i64 2024, .int .i64 4, .int .i64 6]] w (NewYr f 365 w) := by
 have K := hid (nominal_c f)
 have hz : (nIz f == 0) = false := by simpa using h
 generalize nIz f = nf at *
 have z := Blk.mk w 152 #[.int .i64 2024, .int .i64 4, .int .i64 6]
 have hb0 := bz1 w (.cells #[.int .i64 2024, .int .i64 4, .int .i64 6] 152)
 obtain ⟨a0, a1, a2, a3, a4, a5⟩ := z.a3
 clear h
 go_enter func68, ntmps68
 go_wp2_with fail
 refine (K.out _).mono ?_
 rintro e w' ⟨rfl, rfl⟩
 go_wp2_with fail
 refine (months2024_c _).mono ?_
 rintro e w1 ⟨rfl, hb1⟩
 have hb2 := bT hb0 hb1
 have z1 := (z.t hb1).alloc (.cells #[.int .i64 2025, .int .i64 4, .int .i64 6] 152)
 have y1 := Blk.mk w1 152 #[.int .i64 2025, .int .i64 4, .int .i64 6]
 have hb3 := bA hb2 (.cells #[.int .i64 2025, .int .i64 4, .int .i64 6] 152)
 obtain ⟨a0, a1, a2, a3, a4, a5⟩ := z1.a3
 go_wp2_with fail
 refine (dadd2025_c _).mono ?_
 rintro e w2 ⟨rfl, hb4⟩
 have hb5 := bT hb3 hb4
 have x2 := Blk.mk w2 152 #[.int .i64 2025, .int .i64 4, .int .i64 5]
 have z2 := (z1.t hb4).alloc (.cells #[.int .i64 2025, .int .i64 4, .int .i64 5] 152)
 have y2 := (y1.t hb4).alloc (.cells #[.int .i64 2025, .int .i64 4, .int .i64 5] 152)
 obtain ⟨a0, a1, a2, a3, a4, a5⟩ := z2.a3
 obtain ⟨c0, c1, c2, c3, c4, c5⟩ := y2.a3
 have hb6 := bA hb5 (.cells #[.int .i64 2025, .int .i64 4, .int .i64 5] 152)
 have yr := Blk.mk (w2.alloc (.cells #[.int .i64 2025, .int .i64 4, .int .i64 5] 152)) 202 #[.int .i64 f, .int .i64 2024, .int .i64 4, .int .i64 6, .int .i64 2025, .int .i64 4, .int .i64 5, .int .i64 0, .int .i64 0]
 rw [World.size_alloc] at yr
 have z3 := z2.alloc (.cells #[.int .i64 f, .int .i64 2024, .int .i64 4, .int .i64 6, .int .i64 2025, .int .i64 4, .int .i64 5, .int .i64 0, .int .i64 0] 202)
 have y3 := y2.alloc (.cells #[.int .i64 f, .int .i64 2024, .int .i64 4, .int .i64 6, .int .i64 2025, .int .i64 4, .int .i64 5, .int .i64 0, .int .i64 0] 202)
 have hb7 := bA hb6 (.cells #[.int .i64 f, .int .i64 2024, .int .i64 4, .int .i64 6, .int .i64 2025, .int .i64 4, .int .i64 5, .int .i64 0, .int .i64 0] 202)
 obtain ⟨p0, p1, p2, p3, p4, p5⟩ := z3.a3
 go_wp2_with fail
 refine (number2024_4_c _).mono ?_
 rintro e w3 ⟨rfl, hb8⟩
 have hb9 := bT hb7 hb8
 have yr2 := yr.t hb8
 have yr2f := yr2.free 7
 have yr2c := yr2.cell 7
 have z4 := z3.t hb8
 have y4 := y3.t hb8
 obtain ⟨a0, a1, a2, a3, a4, a5⟩ := z4.a3
 obtain ⟨c0, c1, c2, c3, c4, c5⟩ := y4.a3
 have yr3 := yr2.put 7 (.int .i64 45386)
 have z5 := z4.far (a := ⟨w2.heap.size + 1, 7, none⟩) (by have := z1.lt; have := hb4.size; simp at *; omega) (.int .i64 45386)
 have y5 := y4.far (a := ⟨w2.heap.size + 1, 7, none⟩) (by have := y1.lt; have := hb4.size; simp at *; omega) (.int .i64 45386)
 obtain ⟨d0, d1, d2, d3, d4, d5⟩ := z5.a3
 obtain ⟨e0, e1, e2, e3, e4, e5⟩ := y5.a3
 have hs2 := hb5.size
 have hb10 := bS hb9 (p := ⟨w2.heap.size + 1, 7, none⟩) (Nat.le_succ_of_le hs2) (.int .i64 45386)
 go_wp2_with fail
 refine (between2024_c _).mono ?_
 rintro e w4 ⟨rfl, hb11⟩
 have hb12 := bT hb10 hb11
 have yr4 : Blk w4 (w2.heap.size + 1) 202 #[.int .i64 f, .int .i64 2024, .int .i64 4, .int .i64 6, .int .i64 2025, .int .i64 4, .int .i64 5, .int .i64 45386, .int .i64 0] := yr3.t hb11
 have yr4f := yr4.free 8
 have yr4c := yr4.cell 8
 have yr5 : Blk (w4.setCell ⟨w2.heap.size + 1, 8, none⟩ (.int .i64 365)) (w2.heap.size + 1) 202 #[.int .i64 f, .int .i64 2024, .int .i64 4, .int .i64 6, .int .i64 2025, .int .i64 4, .int .i64 5, .int .i64 45386, .int .i64 365] := yr4.put 8 (.int .i64 365)
 go_wp2_with fail
 go_ret2
 exact ⟨⟨_, rfl, ⟨_, _, _, _, _, _, _, yr5⟩, yr5.lt, Nat.le_succ_of_le hs2⟩, bS hb12 (p := ⟨w2.heap.size + 1, 8, none⟩) (Nat.le_succ_of_le hs2) _⟩
def lenI (f : Int) : Int := if f = 1 then 7 else if f = 2 then 14 else if f = 3 then 28 else 0
theorem length_c (f : Int) (h : nIz f ≠ 0) (w : World) : Calls prog 110 #[.int .i64 f] w fun e w' => e = .returned (.int .i64 (lenI f)) ∧ w = w' := by
 rcases nom_cases f h with rfl | rfl | rfl | rfl
 all_goals
  go_enter func110, ntmps110
  go_wp2
  go_ret
  exact ⟨rfl, rfl⟩
def cntI (f days : Int) : Int := if f = 1 then (days + 6) / 7 else if f = 2 then (days + 13) / 14 else if f = 3 then (days + 27) / 28 else 12
theorem count_c (f days : Int) (h : nIz f ≠ 0) (hd : 0 ≤ days ∧ days ≤ 366) (g : Nat) (w : World) (hy : YrAt w g f days) : Calls prog 73 #[.pointer (some ⟨g, 0, none⟩)] w fun e w' => e = .returned (.int .i64 (cntI f days)) ∧ w = w' := by
 obtain ⟨a, b, c, d, e, x, y, z⟩ := hy
 obtain ⟨c0, _, _, _, _, _, _, _, c8⟩ := z.a9
 have K := hid (length_c f h)
 have K2 := hid (nominal_c f)
 rcases nom_cases f h with rfl | rfl | rfl | rfl
 ·
  rw [show lenI 1 = 7 from rfl] at K
  clear h
  go_enter func73, ntmps73
  go_wp2_with fail
  refine (K.out _).mono ?_
  rintro e w' ⟨rfl, rfl⟩
  go_wp2_with fail
  go_ret
  exact ⟨ret_int (by simp [cntI]; omega), rfl⟩
 ·
  rw [show lenI 2 = 14 from rfl] at K
  clear h
  go_enter func73, ntmps73
  go_wp2_with fail
  refine (K.out _).mono ?_
  rintro e w' ⟨rfl, rfl⟩
  go_wp2_with fail
  go_ret
  exact ⟨ret_int (by simp [cntI]; omega), rfl⟩
 ·
  rw [show lenI 3 = 28 from rfl] at K
  clear h
  go_enter func73, ntmps73
  go_wp2_with fail
  refine (K.out _).mono ?_
  rintro e w' ⟨rfl, rfl⟩
  go_wp2_with fail
  go_ret
  exact ⟨ret_int (by simp [cntI]; omega), rfl⟩
 ·
  rw [show lenI 4 = 0 from rfl] at K
  rw [show nIz 4 = 12 from rfl] at K2
  clear h
  go_enter func73, ntmps73
  go_wp2_with fail
  refine (K.out _).mono ?_
  rintro e w' ⟨rfl, rfl⟩
  go_wp2_with fail
  refine (K2.out _).mono ?_
  rintro e w' ⟨rfl, rfl⟩
  go_wp2_with fail
  go_ret
  exact ⟨rfl, rfl⟩
theorem ypart_t (f days k : Int) (h : nIz f ≠ 0) (hd : 0 ≤ days ∧ days ≤ 366) (g : Nat) (w : World) (hy : YrAt w g f days) (hk : 1 ≤ k ∧ k ≤ cntI f days) : Calls prog 158 #[.pointer (some ⟨g, 0, none⟩), .int .i64 k] w fun e w' => e = .returned (.tuple #[.int .i64 (min k (nIz f)), .int .i64 (nIz f), .int .i64 0]) ∧ Below w.heap.size w w' := by
 have K := hid (count_c f days h hd g w hy)
 have K2 := hid (nominal_c f)
 obtain ⟨a, b, c, d, e, x, y, z⟩ := hy
 obtain ⟨c0, _, _, _, _, _, _, _, c8⟩ := z.a9
 generalize cntI f days = n at *
 generalize nIz f = nf at *
 have h1 : ¬ k < 1 := by omega
 have h2 : decide (k < 1) = false := by simpa using h1
 have h3 : ¬ n < k := by omega
 have h4 : decide (n < k) = false := by simpa using h3
 clear h
 go_enter func158, ntmps158
 go_wp2_with fail
 refine K.out.mono ?_
 rintro e w' ⟨rfl, rfl⟩
 go_wp2_with fail
 go_quiet ((go_at_call 101; exact Calls.quiet_of_same ((K2.out _).mono fun e w' h => ⟨h.1, h.2.symm⟩)))
 go_wp2_with fail
 go_ret3
 exact ⟨rfl, below_drewN (Below.refl _ _) _⟩
structure St where
 c : Cd
 x : Int
def st0 : St := ⟨⟨0, 0, 0, 0, false⟩, 0⟩
def stC (z : St) : List Value := [.int .i64 z.c.s, .int .i64 z.c.k, .int .i64 z.c.a, .int .i64 z.c.f, .bool z.c.al, .int .i64 z.x]
theorem stC_len (z : St) : (stC z).length = 6 := rfl
abbrev StSl := Rlz stC 6 st0
def dueV (sch : List (List Bd)) (rnd : Int) (c : Cd) (tx n d : Int) : Int := ro9 (exV sch c tx n d) 10000 rnd
def nextE (sch : List (List Bd)) (rnd nom j : Int) (z : St) (tx ah : Int) : Int :=
 if z.c.al = false then exE sch z.c tx (min j nom) nom
 else if exE sch z.c z.x 1 nom ≠ 0 then exE sch z.c z.x 1 nom
 else if mrB ah = true ∧ mrB (dueV sch rnd z.c z.x 1 nom) = true ∧ mrB (ah + dueV sch rnd z.c z.x 1 nom) = true then 0 else 10
def nextV (sch : List (List Bd)) (rnd nom j : Int) (z : St) (tx ah : Int) : Int :=
 if z.c.al = false then dueV sch rnd z.c tx (min j nom) nom else ah + dueV sch rnd z.c z.x 1 nom
def sumX (l : List St) : Nat → Int
 | 0 => 0
 | k + 1 => sumX l k + (l.getD k st0).x
def dueA (sch : List (List Bd)) (rnd nom : Int) (l : List St) : Nat → Int
 | 0 => 0
 | k + 1 => nextV sch rnd nom ((k : Int) + 1) (l.getD k st0) (sumX l k + (l.getD k st0).x) (dueA sch rnd nom l k)
def yE (sch : List (List Bd)) (rnd nom : Int) (l : List St) (k : Nat) : Int :=
 if mrB (sumX l k) = true ∧ mrB (l.getD k st0).x = true ∧ mrB (sumX l k + (l.getD k st0).x) = true then nextE sch rnd nom ((k : Int) + 1) (l.getD k st0) (sumX l k + (l.getD k st0).x) (dueA sch rnd nom l k) else 10
def dueL (sch : List (List Bd)) (rnd nom : Int) (l : List St) (n : Nat) : List Int := (List.range n).map fun k => dueA sch rnd nom l (k + 1)
theorem dueL_snoc (sch : List (List Bd)) (rnd nom : Int) (l : List St) (n : Nat) : dueL sch rnd nom l (n + 1) = dueL sch rnd nom l n ++ [dueA sch rnd nom l (n + 1)] := by
 simp [dueL, List.range_succ]
theorem tnext_e (sch : List (List Bd)) (As Ac Ak : Option Addr) (ns cs nc cc nk ck : Nat) (lim rnd fq days : Int) (hf : nIz fq ≠ 0) (hd : 0 ≤ days ∧ days ≤ 366) (g : Nat) (j s k a f : Int) (al : Bool) (x tx ah : Int) (w : World) (hs : ScSl w As ns sch) (hok : ∀ k, k < ns → bE9 (sch.getD k []) = 0) (hm : modeB rnd = true) (hy : YrAt w g fq days) (hj : 1 ≤ j ∧ j ≤ cntI fq days) (r : Int) (hr : Hid (r = nextE sch rnd (nIz fq) j ⟨⟨s, k, a, f, al⟩, x⟩ tx ah)) (h0 : r ≠ 0) :
  Calls prog 125 #[.agg #[.slice As ns cs, .slice Ac nc cc, .slice Ak nk ck, .int .i64 lim, .int .i64 rnd], .pointer (some ⟨g, 0, none⟩), .int .i64 j, .agg #[.int .i64 s, .int .i64 k, .int .i64 a, .int .i64 f, .bool al, .int .i64 x], .int .i64 tx, .int .i64 ah] w fun e w' => e = .returned (.tuple #[.int .i64 0, .int .i64 r]) ∧ Below w.heap.size w w' := by
 have t : (r != 0) = true := by simpa using h0
 cases al
 ·
  have hb0 := bA (bz1 w (.cells #[.slice As ns cs, .slice Ac nc cc, .slice Ak nk ck, .int .i64 lim, .int .i64 rnd] 26)) (.cells #[.int .i64 s, .int .i64 k, .int .i64 a, .int .i64 f, .bool false, .int .i64 x] 164)
  have z := (Blk.mk w 26 #[.slice As ns cs, .slice Ac nc cc, .slice Ak nk ck, .int .i64 lim, .int .i64 rnd]).alloc (.cells #[.int .i64 s, .int .i64 k, .int .i64 a, .int .i64 f, .bool false, .int .i64 x] 164)
  have y := Blk.mk (w.alloc (.cells #[.slice As ns cs, .slice Ac nc cc, .slice Ak nk ck, .int .i64 lim, .int .i64 rnd] 26)) 164 #[.int .i64 s, .int .i64 k, .int .i64 a, .int .i64 f, .bool false, .int .i64 x]
  rw [World.size_alloc] at y
  have KP := hid (ypart_t fq days j hf hd g _ (hy.t hb0) hj)
  have HS := hid hs
  generalize nIz fq = nf at *
  have hR : r = exE sch ⟨s, k, a, f, false⟩ tx (min j nf) nf := hr.out
  have KD := hid (fun W h => tdue_e sch As Ac Ak ns cs nc cc nk ck lim rnd s k a f false tx (min j nf) nf W h r hR h0)
  clear hs hok hR hr h0 hy hj
  generalize min j nf = mj at *
  go_enter func125, ntmps125
  go_wp2_with fail
  refine KP.out.mono ?_
  rintro e w1 ⟨rfl, hb1⟩
  obtain ⟨p0, p1, p2, p3, p4⟩ := (z.t hb1).all5
  obtain ⟨q0, q1, q2, q3, q4, q5⟩ := (y.t hb1).all6
  go_wp2_with fail
  refine (KD.out _ (HS.out.below (bT hb0 hb1))).mono ?_
  rintro e w2 ⟨rfl, hb2⟩
  go_wp2_with fail
  go_ret2
  exact ⟨rfl, bT (bT hb0 hb1) hb2⟩
 have hb0 := bA (bz1 w (.cells #[.slice As ns cs, .slice Ac nc cc, .slice Ak nk ck, .int .i64 lim, .int .i64 rnd] 26)) (.cells #[.int .i64 s, .int .i64 k, .int .i64 a, .int .i64 f, .bool true, .int .i64 x] 164)
 have z := (Blk.mk w 26 #[.slice As ns cs, .slice Ac nc cc, .slice Ak nk ck, .int .i64 lim, .int .i64 rnd]).alloc (.cells #[.int .i64 s, .int .i64 k, .int .i64 a, .int .i64 f, .bool true, .int .i64 x] 164)
 have y := Blk.mk (w.alloc (.cells #[.slice As ns cs, .slice Ac nc cc, .slice Ak nk ck, .int .i64 lim, .int .i64 rnd] 26)) 164 #[.int .i64 s, .int .i64 k, .int .i64 a, .int .i64 f, .bool true, .int .i64 x]
 rw [World.size_alloc] at y
 have KP := hid (ypart_t fq days j hf hd g _ (hy.t hb0) hj)
 have HS := hid hs
 generalize nIz fq = nf at *
 have hR : r = if exE sch ⟨s, k, a, f, true⟩ x 1 nf ≠ 0 then exE sch ⟨s, k, a, f, true⟩ x 1 nf else if mrB ah = true ∧ mrB (dueV sch rnd ⟨s, k, a, f, true⟩ x 1 nf) = true ∧ mrB (ah + dueV sch rnd ⟨s, k, a, f, true⟩ x 1 nf) = true then 0 else 10 := hr.out
 by_cases h1 : exE sch ⟨s, k, a, f, true⟩ x 1 nf = 0
 case neg =>
  rw [if_pos h1] at hR
  have KD := hid (fun W h => tdue_e sch As Ac Ak ns cs nc cc nk ck lim rnd s k a f true x 1 nf W h r hR h0)
  clear hs hok hR hr h0 h1 hy hj
  generalize min j nf = mj at *
  go_enter func125, ntmps125
  go_wp2_with fail
  refine KP.out.mono ?_
  rintro e w1 ⟨rfl, hb1⟩
  obtain ⟨p0, p1, p2, p3, p4⟩ := (z.t hb1).all5
  obtain ⟨q0, q1, q2, q3, q4, q5⟩ := (y.t hb1).all6
  go_wp2_with fail
  refine (KD.out _ (HS.out.below (bT hb0 hb1))).mono ?_
  rintro e w2 ⟨rfl, hb2⟩
  go_wp2_with fail
  go_ret2
  exact ⟨rfl, bT (bT hb0 hb1) hb2⟩
 rw [if_neg (by simpa using h1)] at hR
 have KD := hid (fun W h => tdue_t sch As Ac Ak ns cs nc cc nk ck lim rnd s k a f true x 1 nf W h hok hm h1)
 have hov : ro9 (exV sch ⟨s, k, a, f, true⟩ x 1 nf) 10000 rnd = dueV sch rnd ⟨s, k, a, f, true⟩ x 1 nf := rfl
 rw [hov] at KD
 generalize dueV sch rnd ⟨s, k, a, f, true⟩ x 1 nf = ov at *
 by_cases h2 : mrB ah = true ∧ mrB ov = true ∧ mrB (ah + ov) = true
 ·
  rw [if_pos h2] at hR; exact absurd hR h0
 rw [if_neg h2] at hR
 subst hR
 have KA := hid (add_f ah ov · h2)
 clear hs hok hr h0 h1 hy hj hov h2
 generalize min j nf = mj at *
 go_enter func125, ntmps125
 go_wp2_with fail
 refine KP.out.mono ?_
 rintro e w1 ⟨rfl, hb1⟩
 obtain ⟨p0, p1, p2, p3, p4⟩ := (z.t hb1).all5
 obtain ⟨q0, q1, q2, q3, q4, q5⟩ := (y.t hb1).all6
 go_wp2_with fail
 refine (KD.out _ (HS.out.below (bT hb0 hb1))).mono ?_
 rintro e w2 ⟨rfl, hb2⟩
 go_wp2_with fail
 refine (KA.out _).mono ?_
 rintro e w3 ⟨rfl, hb3⟩
 go_wp2_with fail
 go_ret2
 exact ⟨rfl, bT (bT (bT hb0 hb1) hb2) hb3⟩
theorem tnext_t (sch : List (List Bd)) (As Ac Ak : Option Addr) (ns cs nc cc nk ck : Nat) (lim rnd fq days : Int) (hf : nIz fq ≠ 0) (hd : 0 ≤ days ∧ days ≤ 366) (g : Nat) (j s k a f : Int) (al : Bool) (x tx ah : Int) (w : World) (hs : ScSl w As ns sch) (hok : ∀ k, k < ns → bE9 (sch.getD k []) = 0) (hm : modeB rnd = true) (hy : YrAt w g fq days) (hj : 1 ≤ j ∧ j ≤ cntI fq days) (hr : nextE sch rnd (nIz fq) j ⟨⟨s, k, a, f, al⟩, x⟩ tx ah = 0) (v : Int) (hv : Hid (v = nextV sch rnd (nIz fq) j ⟨⟨s, k, a, f, al⟩, x⟩ tx ah)) :
  Calls prog 125 #[.agg #[.slice As ns cs, .slice Ac nc cc, .slice Ak nk ck, .int .i64 lim, .int .i64 rnd], .pointer (some ⟨g, 0, none⟩), .int .i64 j, .agg #[.int .i64 s, .int .i64 k, .int .i64 a, .int .i64 f, .bool al, .int .i64 x], .int .i64 tx, .int .i64 ah] w fun e w' => e = .returned (.tuple #[.int .i64 v, .int .i64 0]) ∧ Below w.heap.size w w' := by
 cases al
 ·
  have hb0 := bA (bz1 w (.cells #[.slice As ns cs, .slice Ac nc cc, .slice Ak nk ck, .int .i64 lim, .int .i64 rnd] 26)) (.cells #[.int .i64 s, .int .i64 k, .int .i64 a, .int .i64 f, .bool false, .int .i64 x] 164)
  have z := (Blk.mk w 26 #[.slice As ns cs, .slice Ac nc cc, .slice Ak nk ck, .int .i64 lim, .int .i64 rnd]).alloc (.cells #[.int .i64 s, .int .i64 k, .int .i64 a, .int .i64 f, .bool false, .int .i64 x] 164)
  have y := Blk.mk (w.alloc (.cells #[.slice As ns cs, .slice Ac nc cc, .slice Ak nk ck, .int .i64 lim, .int .i64 rnd] 26)) 164 #[.int .i64 s, .int .i64 k, .int .i64 a, .int .i64 f, .bool false, .int .i64 x]
  rw [World.size_alloc] at y
  have KP := hid (ypart_t fq days j hf hd g _ (hy.t hb0) hj)
  have HS := hid hs
  generalize nIz fq = nf at *
  have hR : exE sch ⟨s, k, a, f, false⟩ tx (min j nf) nf = 0 := hr
  have KD := hid (fun W h => tdue_t sch As Ac Ak ns cs nc cc nk ck lim rnd s k a f false tx (min j nf) nf W h hok hm hR)
  have hV : v = ro9 (exV sch ⟨s, k, a, f, false⟩ tx (min j nf) nf) 10000 rnd := hv.out
  rw [← hV] at KD
  clear hs hok hR hr hV hv hy hj
  generalize min j nf = mj at *
  go_enter func125, ntmps125
  go_wp2_with fail
  refine KP.out.mono ?_
  rintro e w1 ⟨rfl, hb1⟩
  obtain ⟨p0, p1, p2, p3, p4⟩ := (z.t hb1).all5
  obtain ⟨q0, q1, q2, q3, q4, q5⟩ := (y.t hb1).all6
  go_wp2_with fail
  refine (KD.out _ (HS.out.below (bT hb0 hb1))).mono ?_
  rintro e w2 ⟨rfl, hb2⟩
  go_wp2_with fail
  go_ret2
  exact ⟨rfl, bT (bT hb0 hb1) hb2⟩
 have hb0 := bA (bz1 w (.cells #[.slice As ns cs, .slice Ac nc cc, .slice Ak nk ck, .int .i64 lim, .int .i64 rnd] 26)) (.cells #[.int .i64 s, .int .i64 k, .int .i64 a, .int .i64 f, .bool true, .int .i64 x] 164)
 have z := (Blk.mk w 26 #[.slice As ns cs, .slice Ac nc cc, .slice Ak nk ck, .int .i64 lim, .int .i64 rnd]).alloc (.cells #[.int .i64 s, .int .i64 k, .int .i64 a, .int .i64 f, .bool true, .int .i64 x] 164)
 have y := Blk.mk (w.alloc (.cells #[.slice As ns cs, .slice Ac nc cc, .slice Ak nk ck, .int .i64 lim, .int .i64 rnd] 26)) 164 #[.int .i64 s, .int .i64 k, .int .i64 a, .int .i64 f, .bool true, .int .i64 x]
 rw [World.size_alloc] at y
 have KP := hid (ypart_t fq days j hf hd g _ (hy.t hb0) hj)
 have HS := hid hs
 generalize nIz fq = nf at *
 have hR : (if exE sch ⟨s, k, a, f, true⟩ x 1 nf ≠ 0 then exE sch ⟨s, k, a, f, true⟩ x 1 nf else if mrB ah = true ∧ mrB (dueV sch rnd ⟨s, k, a, f, true⟩ x 1 nf) = true ∧ mrB (ah + dueV sch rnd ⟨s, k, a, f, true⟩ x 1 nf) = true then 0 else 10) = 0 := hr
 have hV : v = ah + dueV sch rnd ⟨s, k, a, f, true⟩ x 1 nf := hv.out
 by_cases h1 : exE sch ⟨s, k, a, f, true⟩ x 1 nf = 0
 case neg => rw [if_pos h1] at hR; exact absurd hR h1
 rw [if_neg (by simpa using h1)] at hR
 have KD := hid (fun W h => tdue_t sch As Ac Ak ns cs nc cc nk ck lim rnd s k a f true x 1 nf W h hok hm h1)
 have hov : ro9 (exV sch ⟨s, k, a, f, true⟩ x 1 nf) 10000 rnd = dueV sch rnd ⟨s, k, a, f, true⟩ x 1 nf := rfl
 rw [hov] at KD
 clear hv hr
 generalize dueV sch rnd ⟨s, k, a, f, true⟩ x 1 nf = ov at *
 by_cases h2 : mrB ah = true ∧ mrB ov = true ∧ mrB (ah + ov) = true
 case neg => rw [if_neg h2] at hR; cases hR
 have KA := hid (add_t ah ov · h2.1 h2.2.1 h2.2.2)
 rw [← hV] at KA
 clear hs hok hR h1 hy hj hov h2 hV
 generalize min j nf = mj at *
 go_enter func125, ntmps125
 go_wp2_with fail
 refine KP.out.mono ?_
 rintro e w1 ⟨rfl, hb1⟩
 obtain ⟨p0, p1, p2, p3, p4⟩ := (z.t hb1).all5
 obtain ⟨q0, q1, q2, q3, q4, q5⟩ := (y.t hb1).all6
 go_wp2_with fail
 refine (KD.out _ (HS.out.below (bT hb0 hb1))).mono ?_
 rintro e w2 ⟨rfl, hb2⟩
 go_wp2_with fail
 refine (KA.out _).mono ?_
 rintro e w3 ⟨rfl, hb3⟩
 go_wp2_with fail
 go_ret2
 exact ⟨rfl, bT (bT (bT hb0 hb1) hb2) hb3⟩
def TYearR (sch : List (List Bd)) (rnd nom : Int) (l : List St) (n : Nat) (w : World) (e : Ending) (w' : World) : Prop :=
  (((∀ k, k < n → yE sch rnd nom l k = 0) ∧ ∃ v, e = .returned (.tuple #[v, .int .i64 0]) ∧ OwnI w' w.heap.size v n (dueL sch rnd nom l n)) ∨
   (∃ k, k < n ∧ (∀ j, j < k → yE sch rnd nom l j = 0) ∧ yE sch rnd nom l k ≠ 0 ∧ e = .returned (.tuple #[.slice none 0 0, .int .i64 (yE sch rnd nom l k)]))) ∧ Below w.heap.size w w'
theorem tyear_c (sch : List (List Bd)) (As Ac Ak A : Option Addr) (ns cs nc cc nk ck n c : Nat) (lim rnd fq days : Int) (hf : nIz fq ≠ 0) (hd : 0 ≤ days ∧ days ≤ 366) (g : Nat) (l : List St) (w : World) (hs : ScSl w As ns sch) (hok : ∀ k, k < ns → bE9 (sch.getD k []) = 0) (hm : modeB rnd = true) (hy : YrAt w g fq days) (hl : StSl w A n l) (hn : (n : Int) ≤ cntI fq days) (hn2 : n ≤ 1000) :
  Calls prog 81 #[.agg #[.slice As ns cs, .slice Ac nc cc, .slice Ak nk ck, .int .i64 lim, .int .i64 rnd], .pointer (some ⟨g, 0, none⟩), .slice A n c] w (TYearR sch rnd (nIz fq) l n w) := by
 have hb0 := bz1 w (.cells #[.slice As ns cs, .slice Ac nc cc, .slice Ak nk ck, .int .i64 lim, .int .i64 rnd] 26)
 have z0 := Blk.mk w 26 #[.slice As ns cs, .slice Ac nc cc, .slice Ak nk ck, .int .i64 lim, .int .i64 rnd]
 have KC := hid (count_c fq days hf hd g _ (hy.t hb0))
 have KE := hid (fun j s k a f al x tx ah W h1 h2 h3 r hr h0 => tnext_e sch As Ac Ak ns cs nc cc nk ck lim rnd fq days hf hd g j s k a f al x tx ah W h1 hok hm h2 h3 r hr h0)
 have KT := hid (fun j s k a f al x tx ah W h1 h2 h3 hr v hv => tnext_t sch As Ac Ak ns cs nc cc nk ck lim rnd fq days hf hd g j s k a f al x tx ah W h1 hok hm h2 h3 hr v hv)
 generalize nIz fq = nf at *
 generalize cntI fq days = m at *
 have t : decide (m < (n : Int)) = false := by simpa using hn
 have HS := hid hs
 have HL := hid hl
 have HY := hid hy
 have HN := hid hn
 clear hs hok hy hl hm hf
 go_enter func81, ntmps81
 go_wp2_with fail
 refine KC.out.mono ?_
 rintro e w1 ⟨rfl, rfl⟩
 go_wp2_with fail
 go_loopw [8, 9, 10, 21] (fun v tx du i wr => ∃ k : Nat, k ≤ n ∧ i = .int .i64 k ∧ tx = .int .i64 (sumX l k) ∧ du = .int .i64 (dueA sch rnd nf l k) ∧ Hid (∀ j, j < k → yE sch rnd nf l j = 0) ∧ OwnI wr w.heap.size v k (dueL sch rnd nf l k) ∧ Below w.heap.size w wr ∧ Blk wr w.heap.size 26 #[.slice As ns cs, .slice Ac nc cc, .slice Ak nk ck, .int .i64 lim, .int .i64 rnd]) (fun _ _ _ i _ => n - (intOf i).toNat)
 case atStart => exact ⟨0, Nat.zero_le _, rfl, rfl, rfl, fun j hj => absurd hj (by omega), ⟨rfl, World.ownsRow_nil _ _ _ _⟩, hb0, z0⟩
 case round =>
  obtain ⟨k, hk', rfl, rfl, rfl, hM, ⟨ho1, ho⟩, hbl, z⟩ := hrel
  have HO1 := hid ho1
  clear ho1
  by_cases hk : k < n
  case neg =>
   obtain rfl : k = n := by omega
   have HO := hid ho
   clear ho
   go_wp2_with fail
   go_ret2
   exact ⟨Or.inl ⟨hM.out, _, rfl, HO1.out, HO.out⟩, hbl⟩
  obtain ⟨b, off, rfl, hlt, hat⟩ := (HL.out.below hbl).2.2 (by omega)
  have hc := hat k hk
  have HYE : Hid (yE sch rnd nf l k = if mrB (sumX l k) = true ∧ mrB (l.getD k st0).x = true ∧ mrB (sumX l k + (l.getD k st0).x) = true then nextE sch rnd nf ((k : Int) + 1) (l.getD k st0) (sumX l k + (l.getD k st0).x) (dueA sch rnd nf l k) else 10) := rfl
  have HDA : Hid (dueA sch rnd nf l (k + 1) = nextV sch rnd nf ((k : Int) + 1) (l.getD k st0) (sumX l k + (l.getD k st0).x) (dueA sch rnd nf l k)) := rfl
  have HSX : Hid (sumX l (k + 1) = sumX l k + (l.getD k st0).x) := rfl
  have HDL := hid (dueL_snoc sch rnd nf l k)
  clear hat
  generalize sumX l k = sx at *
  generalize dueA sch rnd nf l k = da at *
  generalize dueL sch rnd nf l k = dl at *
  generalize l.getD k st0 = zz at *
  obtain ⟨⟨s, kd, a, f, al⟩, x⟩ := zz
  obtain ⟨c0, c1, c2, c3, c4, c5⟩ : wr.cell? ⟨b, off + k * 6, none⟩ = some (.int .i64 s) ∧ wr.cell? ⟨b, off + k * 6 + 1, none⟩ = some (.int .i64 kd) ∧ wr.cell? ⟨b, off + k * 6 + 2, none⟩ = some (.int .i64 a) ∧ wr.cell? ⟨b, off + k * 6 + 3, none⟩ = some (.int .i64 f) ∧ wr.cell? ⟨b, off + k * 6 + 4, none⟩ = some (.bool al) ∧ wr.cell? ⟨b, off + k * 6 + 5, none⟩ = some (.int .i64 x) := ⟨hc 0 _ rfl, hc 1 _ rfl, hc 2 _ rfl, hc 3 _ rfl, hc 4 _ rfl, hc 5 _ rfl⟩
  dsimp only at HYE HDA HSX
  have z1 := z.alloc (.cells #[.int .i64 s, .int .i64 kd, .int .i64 a, .int .i64 f, .bool al, .int .i64 x] 164)
  have y1 := Blk.mk wr 164 #[.int .i64 s, .int .i64 kd, .int .i64 a, .int .i64 f, .bool al, .int .i64 x]
  have hb1 := bA hbl (.cells #[.int .i64 s, .int .i64 kd, .int .i64 a, .int .i64 f, .bool al, .int .i64 x] 164)
  have HO := hid (ho.alloc (.cells #[.int .i64 s, .int .i64 kd, .int .i64 a, .int .i64 f, .bool al, .int .i64 x] 164))
  have hsz := hbl.size
  clear ho hc
  by_cases hA : mrB sx = true ∧ mrB x = true ∧ mrB (sx + x) = true
  case neg =>
   have hE : yE sch rnd nf l k = 10 := HYE.out.trans (if_neg hA)
   have KA := hid (add_f sx x · hA)
   have HE := hid hE
   clear hA hE
   go_wp2_with fail
   refine (KA.out _).mono ?_
   rintro e w2 ⟨rfl, hb2⟩
   go_wp2_with fail
   go_ret2
   exact ⟨Or.inr ⟨k, hk, hM.out, by rw [HE.out]; decide, by rw [HE.out]; rfl⟩, bT hb1 hb2⟩
  have HYE2 : Hid (yE sch rnd nf l k = nextE sch rnd nf ((k : Int) + 1) ⟨⟨s, kd, a, f, al⟩, x⟩ (sx + x) da) := HYE.out.trans (if_pos hA)
  have KA := hid (add_t sx x · hA.1 hA.2.1 hA.2.2)
  have hw : IntKind.i64.wrap ((k : Int) + 1) = (k : Int) + 1 := by rw [IntKind.wrap_i64]; omega
  have hj : 1 ≤ (k : Int) + 1 ∧ (k : Int) + 1 ≤ m := by have := HN.out; omega
  clear hA
  by_cases hE : yE sch rnd nf l k = 0
  case neg =>
   have KE1 := hid (fun W h1 h2 => KE.out ((k : Int) + 1) s kd a f al x (sx + x) da W h1 h2 hj _ HYE2 hE)
   have HE := hid hE
   have t2 : (yE sch rnd nf l k != 0) = true := by simpa using hE
   clear hE hj
   go_wp2_with fail
   refine (KA.out _).mono ?_
   rintro e w2 ⟨rfl, hb2⟩
   have hb3 := bT hb1 hb2
   obtain ⟨p0, p1, p2, p3, p4⟩ := (z1.t hb2).all5
   obtain ⟨q0, q1, q2, q3, q4, q5⟩ := (y1.t hb2).all6
   go_wp2_with fail
   refine (KE1.out _ (HS.out.below hb3) (HY.out.t hb3)).mono ?_
   rintro e w3 ⟨rfl, hb4⟩
   go_wp2_with fail
   go_ret2
   exact ⟨Or.inr ⟨k, hk, hM.out, HE.out, rfl⟩, bT hb3 hb4⟩
  have KT1 := hid (fun W h1 h2 => KT.out ((k : Int) + 1) s kd a f al x (sx + x) da W h1 h2 hj (HYE2.out.symm.trans hE) _ HDA)
  have HE := hid hE
  clear hE hj
  go_wp2_with fail
  refine (KA.out _).mono ?_
  rintro e w2 ⟨rfl, hb2⟩
  have hb3 := bT hb1 hb2
  have z2 := z1.t hb2
  obtain ⟨p0, p1, p2, p3, p4⟩ := z2.all5
  obtain ⟨q0, q1, q2, q3, q4, q5⟩ := (y1.t hb2).all6
  go_wp2_with fail
  refine (KT1.out _ (HS.out.below hb3) (HY.out.t hb3)).mono ?_
  rintro e w3 ⟨rfl, hb4⟩
  have z3 := z2.t hb4
  have hb5 := bT hb3 hb4
  have HO2 := hid (oB9 (oB9 HO.out hb2) hb4)
  have hs5 := hb5.size
  generalize hdn : dueA sch rnd nf l (k + 1) = dn at *
  have HDN := hid hdn
  clear hdn
  go_wp2_with (at_builtin; refine wa9 _ rfl _ _ 165 rfl 2 _ 1 8 underlying165 info_i64 rfl (by decide) rfl HO2.out _ rfl (by first | rfl | simp) rfl (by simp [Value.oneCell']) (by omega) (by omega) (by first | omega | (simp; omega)) ?_; intro v' w6 ho' hg)
  go_roundw
  case rel =>
   refine ⟨k + 1, by omega, by go_num, ?_, ?_, fun j hj => ?_, ⟨?_, ?_⟩, bP hb5 HO2.out hg (Nat.le_refl _), z3.grown hg (obz HO2.out z3 (by decide))⟩
   ·
    rw [HSX.out]
   ·
    rw [HDN.out]
   ·
    rcases (by omega : j = k ∨ j < k) with rfl | hj
    ·
     exact HE.out
    ·
     exact hM.out j hj
   ·
    rw [HDL.out]; simp [← HO1.out]
   ·
    rw [HDL.out]; simpa using ho'
  case measure => simp [intOf]; omega
def cd0 : Cd := ⟨0, 0, 0, 0, false⟩
theorem right4 (b off c : Nat) (x y z u : Int) (w : World) (h0 : w.cell? ⟨b, off, none⟩ = some (.int .i64 x)) (h1 : w.cell? ⟨b, off + 1, none⟩ = some (.int .i64 y)) (h2 : w.cell? ⟨b, off + 2, none⟩ = some (.int .i64 z)) (h3 : w.cell? ⟨b, off + 3, none⟩ = some (.int .i64 u)) :
  Calls prog 76 #[.slice (some ⟨b, off, none⟩) 4 c] w fun e w' => e = .returned (.bool (mrB x && (mrB y && (mrB z && mrB u)))) ∧ w = w' := by
 refine (right_any b off c 4 [x, y, z, u] w rfl (by decide) (fun k hk => ?_)).mono fun e w' ⟨he, hw⟩ => ⟨he.trans (by simp), hw⟩
 rcases (by omega : k = 0 ∨ k = 1 ∨ k = 2 ∨ k = 3) with rfl | rfl | rfl | rfl
 ·
  exact h0
 ·
  exact h1
 ·
  exact h2
 ·
  exact h3
theorem hlimit_c (As Ac Ak : Option Addr) (ns cs nc cc nk ck : Nat) (lim rnd cash : Int) (w : World) (hc : cash ≤ 100000000000) (hl : 0 ≤ lim ∧ lim ≤ 10000) :
  Calls prog 128 #[.agg #[.slice As ns cs, .slice Ac nc cc, .slice Ak nk ck, .int .i64 lim, .int .i64 rnd], .int .i64 cash] w fun e w' => e = .returned (.tuple #[.int .i64 (limI lim cash), .int .i64 0]) ∧ Below w.heap.size w w' := by
 have hb0 := bz1 w (.cells #[.slice As ns cs, .slice Ac nc cc, .slice Ak nk ck, .int .i64 lim, .int .i64 rnd] 26)
 have K1 := hid (take_t (max 0 cash) lim 1 · (mr_t (by omega)) (riz.2 hl) (by decide))
 rw [round_down, show max 0 cash * lim / 10000 = limI lim cash from rfl] at K1
 generalize limI lim cash = lv at *
 obtain ⟨l0, l1⟩ := hl
 go_enter func128, ntmps128
 go_wp2_with fail
 refine (K1.out _).mono ?_
 rintro e w1 ⟨rfl, hb1⟩
 go_wp2_with fail
 go_ret2
 exact ⟨rfl, bT hb0 hb1⟩
theorem hpart_c (need limit : Int) (back : Bool) (w : World) : Calls prog 129 #[.int .i64 need, .int .i64 limit, .bool back] w fun e w' => e = .returned (.int .i64 (partI need limit back)) ∧ w = w' := by
 obtain ⟨r, hr⟩ : ∃ r, r = partI need limit back := ⟨_, rfl⟩
 rw [← hr]
 unfold partI at hr
 cases back with
 | true =>
  rw [if_pos rfl] at hr
  have HR := hid hr
  clear hr
  go_enter func129, ntmps129
  go_wp2_with fail
  go_ret
  exact ⟨ret_int HR.out.symm, rfl⟩
 | false =>
  rw [if_neg (by decide)] at hr
  have HR := hid hr
  clear hr
  go_enter func129, ntmps129
  go_wp2_with fail
  go_ret
  exact ⟨ret_int HR.out.symm, rfl⟩
structure CtP where
 x : Ct
 A : Option Addr
 m : Nat
 c : Nat
def ctp0 : CtP := ⟨ct0, none, 0, 0⟩
def ctPC (p : CtP) : List Value := [.string p.x.nm, .int .i64 p.x.base, .slice p.A p.m p.c, .int .i64 p.x.pc, .int .i64 p.x.yc, .int .i64 p.x.rd]
theorem ctPC_len (p : CtP) : (ctPC p).length = 6 := rfl
structure ScP where
 x : List Bd
 A : Option Addr
 m : Nat
 c : Nat
def scp0 : ScP := ⟨[], none, 0, 0⟩
def scPC (p : ScP) : List Value := [.slice p.A p.m p.c]
theorem scPC_len (p : ScP) : (scPC p).length = 1 := rfl
theorem kdC_len (p : Kd) : (kdC p).length = 4 := rfl
/-! ### out of what is read, and back -/
theorem ct_rows {w : World} {A : Option Addr} {n : Nat} {l : List Ct} (h : CtSl w A n l) : ∃ lp : List CtP, lp.map CtP.x = l ∧ Rlz ctPC 6 ctp0 w A n lp ∧ (∀ p ∈ lp, Blz w p.A p.m p.x.bands ∧ p.x.nm.size ≤ 9223372036854775807) := by
 obtain ⟨h1, h2, h3⟩ := h
 rcases Nat.eq_zero_or_pos n with h0 | h0
 ·
  subst h0
  have : l = [] := List.eq_nil_of_length_eq_zero h1.symm
  subst this
  exact ⟨[], rfl, ⟨rfl, by decide, fun h => absurd h (by decide)⟩, fun p hp => by simp at hp⟩
 obtain ⟨b, off, hA, hlt, hat⟩ := h3 h0
 have key : ∀ m, m ≤ n → ∃ lp : List CtP, lp.map CtP.x = l.take m ∧ (∀ k, k < m → RowAt ctPC w b (off + k * 6) (lp.getD k ctp0)) ∧ (∀ p ∈ lp, Blz w p.A p.m p.x.bands ∧ p.x.nm.size ≤ 9223372036854775807) := by
  intro m
  induction m with
  | zero => exact fun _ => ⟨[], by simp, fun k hk => absurd hk (by omega), fun p hp => by simp at hp⟩
  | succ m ih =>
   intro hm
   obtain ⟨lp, e, hr, hb⟩ := ih (by omega)
   obtain ⟨c0, cz, c1, ⟨A', m', c', c2, hl'⟩, c3, c4, c5⟩ := hat m (by omega)
   have hlp : lp.length = m := by
    have := congrArg List.length e
    simp at this; omega
   refine ⟨lp ++ [⟨l.getD m ct0, A', m', c'⟩], ?_, fun k hk => ?_, fun p hp => ?_⟩
   ·
    rw [List.map_append, e, List.take_add_one, List.getElem?_eq_getElem (show m < l.length by omega)]
    simp [List.getD, List.getElem?_eq_getElem (show m < l.length by omega)]
   ·
    rcases (by omega : k < m ∨ k = m) with hk' | rfl
    ·
     have : (lp ++ [(⟨l.getD m ct0, A', m', c'⟩ : CtP)]).getD k ctp0 = lp.getD k ctp0 := by simp [List.getD, List.getElem?_append_left (show k < lp.length by omega)]
     rw [this]; exact hr k hk'
    ·
     have : (lp ++ [(⟨l.getD k ct0, A', m', c'⟩ : CtP)]).getD k ctp0 = ⟨l.getD k ct0, A', m', c'⟩ := by
      generalize l.getD k ct0 = zz
      simp [List.getD, ← hlp]
     rw [this]
     intro i u hu
     have hi : i < 6 := (List.getElem?_eq_some_iff.1 hu).1
     rcases (by omega : i = 0 ∨ i = 1 ∨ i = 2 ∨ i = 3 ∨ i = 4 ∨ i = 5) with rfl | rfl | rfl | rfl | rfl | rfl <;> (injection hu with hu; subst hu; assumption)
   ·
    rcases List.mem_append.1 hp with hp | hp
    ·
     exact hb p hp
    ·
     simp at hp; subst hp; exact ⟨hl', cz⟩
 obtain ⟨lp, e, hr, hb⟩ := key n (Nat.le_refl _)
 have e' : lp.map CtP.x = l := by rw [e, h1, List.take_length]
 have hlp : lp.length = n := by rw [← List.length_map (f := CtP.x), e', h1]
 exact ⟨lp, e', ⟨hlp.symm, h2, fun _ => ⟨b, off, hA, hlt, hr⟩⟩, hb⟩
theorem sc_rows {w : World} {A : Option Addr} {n : Nat} {l : List (List Bd)} (h : ScSl w A n l) : ∃ lp : List ScP, lp.map ScP.x = l ∧ Rlz scPC 1 scp0 w A n lp ∧ (∀ p ∈ lp, Blz w p.A p.m p.x) := by
 obtain ⟨h1, h2, h3⟩ := h
 rcases Nat.eq_zero_or_pos n with h0 | h0
 ·
  subst h0
  have : l = [] := List.eq_nil_of_length_eq_zero h1.symm
  subst this
  exact ⟨[], rfl, ⟨rfl, by decide, fun h => absurd h (by decide)⟩, fun p hp => by simp at hp⟩
 obtain ⟨b, off, hA, hlt, hat⟩ := h3 h0
 have key : ∀ m, m ≤ n → ∃ lp : List ScP, lp.map ScP.x = l.take m ∧ (∀ k, k < m → RowAt scPC w b (off + k * 1) (lp.getD k scp0)) ∧ (∀ p ∈ lp, Blz w p.A p.m p.x) := by
  intro m
  induction m with
  | zero => exact fun _ => ⟨[], by simp, fun k hk => absurd hk (by omega), fun p hp => by simp at hp⟩
  | succ m ih =>
   intro hm
   obtain ⟨lp, e, hr, hb⟩ := ih (by omega)
   obtain ⟨A', m', c', c2, hl'⟩ := hat m (by omega)
   have hlp : lp.length = m := by
    have := congrArg List.length e
    simp at this; omega
   refine ⟨lp ++ [⟨l.getD m [], A', m', c'⟩], ?_, fun k hk => ?_, fun p hp => ?_⟩
   ·
    rw [List.map_append, e, List.take_add_one, List.getElem?_eq_getElem (show m < l.length by omega)]
    simp [List.getD, List.getElem?_eq_getElem (show m < l.length by omega)]
   ·
    rcases (by omega : k < m ∨ k = m) with hk' | rfl
    ·
     have : (lp ++ [(⟨l.getD m [], A', m', c'⟩ : ScP)]).getD k scp0 = lp.getD k scp0 := by simp [List.getD, List.getElem?_append_left (show k < lp.length by omega)]
     rw [this]; exact hr k hk'
    ·
     have : (lp ++ [(⟨l.getD k [], A', m', c'⟩ : ScP)]).getD k scp0 = ⟨l.getD k [], A', m', c'⟩ := by
      generalize l.getD k [] = zz
      simp [List.getD, ← hlp]
     rw [this]
     intro i u hu
     have hi : i < 1 := (List.getElem?_eq_some_iff.1 hu).1
     obtain rfl : i = 0 := by omega
     injection hu with hu; subst hu; exact c2
   ·
    rcases List.mem_append.1 hp with hp | hp
    ·
     exact hb p hp
    ·
     simp at hp; subst hp; exact hl'
 obtain ⟨lp, e, hr, hb⟩ := key n (Nat.le_refl _)
 have e' : lp.map ScP.x = l := by rw [e, h1, List.take_length]
 have hlp : lp.length = n := by rw [← List.length_map (f := ScP.x), e', h1]
 exact ⟨lp, e', ⟨hlp.symm, h2, fun _ => ⟨b, off, hA, hlt, hr⟩⟩, hb⟩
theorem kd_rows {w : World} {A : Option Addr} {n : Nat} {l : List Kd} (h : KdSl w A n l) : Rlz kdC 4 kd0 w A n l ∧ (∀ p ∈ l, p.nm.size ≤ 9223372036854775807) := by
 obtain ⟨h1, h2, h3⟩ := h
 refine ⟨⟨h1, h2, fun h0 => ?_⟩, fun p hp => ?_⟩
 ·
  obtain ⟨b, off, hA, hlt, hat⟩ := h3 h0
  refine ⟨b, off, hA, hlt, fun k hk i u hu => ?_⟩
  obtain ⟨c0, cz, c1, c2, c3⟩ := hat k hk
  have hi : i < 4 := (List.getElem?_eq_some_iff.1 hu).1
  rcases (by omega : i = 0 ∨ i = 1 ∨ i = 2 ∨ i = 3) with rfl | rfl | rfl | rfl <;> (injection hu with hu; subst hu; assumption)
 ·
  obtain ⟨k, hk, rfl⟩ := List.getElem_of_mem hp
  obtain ⟨b, off, hA, hlt, hat⟩ := h3 (by omega)
  obtain ⟨c0, cz, _⟩ := hat k (by omega)
  have : l.getD k kd0 = l[k] := by simp [List.getD, List.getElem?_eq_getElem hk]
  rwa [this] at cz
theorem gez {α : Type} {l : List α} {d : α} {k : Nat} (h : k < l.length) : l.getD k d ∈ l := by
 simp [List.getD, List.getElem?_eq_getElem h]
theorem rows_ct {w : World} {A : Option Addr} {n : Nat} {lp : List CtP} (h : Rlz ctPC 6 ctp0 w A n lp) (hb : ∀ p ∈ lp, Blz w p.A p.m p.x.bands ∧ p.x.nm.size ≤ 9223372036854775807) : CtSl w A n (lp.map CtP.x) := by
 obtain ⟨h1, h2, h3⟩ := h
 refine ⟨by rw [List.length_map]; exact h1, h2, fun h0 => ?_⟩
 obtain ⟨b, off, hA, hlt, hat⟩ := h3 h0
 refine ⟨b, off, hA, hlt, fun k hk => ?_⟩
 have e : (lp.map CtP.x).getD k ct0 = (lp.getD k ctp0).x := by
  have hk' : k < lp.length := by omega
  simp [List.getD, List.getElem?_eq_getElem hk']
 rw [e]
 obtain ⟨hb1, hb2⟩ := hb _ (gez (d := ctp0) (show k < lp.length by omega))
 have hr := hat k hk
 exact ⟨hr 0 _ rfl, hb2, hr 1 _ rfl, ⟨_, _, _, hr 2 _ rfl, hb1⟩, hr 3 _ rfl, hr 4 _ rfl, hr 5 _ rfl⟩
theorem rows_sc {w : World} {A : Option Addr} {n : Nat} {lp : List ScP} (h : Rlz scPC 1 scp0 w A n lp) (hb : ∀ p ∈ lp, Blz w p.A p.m p.x) : ScSl w A n (lp.map ScP.x) := by
 obtain ⟨h1, h2, h3⟩ := h
 refine ⟨by rw [List.length_map]; exact h1, h2, fun h0 => ?_⟩
 obtain ⟨b, off, hA, hlt, hat⟩ := h3 h0
 refine ⟨b, off, hA, hlt, fun k hk => ?_⟩
 have e : (lp.map ScP.x).getD k [] = (lp.getD k scp0).x := by
  have hk' : k < lp.length := by omega
  simp [List.getD, List.getElem?_eq_getElem hk']
 rw [e]
 exact ⟨_, _, _, hat k hk 0 _ rfl, hb _ (gez (d := scp0) (show k < lp.length by omega))⟩
theorem rows_kd {w : World} {A : Option Addr} {n : Nat} {l : List Kd} (h : Rlz kdC 4 kd0 w A n l) (hb : ∀ p ∈ l, p.nm.size ≤ 9223372036854775807) : KdSl w A n l := by
 obtain ⟨h1, h2, h3⟩ := h
 refine ⟨h1, h2, fun h0 => ?_⟩
 obtain ⟨b, off, hA, hlt, hat⟩ := h3 h0
 refine ⟨b, off, hA, hlt, fun k hk => ?_⟩
 have hr := hat k hk
 exact ⟨hr 0 _ rfl, hb _ (gez (d := kd0) (show k < l.length by omega)), hr 1 _ rfl, hr 2 _ rfl, hr 3 _ rfl⟩
theorem ct_one {l : List CtP} : ∀ u ∈ l.flatMap ctPC, u.oneCell' = true := fun u hu => by
 obtain ⟨z, _, hz⟩ := List.mem_flatMap.1 hu
 simp only [ctPC, List.mem_cons, List.not_mem_nil, or_false] at hz
 rcases hz with rfl | rfl | rfl | rfl | rfl | rfl <;> rfl
theorem kd_one {l : List Kd} : ∀ u ∈ l.flatMap kdC, u.oneCell' = true := fun u hu => by
 obtain ⟨z, _, hz⟩ := List.mem_flatMap.1 hu
 simp only [kdC, List.mem_cons, List.not_mem_nil, or_false] at hz
 rcases hz with rfl | rfl | rfl | rfl <;> rfl
theorem bd_one {l : List Bd} : ∀ u ∈ l.flatMap bdC, u.oneCell' = true := fun u hu => by
 obtain ⟨z, _, hz⟩ := List.mem_flatMap.1 hu
 simp only [bdC, List.mem_cons, List.not_mem_nil, or_false] at hz
 rcases hz with rfl | rfl | rfl <;> rfl
theorem band_src {w : World} {A : Option Addr} {n : Nat} {l : List Bd} (h : Blz w A n l) : SrcAt w A n 3 (l.flatMap bdC) := by
 obtain ⟨h1, h2, h3⟩ := h
 have : Rlz bdC 3 bd0 w A n l := ⟨h1, h2, fun h0 => by
  obtain ⟨b, off, hA, hlt, hat⟩ := h3 h0
  refine ⟨b, off, hA, hlt, fun k hk i u hu => ?_⟩
  obtain ⟨c0, c1, c2⟩ := hat k (by omega)
  have hi : i < 3 := (List.getElem?_eq_some_iff.1 hu).1
  rcases (by omega : i = 0 ∨ i = 1 ∨ i = 2) with rfl | rfl | rfl <;> (injection hu with hu; subst hu; assumption)⟩
 exact this.src bdC_len
def GivesV (E : TypeId) (K n : Nat) (news : List Value) (w : World) (e : Ending) (w' : World) : Prop := (∃ v, e = .returned v ∧ w'.ownsRow w.heap.size E K v n news) ∧ Below w.heap.size w w'
theorem info_contrib : (prog.info? 195).map (fun i => (i.zero, i.size, i.bytes)) = some (some (.agg #[.string ⟨#[]⟩, .int .i64 0, .slice none 0 0, .int .i64 0, .int .i64 0, .int .i64 0]), 6, 72) := by kernel_rfl
theorem info_kind : (prog.info? 148).map (fun i => (i.zero, i.size, i.bytes)) = some (some (.agg #[.string ⟨#[]⟩, .int .i64 0, .int .i64 0, .int .i64 0]), 4, 40) := by kernel_rfl
theorem info_bands : (prog.info? 146).map (fun i => (i.zero, i.size, i.bytes)) = some (some (.slice none 0 0), 1, 24) := by kernel_rfl
theorem clone_ct (A : Option Addr) (n c : Nat) (news : List Value) (w : World) (h : SrcAt w A n 6 news) (h1 : ∀ u ∈ news, u.oneCell' = true) (hn : n ≤ 1000000) :
  Calls prog 98 #[.slice A n c] w (GivesV 195 6 n news w) := by
 have hq := fun W => Lib.run_eql_slice_nil (P := prog) W 23 195 A n c 0 0 underlying23
 cases hA : A with
 | none =>
  subst hA
  obtain ⟨h2, h3⟩ := h
  have h0 : n = 0 := by
   rcases Nat.eq_zero_or_pos n with h0 | h0
   ·
    exact h0
   ·
    obtain ⟨b, off, h, _⟩ := h3 h0
    cases h
  subst h0
  have hl : news = [] := List.eq_nil_of_length_eq_zero (by simpa using h2)
  subst hl
  clear h3 h2 h1
  go_enter func98, ntmps98
  go_wp2
  go_ret
  exact ⟨⟨_, rfl, World.ownsRow_nil _ _ _ _⟩, Below.refl _ _⟩
 | some ad =>
  subst hA
  have HS := hid (h.below (bz1 w (.cells #[] 195)))
  have H1 := hid h1
  clear h h1
  have HO := hid (World.ownsRow_lit (e := 195) (size := 6) (base := w.heap.size) w #[] 0 (Nat.le_refl _) (by decide) rfl)
  go_enter func98, ntmps98
  go_wp2_with (at_builtin; refine wn9 _ rfl _ _ 23 rfl 195 _ 6 72 underlying23 info_contrib rfl (by decide) rfl HO.out _ _ _ _ rfl HS.out H1.out (by omega) (by omega) (by simp) ?_; intro v' w1 ho hg)
  go_ret
  refine ⟨⟨_, rfl, ?_⟩, (bz1 _ _).grown hg (by simp) (fun k hk => by injection hk with hk; exact Nat.le_of_eq hk)⟩
  simpa using ho
theorem clone_kd (A : Option Addr) (n c : Nat) (news : List Value) (w : World) (h : SrcAt w A n 4 news) (h1 : ∀ u ∈ news, u.oneCell' = true) (hn : n ≤ 1000000) :
  Calls prog 99 #[.slice A n c] w (GivesV 148 4 n news w) := by
 have hq := fun W => Lib.run_eql_slice_nil (P := prog) W 24 148 A n c 0 0 underlying24
 cases hA : A with
 | none =>
  subst hA
  obtain ⟨h2, h3⟩ := h
  have h0 : n = 0 := by
   rcases Nat.eq_zero_or_pos n with h0 | h0
   ·
    exact h0
   ·
    obtain ⟨b, off, h, _⟩ := h3 h0
    cases h
  subst h0
  have hl : news = [] := List.eq_nil_of_length_eq_zero (by simpa using h2)
  subst hl
  clear h3 h2 h1
  go_enter func99, ntmps99
  go_wp2
  go_ret
  exact ⟨⟨_, rfl, World.ownsRow_nil _ _ _ _⟩, Below.refl _ _⟩
 | some ad =>
  subst hA
  have HS := hid (h.below (bz1 w (.cells #[] 148)))
  have H1 := hid h1
  clear h h1
  have HO := hid (World.ownsRow_lit (e := 148) (size := 4) (base := w.heap.size) w #[] 0 (Nat.le_refl _) (by decide) rfl)
  go_enter func99, ntmps99
  go_wp2_with (at_builtin; refine wn9 _ rfl _ _ 24 rfl 148 _ 4 40 underlying24 info_kind rfl (by decide) rfl HO.out _ _ _ _ rfl HS.out H1.out (by omega) (by omega) (by simp) ?_; intro v' w1 ho hg)
  go_ret
  refine ⟨⟨_, rfl, ?_⟩, (bz1 _ _).grown hg (by simp) (fun k hk => by injection hk with hk; exact Nat.le_of_eq hk)⟩
  simpa using ho
theorem clone_bd (A : Option Addr) (n c : Nat) (news : List Value) (w : World) (h : SrcAt w A n 3 news) (h1 : ∀ u ∈ news, u.oneCell' = true) (hn : n ≤ 1000000) :
  Calls prog 100 #[.slice A n c] w (GivesV 145 3 n news w) := by
 have hq := fun W => Lib.run_eql_slice_nil (P := prog) W 146 145 A n c 0 0 underlying146
 cases hA : A with
 | none =>
  subst hA
  obtain ⟨h2, h3⟩ := h
  have h0 : n = 0 := by
   rcases Nat.eq_zero_or_pos n with h0 | h0
   ·
    exact h0
   ·
    obtain ⟨b, off, h, _⟩ := h3 h0
    cases h
  subst h0
  have hl : news = [] := List.eq_nil_of_length_eq_zero (by simpa using h2)
  subst hl
  clear h3 h2 h1
  go_enter func100, ntmps100
  go_wp2
  go_ret
  exact ⟨⟨_, rfl, World.ownsRow_nil _ _ _ _⟩, Below.refl _ _⟩
 | some ad =>
  subst hA
  have HS := hid (h.below (bz1 w (.cells #[] 145)))
  have H1 := hid h1
  clear h h1
  have HO := hid (World.ownsRow_lit (e := 145) (size := 3) (base := w.heap.size) w #[] 0 (Nat.le_refl _) (by decide) rfl)
  go_enter func100, ntmps100
  go_wp2_with (at_builtin; refine wn9 _ rfl _ _ 146 rfl 145 _ 3 24 underlying146 info_band rfl (by decide) rfl HO.out _ _ _ _ rfl HS.out H1.out (by omega) (by omega) (by simp) ?_; intro v' w1 ho hg)
  go_ret
  refine ⟨⟨_, rfl, ?_⟩, (bz1 _ _).grown hg (by simp) (fun k hk => by injection hk with hk; exact Nat.le_of_eq hk)⟩
  simpa using ho
def chkE (kds : List Kd) (z : El) : Int := if kdE kds z.k ≠ 0 then kdE kds z.k else elE z.a z.u
def kAz (kds : List Kd) (L : List El) (n : Nat) : Int := if 32 < n then 2 else fz9 (fun i => chkE kds (L.getD i el0)) n
theorem echeck_c (kds : List Kd) (As Ac Ak : Option Addr) (ns cs nc cc nk ck : Nat) (lim rnd : Int) (k : ByteArray) (a u : Int) (w : World) (hs : KdSl w Ak nk kds) (re : Int) (he : Hid (re = chkE kds ⟨k, a, u⟩)) :
  Calls prog 107 #[.agg #[.slice As ns cs, .slice Ac nc cc, .slice Ak nk ck, .int .i64 lim, .int .i64 rnd], .agg #[.string k, .int .i64 a, .int .i64 u]] w fun e w' => e = .returned (.int .i64 re) ∧ Below w.heap.size w w' := by
 have hb0 := bA (bz1 w (.cells #[.slice As ns cs, .slice Ac nc cc, .slice Ak nk ck, .int .i64 lim, .int .i64 rnd] 26)) (.cells #[.string k, .int .i64 a, .int .i64 u] 98)
 have yt := (Blk.mk w 26 #[.slice As ns cs, .slice Ac nc cc, .slice Ak nk ck, .int .i64 lim, .int .i64 rnd]).alloc (.cells #[.string k, .int .i64 a, .int .i64 u] 98)
 have y0 := Blk.mk (w.alloc (.cells #[.slice As ns cs, .slice Ac nc cc, .slice Ak nk ck, .int .i64 lim, .int .i64 rnd] 26)) 98 #[.string k, .int .i64 a, .int .i64 u]
 have y : Blk ((w.alloc (.cells #[.slice As ns cs, .slice Ac nc cc, .slice Ak nk ck, .int .i64 lim, .int .i64 rnd] 26)).alloc (.cells #[.string k, .int .i64 a, .int .i64 u] 98)) (w.heap.size + 1) 98 #[.string k, .int .i64 a, .int .i64 u] := by simpa using y0
 have HS := hid (KdSl.below hs hb0)
 have t0 := yt.cell 0
 have t1 := yt.cell 1
 have t2 := yt.cell 2
 have t3 := yt.cell 3
 have t4 := yt.cell 4
 have p0 := y.cell 0
 have HE : Hid (re = if kdE kds k ≠ 0 then kdE kds k else elE a u) := he
 have KK := hid (fun W h => kind_c kds As Ac Ak ns cs nc cc nk ck lim rnd k W h _ _ (hid rfl) (hid rfl))
 have KV := hid (fun W => evalue_c k a u W _ _ rfl rfl)
 have HV : Hid (elE a u = if mrB a = false then 10 else if u < 0 ∨ 100000 < u then 1 else if mrB (ro9 (a * u) 100 4) = true then 0 else 10) := rfl
 generalize kdE kds k = ke at *
 generalize kdX kds k = kx at *
 obtain ⟨xn, xc, xt, xs⟩ := kx
 dsimp only at KK
 clear hs he yt y0
 by_cases h0 : ke = 0
 case neg =>
  have e1 : re = ke := HE.out.trans (if_pos h0)
  have v1 : (ke != 0) = true := by simpa using h0
  subst e1
  clear h0 HE HV
  go_enter func107, ntmps107
  go_wp2_with fail; (refine (KK.out _ (HS.out)).mono ?_); (rintro e w1 ⟨rfl, hb1⟩); have hB1 := bA (bT hb0 hb1) (.cells #[.string xn, .int .i64 xc, .int .i64 xt, .int .i64 xs] 148); have y1 := (y.t hb1).alloc (.cells #[.string xn, .int .i64 xc, .int .i64 xt, .int .i64 xs] 148); have q0 := y1.cell 0; have q1 := y1.cell 1; have q2 := y1.cell 2; clear t0 t1 t2 t3 t4 p0
  go_wp2_with fail
  go_ret
  exact ⟨rfl, hB1⟩
 subst h0
 have HE2 : Hid (re = elE a u) := HE.out.trans (if_neg (by simp))
 generalize elE a u = ee at *
 generalize elV a u = ev at *
 obtain rfl : re = ee := HE2.out
 clear HE HE2
 by_cases h1 : mrB a = true
 case neg =>
  have h1' : mrB a = false := by simpa using h1
  have e1 : re = 10 := HV.out.trans (if_pos h1')
  subst e1
  clear h1 HV KV
  go_enter func107, ntmps107
  go_wp2_with fail; (refine (KK.out _ (HS.out)).mono ?_); (rintro e w1 ⟨rfl, hb1⟩); have hB1 := bA (bT hb0 hb1) (.cells #[.string xn, .int .i64 xc, .int .i64 xt, .int .i64 xs] 148); have y1 := (y.t hb1).alloc (.cells #[.string xn, .int .i64 xc, .int .i64 xt, .int .i64 xs] 148); have q0 := y1.cell 0; have q1 := y1.cell 1; have q2 := y1.cell 2; clear t0 t1 t2 t3 t4 p0
  have hB2 := bA hB1 (.cells #[.int .i64 a] 2)
  go_wp2_with fail
  refine (r1z _ _ _ a _ (by simp [ca9])).mono ?_
  rintro e w2 ⟨rfl, rfl⟩
  go_wp2_with fail
  go_ret
  exact ⟨rfl, hB2⟩
 by_cases h2 : u < 0
 ·
  have e1 : re = 1 := by rw [HV.out, if_neg (by simp [h1]), if_pos (Or.inl h2)]
  have v2 : decide (u < 0) = true := by simpa using h2
  subst e1
  clear h2 HV KV
  go_enter func107, ntmps107
  go_wp2_with fail; (refine (KK.out _ (HS.out)).mono ?_); (rintro e w1 ⟨rfl, hb1⟩); have hB1 := bA (bT hb0 hb1) (.cells #[.string xn, .int .i64 xc, .int .i64 xt, .int .i64 xs] 148); have y1 := (y.t hb1).alloc (.cells #[.string xn, .int .i64 xc, .int .i64 xt, .int .i64 xs] 148); have q0 := y1.cell 0; have q1 := y1.cell 1; have q2 := y1.cell 2; clear t0 t1 t2 t3 t4 p0
  have hB2 := bA hB1 (.cells #[.int .i64 a] 2)
  have y2 := y1.alloc (.cells #[.int .i64 a] 2)
  go_wp2_with fail
  refine (r1z _ _ _ a _ (by simp [ca9])).mono ?_
  rintro e w2 ⟨rfl, rfl⟩
  clear q0 q1 q2
  have q2 := y2.cell 2
  go_wp2_with fail
  go_ret
  exact ⟨rfl, hB2⟩
 have v2 : decide (u < 0) = false := by simpa using h2
 by_cases h3 : 100000 < u
 ·
  have e1 : re = 1 := by rw [HV.out, if_neg (by simp [h1]), if_pos (Or.inr h3)]
  have v3 : decide (100000 < u) = true := by simpa using h3
  subst e1
  clear h2 h3 HV KV
  go_enter func107, ntmps107
  go_wp2_with fail; (refine (KK.out _ (HS.out)).mono ?_); (rintro e w1 ⟨rfl, hb1⟩); have hB1 := bA (bT hb0 hb1) (.cells #[.string xn, .int .i64 xc, .int .i64 xt, .int .i64 xs] 148); have y1 := (y.t hb1).alloc (.cells #[.string xn, .int .i64 xc, .int .i64 xt, .int .i64 xs] 148); have q0 := y1.cell 0; have q1 := y1.cell 1; have q2 := y1.cell 2; clear t0 t1 t2 t3 t4 p0
  have hB2 := bA hB1 (.cells #[.int .i64 a] 2)
  have y2 := y1.alloc (.cells #[.int .i64 a] 2)
  go_wp2_with fail
  refine (r1z _ _ _ a _ (by simp [ca9])).mono ?_
  rintro e w2 ⟨rfl, rfl⟩
  clear q0 q1 q2
  have q2 := y2.cell 2
  go_wp2_with fail
  go_ret
  exact ⟨rfl, hB2⟩
 have v3 : decide (100000 < u) = false := by simpa using h3
 clear h2 h3 HV
 go_enter func107, ntmps107
 go_wp2_with fail; (refine (KK.out _ (HS.out)).mono ?_); (rintro e w1 ⟨rfl, hb1⟩); have hB1 := bA (bT hb0 hb1) (.cells #[.string xn, .int .i64 xc, .int .i64 xt, .int .i64 xs] 148); have y1 := (y.t hb1).alloc (.cells #[.string xn, .int .i64 xc, .int .i64 xt, .int .i64 xs] 148); have q0 := y1.cell 0; have q1 := y1.cell 1; have q2 := y1.cell 2; clear t0 t1 t2 t3 t4 p0
 have hB2 := bA hB1 (.cells #[.int .i64 a] 2)
 have y2 := y1.alloc (.cells #[.int .i64 a] 2)
 go_wp2_with fail
 refine (r1z _ _ _ a _ (by simp [ca9])).mono ?_
 rintro e w2 ⟨rfl, rfl⟩
 clear q0 q1 q2
 have q0 := y2.cell 0
 have q1 := y2.cell 1
 have q2 := y2.cell 2
 go_wp2_with fail
 refine (KV.out _).mono ?_
 rintro e w3 ⟨rfl, hb3⟩
 go_wp2_with fail
 go_ret
 exact ⟨rfl, bT hB2 hb3⟩
theorem eall_c (kds : List Kd) (As Ac Ak : Option Addr) (ns cs nc cc nk ck : Nat) (lim rnd : Int) (A : Option Addr) (n c : Nat) (L : List El) (w : World) (hs : KdSl w Ak nk kds) (hl : ElSl w A n L) (re : Int) (he : Hid (re = kAz kds L n)) :
  Calls prog 70 #[.agg #[.slice As ns cs, .slice Ac nc cc, .slice Ak nk ck, .int .i64 lim, .int .i64 rnd], .slice A n c] w fun e w' => e = .returned (.int .i64 re) ∧ Below w.heap.size w w' := by
 have hb0 := bz1 w (.cells #[.slice As ns cs, .slice Ac nc cc, .slice Ak nk ck, .int .i64 lim, .int .i64 rnd] 26)
 have y := Blk.mk w 26 #[.slice As ns cs, .slice Ac nc cc, .slice Ak nk ck, .int .i64 lim, .int .i64 rnd]
 have HS := hid (KdSl.below hs hb0)
 have HL := hid (Rlz.below hl hb0)
 have hn9 := hl.2.1
 by_cases h32 : 32 < n
 ·
  have e1 : re = 2 := he.out.trans (if_pos h32)
  have v1 : decide ((32 : Int) < (n : Int)) = true := by simp; omega
  subst e1
  clear he hs hl
  go_enter func70, ntmps70
  go_wp2_with fail
  go_ret
  exact ⟨rfl, hb0⟩
 have v1 : decide ((32 : Int) < (n : Int)) = false := by simp; omega
 have HE : Hid (re = fz9 (fun i => chkE kds (L.getD i el0)) n) := he.out.trans (if_neg h32)
 clear he hs hl
 go_enter func70, ntmps70
 go_wp2_with fail
 go_loopw [13] (fun i wr => ∃ k : Nat, k ≤ n ∧ i = .int .i64 k ∧ Hid (fz9 (fun i => chkE kds (L.getD i el0)) k = 0) ∧ Below (w.alloc (.cells #[.slice As ns cs, .slice Ac nc cc, .slice Ak nk ck, .int .i64 lim, .int .i64 rnd] 26)).heap.size (w.alloc (.cells #[.slice As ns cs, .slice Ac nc cc, .slice Ak nk ck, .int .i64 lim, .int .i64 rnd] 26)) wr) (fun i _ => n - (intOf i).toNat)
 case atStart => exact ⟨0, Nat.zero_le _, rfl, rfl, b0 _⟩
 case round =>
  obtain ⟨k, hk', rfl, HA, hbl⟩ := hrel
  have hBl := bT hb0 hbl
  by_cases hk : k < n
  case neg =>
   obtain rfl : k = n := by omega
   obtain rfl : re = 0 := HE.out.trans HA.out
   go_wp2_with fail
   go_ret
   exact ⟨rfl, hBl⟩
  obtain ⟨b, off, rfl, hlt, hat⟩ := (HL.out.below hbl).2.2 (by omega)
  have hc := hat k hk
  have HN : Hid (chkE kds (L.getD k el0) ≠ 0 → re = chkE kds (L.getD k el0)) := fun h => HE.out.trans (fS9 _ k n HA.out h hk)
  have HY : Hid (chkE kds (L.getD k el0) = 0 → fz9 (fun i => chkE kds (L.getD i el0)) (k + 1) = 0) := fun h => ft9 _ k HA.out h
  have KC := hid (fun W h => echeck_c kds As Ac Ak ns cs nc cc nk ck lim rnd (L.getD k el0).k (L.getD k el0).a (L.getD k el0).u W h _ (hid rfl))
  have hcz : chkE kds ⟨(L.getD k el0).k, (L.getD k el0).a, (L.getD k el0).u⟩ = chkE kds (L.getD k el0) := rfl
  rw [hcz] at KC
  clear hcz
  generalize chkE kds (L.getD k el0) = ce at *
  generalize L.getD k el0 = zz at *
  obtain ⟨zk, za, zu⟩ := zz
  dsimp only at KC
  obtain ⟨c0, c1, c2⟩ : wr.cell? ⟨b, off + k * 3, none⟩ = some (.string zk) ∧ wr.cell? ⟨b, off + k * 3 + 1, none⟩ = some (.int .i64 za) ∧ wr.cell? ⟨b, off + k * 3 + 2, none⟩ = some (.int .i64 zu) := ⟨hc 0 _ rfl, hc 1 _ rfl, hc 2 _ rfl⟩
  have hbx := bA hbl (.cells #[.string zk, .int .i64 za, .int .i64 zu] 98)
  have yt := (y.t hbl).alloc (.cells #[.string zk, .int .i64 za, .int .i64 zu] 98)
  have t0 := yt.cell 0
  have t1 := yt.cell 1
  have t2 := yt.cell 2
  have t3 := yt.cell 3
  have t4 := yt.cell 4
  have HS2 := hid (KdSl.below HS.out hbx)
  clear hc hat
  by_cases h : ce = 0
  ·
   have HY2 := hid (HY.out h)
   subst h
   clear HN HY
   go_wp2_with fail
   refine (KC.out _ HS2.out).mono ?_
   rintro e w2 ⟨rfl, hb2⟩
   go_wp2_with fail
   go_roundw
   case rel => exact ⟨k + 1, by omega, by go_num, HY2.out, bT hbx hb2⟩
   case measure => simp [intOf]; omega
  ·
   obtain rfl : re = ce := HN.out h
   have v2 : (re != 0) = true := by simpa using h
   clear HN HY h HE
   go_wp2_with fail
   refine (KC.out _ HS2.out).mono ?_
   rintro e w2 ⟨rfl, hb2⟩
   go_wp2_with fail
   go_ret
   exact ⟨rfl, bT (bT hb0 hbx) hb2⟩
theorem str_dec (a b : ByteArray) : (a.toList == b.toList) = decide (a = b) := by
 by_cases h : a = b
 ·
  subst h; simp
 ·
  rw [decide_eq_false h, str_neqk h]
theorem getD_get {α : Type} {l : List α} {d : α} {k : Nat} (h : k < l.length) : l.getD k d = l[k] := by simp [List.getD, List.getElem?_eq_getElem h]
def nmX {α : Type} (f : α → ByteArray) (l : List α) (nm : ByteArray) : Int := match l.findIdx? (fun x => decide (f x = nm)) with
 | some k => (k : Int)
 | none => -1
theorem nmX_at {α : Type} {f : α → ByteArray} {d : α} {l : List α} {nm : ByteArray} {k : Nat} (hk : k < l.length) (h1 : f (l.getD k d) = nm) (h2 : ∀ j, j < k → f (l.getD j d) ≠ nm) : nmX f l nm = k := by
 have e : l.findIdx? (fun x => decide (f x = nm)) = some k := by
  rw [List.findIdx?_eq_some_iff_getElem]
  refine ⟨hk, ?_, fun j hj => ?_⟩
  ·
   rw [getD_get hk] at h1
   simpa using h1
  ·
   have := h2 j hj
   rw [getD_get (Nat.lt_trans hj hk)] at this
   simpa using this
 unfold nmX
 rw [e]
theorem nmX_no {α : Type} {f : α → ByteArray} {d : α} {l : List α} {nm : ByteArray} (h2 : ∀ j, j < l.length → f (l.getD j d) ≠ nm) : nmX f l nm = -1 := by
 have e : l.findIdx? (fun x => decide (f x = nm)) = none := by
  rw [List.findIdx?_eq_none_iff]
  intro x hx
  obtain ⟨j, hj, rfl⟩ := List.getElem_of_mem hx
  have := h2 j hj
  rw [getD_get hj] at this
  simpa using this
 unfold nmX
 rw [e]
/-! ### the errors' numbers -/
def ctE (pre : List Ct) (x : Ct) : Int :=
 if nameB x.nm = false then 5 else if 0 ≤ nmX Ct.nm pre x.nm then 4 else if x.base ≠ 1 ∧ x.base ≠ 2 then 1 else if modeB x.rd = false then 1
 else if x.pc < 0 then 1 else if 100000000000 < x.pc then 1 else if x.yc < 0 then 1 else if 100000000000 < x.yc then 1 else bE9 x.bands
def ctsF (l : List Ct) (k : Nat) : Int := ctE (l.take k) (l.getD k ct0)
def ctsE (l : List Ct) : Int := if 6 < l.length then 2 else fz9 (ctsF l) l.length
def kdE1 (pre : List Kd) (x : Kd) : Int :=
 if nameB x.nm = false then 5 else if 0 ≤ nmX Kd.nm pre x.nm then 4 else if decide (-1 ≤ x.c ∧ x.c ≤ 1) = false then 1 else if decide (-1 ≤ x.t ∧ x.t ≤ 1) = false then 1 else if decide (-1 ≤ x.s ∧ x.s ≤ 1) = false then 1 else 0
def kdsF (l : List Kd) (k : Nat) : Int := kdE1 (l.take k) (l.getD k kd0)
def kdsE (l : List Kd) : Int := if l.length = 0 ∨ 12 < l.length then 2 else fz9 (kdsF l) l.length
def scE1 (x : List Bd) : Int := if bE9 x ≠ 0 then bE9 x else if ∃ i, i < x.length ∧ (x.getD i bd0).e ≠ 0 then 50 else 0
def scsF (l : List (List Bd)) (k : Nat) : Int := scE1 (l.getD k [])
def scsE (l : List (List Bd)) : Int := if l.length = 0 ∨ 8 < l.length then 2 else fz9 (scsF l) l.length
def tbE (t : Tb) : Int := if rateB t.lim = false then 50 else if modeB t.rnd = false then 1 else if scsE t.sch ≠ 0 then scsE t.sch else if ctsE t.cts ≠ 0 then ctsE t.cts else kdsE t.kds
theorem xclos_contribs (x : Ct) (B : Nat) (A : Option Addr) (n c : Nat) (nm : ByteArray) (w : World) (hB : B < w.heap.size) (h : w.cell? ⟨B, 0, none⟩ = some (.string nm)) :
  Calls prog 189 #[.agg #[.string x.nm, .int .i64 x.base, .slice A n c, .int .i64 x.pc, .int .i64 x.yc, .int .i64 x.rd], .pointer (some ⟨B, 0, none⟩)] w fun e w' => e = .returned (.bool (decide (x.nm = nm))) ∧ Below w.heap.size w w' := by
 have h' : ∀ o, (w.alloc o).cell? ⟨B, 0, none⟩ = some (.string nm) := fun o => by rw [World.cell?_alloc_lt _ _ _ hB]; exact h
 go_enter func189, ntmps189
 go_wp2
 go_ret
 exact ⟨rb9 (str_dec _ _), bz1 _ _⟩
theorem xclos_kinds (x : Kd) (B : Nat) (nm : ByteArray) (w : World) (hB : B < w.heap.size) (h : w.cell? ⟨B, 0, none⟩ = some (.string nm)) :
  Calls prog 191 #[.agg #[.string x.nm, .int .i64 x.c, .int .i64 x.t, .int .i64 x.s], .pointer (some ⟨B, 0, none⟩)] w fun e w' => e = .returned (.bool (decide (x.nm = nm))) ∧ Below w.heap.size w w' := by
 have h' : ∀ o, (w.alloc o).cell? ⟨B, 0, none⟩ = some (.string nm) := fun o => by rw [World.cell?_alloc_lt _ _ _ hB]; exact h
 go_enter func191, ntmps191
 go_wp2
 go_ret
 exact ⟨rb9 (str_dec _ _), bz1 _ _⟩
theorem xindex_contribs (l : List Ct) (A : Option Addr) (n c B : Nat) (nm : ByteArray) (w : World) (hs : CtSl w A n l) (hB : B < w.heap.size) (h : w.cell? ⟨B, 0, none⟩ = some (.string nm)) (r : Int) (hr : Hid (r = nmX Ct.nm l nm)) :
  Calls prog 202 #[.slice A n c, .func (.func 189) #[] #[.pointer (some ⟨B, 0, none⟩)]] w fun e w' => e = .returned (.int .i64 r) ∧ Below w.heap.size w w' := by
 obtain ⟨hn, hm, hc⟩ := hs
 have HC := hid hc
 have HN := hid hn
 clear hc hn
 go_enter func202, ntmps202
 go_wp2_with fail
 go_loopw [8] (fun i wr => ∃ k : Nat, k ≤ n ∧ i = .int .i64 k ∧ Hid (∀ j, j < k → (l.getD j ct0).nm ≠ nm) ∧ Below w.heap.size w wr) (fun i _ => n - (intOf i).toNat)
 case atStart => exact ⟨0, Nat.zero_le _, rfl, fun j hj => absurd hj (Nat.not_lt_zero _), Below.refl _ _⟩
 case round =>
  obtain ⟨k, hk', rfl, HJ, hbl⟩ := hrel
  by_cases hk : k < n
  case neg =>
   have HE : Hid (r = -1) := hr.out.trans (nmX_no fun j hj => HJ.out j (by have := HN.out; omega))
   go_wp2_with fail
   go_ret
   exact ⟨by rw [HE.out] <;> rfl, hbl⟩
  obtain ⟨b, off, rfl, hlt, hat⟩ := HC.out (by omega)
  obtain ⟨c0, _, c1, ⟨A', n', c', c2, _⟩, c3, c4, c5⟩ := (hat k hk).below hlt hbl
  have hB' : B < wr.heap.size := Nat.lt_of_lt_of_le hB hbl.size
  have hcap := (hbl.cell (p := ⟨B, 0, none⟩) hB).trans h
  have K := hid (xclos_contribs (l.getD k ct0) B A' n' c' nm · )
  have HY : Hid ((l.getD k ct0).nm = nm → r = k) := fun h => hr.out.trans (nmX_at (d := ct0) (by have := HN.out; omega) h HJ.out)
  have HZ : Hid ((l.getD k ct0).nm ≠ nm → ∀ j, j < k + 1 → (l.getD j ct0).nm ≠ nm) := fun h j hj => by
   rcases (by omega : j = k ∨ j < k) with rfl | hj
   ·
    exact h
   ·
    exact HJ.out j hj
  generalize l.getD k ct0 = x at *
  clear hat
  by_cases hy : x.nm = nm
  ·
   have t1 := decide_eq_true hy
   have HE := hid (HY.out hy)
   have K1 := hid (fun w hB h => t1 ▸ K.out w hB h)
   clear hy t1 K
   go_wp2_with fail
   refine (K1.out _ hB' hcap).mono ?_
   rintro e w1 ⟨rfl, hb1⟩
   have b1 : Below w.heap.size w w1 := hbl.trans (hb1.mono hbl.size)
   go_wp2_with fail
   go_ret
   exact ⟨by rw [HE.out] <;> rfl, b1⟩
  ·
   have t1 := decide_eq_false hy
   have HE := hid (HZ.out hy)
   have K1 := hid (fun w hB h => t1 ▸ K.out w hB h)
   clear hy t1 K
   go_wp2_with fail
   refine (K1.out _ hB' hcap).mono ?_
   rintro e w1 ⟨rfl, hb1⟩
   have b1 : Below w.heap.size w w1 := hbl.trans (hb1.mono hbl.size)
   go_wp2_with fail
   go_roundw
   case rel => exact ⟨k + 1, by omega, by go_num, HE.out, b1⟩
   case measure => simp [intOf]; omega
theorem xindex_kinds (l : List Kd) (A : Option Addr) (n c B : Nat) (nm : ByteArray) (w : World) (hs : KdSl w A n l) (hB : B < w.heap.size) (h : w.cell? ⟨B, 0, none⟩ = some (.string nm)) (r : Int) (hr : Hid (r = nmX Kd.nm l nm)) :
  Calls prog 203 #[.slice A n c, .func (.func 191) #[] #[.pointer (some ⟨B, 0, none⟩)]] w fun e w' => e = .returned (.int .i64 r) ∧ Below w.heap.size w w' := by
 obtain ⟨hn, hm, hc⟩ := hs
 have HC := hid hc
 have HN := hid hn
 clear hc hn
 go_enter func203, ntmps203
 go_wp2_with fail
 go_loopw [8] (fun i wr => ∃ k : Nat, k ≤ n ∧ i = .int .i64 k ∧ Hid (∀ j, j < k → (l.getD j kd0).nm ≠ nm) ∧ Below w.heap.size w wr) (fun i _ => n - (intOf i).toNat)
 case atStart => exact ⟨0, Nat.zero_le _, rfl, fun j hj => absurd hj (Nat.not_lt_zero _), Below.refl _ _⟩
 case round =>
  obtain ⟨k, hk', rfl, HJ, hbl⟩ := hrel
  by_cases hk : k < n
  case neg =>
   have HE : Hid (r = -1) := hr.out.trans (nmX_no fun j hj => HJ.out j (by have := HN.out; omega))
   go_wp2_with fail
   go_ret
   exact ⟨by rw [HE.out] <;> rfl, hbl⟩
  obtain ⟨b, off, rfl, hlt, hat⟩ := HC.out (by omega)
  obtain ⟨c0, _, c1, c2, c3⟩ := (hat k hk).below hlt hbl
  have hB' : B < wr.heap.size := Nat.lt_of_lt_of_le hB hbl.size
  have hcap := (hbl.cell (p := ⟨B, 0, none⟩) hB).trans h
  have K := hid (xclos_kinds (l.getD k kd0) B nm · )
  have HY : Hid ((l.getD k kd0).nm = nm → r = k) := fun h => hr.out.trans (nmX_at (d := kd0) (by have := HN.out; omega) h HJ.out)
  have HZ : Hid ((l.getD k kd0).nm ≠ nm → ∀ j, j < k + 1 → (l.getD j kd0).nm ≠ nm) := fun h j hj => by
   rcases (by omega : j = k ∨ j < k) with rfl | hj
   ·
    exact h
   ·
    exact HJ.out j hj
  generalize l.getD k kd0 = x at *
  clear hat
  by_cases hy : x.nm = nm
  ·
   have t1 := decide_eq_true hy
   have HE := hid (HY.out hy)
   have K1 := hid (fun w hB h => t1 ▸ K.out w hB h)
   clear hy t1 K
   go_wp2_with fail
   refine (K1.out _ hB' hcap).mono ?_
   rintro e w1 ⟨rfl, hb1⟩
   have b1 : Below w.heap.size w w1 := hbl.trans (hb1.mono hbl.size)
   go_wp2_with fail
   go_ret
   exact ⟨by rw [HE.out] <;> rfl, b1⟩
  ·
   have t1 := decide_eq_false hy
   have HE := hid (HZ.out hy)
   have K1 := hid (fun w hB h => t1 ▸ K.out w hB h)
   clear hy t1 K
   go_wp2_with fail
   refine (K1.out _ hB' hcap).mono ?_
   rintro e w1 ⟨rfl, hb1⟩
   have b1 : Below w.heap.size w w1 := hbl.trans (hb1.mono hbl.size)
   go_wp2_with fail
   go_roundw
   case rel => exact ⟨k + 1, by omega, by go_num, HE.out, b1⟩
   case measure => simp [intOf]; omega
theorem xcontains_contribs (l : List Ct) (A : Option Addr) (n c B : Nat) (nm : ByteArray) (w : World) (hs : CtSl w A n l) (hB : B < w.heap.size) (h : w.cell? ⟨B, 0, none⟩ = some (.string nm)) :
  Calls prog 188 #[.slice A n c, .func (.func 189) #[] #[.pointer (some ⟨B, 0, none⟩)]] w fun e w' => e = .returned (.bool (decide (0 ≤ nmX Ct.nm l nm))) ∧ Below w.heap.size w w' := by
 obtain ⟨r, hr⟩ : ∃ r, r = nmX Ct.nm l nm := ⟨_, rfl⟩
 have K := hid (xindex_contribs l A n c B nm w hs hB h r hr)
 rw [← hr]
 clear hr
 go_enter func188, ntmps188
 go_wp2_with fail
 refine K.out.mono ?_
 rintro e w1 ⟨rfl, hb1⟩
 go_wp2_with fail
 go_ret
 exact ⟨rb9 (by simp), hb1⟩
theorem xcontains_kinds (l : List Kd) (A : Option Addr) (n c B : Nat) (nm : ByteArray) (w : World) (hs : KdSl w A n l) (hB : B < w.heap.size) (h : w.cell? ⟨B, 0, none⟩ = some (.string nm)) :
  Calls prog 190 #[.slice A n c, .func (.func 191) #[] #[.pointer (some ⟨B, 0, none⟩)]] w fun e w' => e = .returned (.bool (decide (0 ≤ nmX Kd.nm l nm))) ∧ Below w.heap.size w w' := by
 obtain ⟨r, hr⟩ : ∃ r, r = nmX Kd.nm l nm := ⟨_, rfl⟩
 have K := hid (xindex_kinds l A n c B nm w hs hB h r hr)
 rw [← hr]
 clear hr
 go_enter func190, ntmps190
 go_wp2_with fail
 refine K.out.mono ?_
 rintro e w1 ⟨rfl, hb1⟩
 go_wp2_with fail
 go_ret
 exact ⟨rb9 (by simp), hb1⟩
def IdsO (l : List Od) : Prop := l.Pairwise fun a b => a.id ≠ b.id
theorem ids_perm {l m : List Od} (h : l.Perm m) (hd : IdsO l) : IdsO m := h.pairwise hd (fun {a b} h => Ne.symm h)
theorem ids_get {l : List Od} (hd : IdsO l) {i j : Nat} (hi : i < l.length) (hj : j < l.length) (h : (l.getD i od0).id = (l.getD j od0).id) : i = j := by
 rw [gaz l od0 hi, gaz l od0 hj] at h
 have hp := List.pairwise_iff_getElem.1 hd
 rcases Nat.lt_trichotomy i j with h1 | h1 | h1
 ·
  exact absurd h (hp i j hi hj h1)
 ·
  exact h1
 ·
  exact absurd h.symm (hp j i hj hi h1)
theorem at_of_get {l : List Od} (hd : IdsO l) {i : Nat} (hi : i < l.length) {q : Int} (h : (l.getD i od0).id = q) : atO l q = i := by
 have hlt : atO l q < l.length := by
  rcases (by have := atO_le l q; omega : atO l q < l.length ∨ atO l q = l.length) with h1 | h1
  ·
   exact h1
  ·
   exact absurd h (atO_lt (by omega))
 exact ids_get hd hlt hi (by rw [atO_eq hlt, h])
theorem at_mem {l : List Od} {q : Int} : atO l q < l.length ↔ ∃ z ∈ l, z.id = q := by
 constructor
 ·
  intro h
  refine ⟨l.getD (atO l q) od0, ?_, atO_eq h⟩
  rw [gaz l od0 h]
  exact List.getElem_mem h
 ·
  rintro ⟨z, hz, he⟩
  unfold atO
  exact List.findIdx_lt_length_of_exists ⟨z, hz, by simpa using he⟩
/-! ### What orders took -/
theorem tookA_id (l : List Od) (x : Tk) (h : atO l x.o < l.length) : (tookA l x).map Od.id = l.map Od.id := by
 unfold tookA
 rw [List.map_set]
 have : ({ l.getD (atO l x.o) od0 with tk := (l.getD (atO l x.o) od0).tk + x.ta, ar := x.ca } : Od).id = (l.map Od.id)[atO l x.o]'(by simpa using h) := by
  rw [List.getElem_map, ← gaz l od0 h]
 rw [this]
 exact List.set_getElem_self _
theorem ids_map {l m : List Od} (h : l.map Od.id = m.map Od.id) (hd : IdsO l) : IdsO m := by
 have e : ∀ l : List Od, IdsO l ↔ (l.map Od.id).Pairwise (· ≠ ·) := fun l => by unfold IdsO; rw [List.pairwise_map]
 rw [e] at hd ⊢
 rw [← h]; exact hd
theorem tookX_at {l : List Od} {x : Tk} (h : tookX l x = 0) : atO l x.o < l.length := by
 unfold tookX at h
 by_cases h1 : atO l x.o < l.length
 ·
  exact h1
 ·
  rw [if_pos h1] at h; cases h
theorem tookT_id (l : List Od) (ts : List Tk) : ∀ k, (tTz l ts k).2.map Od.id = l.map Od.id := by
 intro k
 induction k with
 | zero => rfl
 | succ k ih =>
  rw [tTz]
  split
  ·
   exact ih
  ·
   split
   ·
    exact ih
   ·
    rename_i h
    rw [tookA_id _ _ (tookX_at (by simpa using h))]
    exact ih
theorem tookL_id (l : List Od) (ts : List Tk) : (tookL l ts).map Od.id = l.map Od.id := by
 unfold tookL
 split
 ·
  exact tookT_id l ts _
 ·
  rfl
/-! ### What is owed -/
/-! ### What is swept -/
theorem addE_zero {l : List Od} {z : Od} (h : addE l z = 0) : orE z.id z.pr z.am z.ra z.«to» = 0 ∧ ¬ atO l z.id < l.length ∧ ¬ l.length = 8 := by
 unfold addE at h
 split at h
 ·
  rename_i h1; exact absurd h h1
 ·
  rename_i h1
  split at h
  ·
   cases h
  ·
   rename_i h2
   split at h
   ·
    cases h
   ·
    rename_i h3
    exact ⟨by simpa using h1, h2, h3⟩
theorem tookL_len (l : List Od) (ts : List Tk) : (tookL l ts).length = l.length := by
 unfold tookL
 split
 ·
  exact tookT_len l ts _
 ·
  rfl
theorem tookL_ids {l : List Od} {ts : List Tk} (h : IdsO l) : IdsO (tookL l ts) := ids_map (tookL_id l ts).symm h
def updO (z : Od) (x : Tk) : Od := { z with tk := z.tk + x.ta, ar := x.ca }
def upTo (l : List Od) (ts : List Tk) (k : Nat) : List Od := (List.range l.length).map fun j => if j < k then updO (l.getD j od0) (ts.getD j tk0) else l.getD j od0
theorem upTo_len (l : List Od) (ts : List Tk) (k : Nat) : (upTo l ts k).length = l.length := by simp [upTo]
theorem upTo_get (l : List Od) (ts : List Tk) (k j : Nat) (hj : j < l.length) : (upTo l ts k).getD j od0 = if j < k then updO (l.getD j od0) (ts.getD j tk0) else l.getD j od0 := by
 unfold upTo
 rw [List.getD, List.getElem?_map, List.getElem?_range hj]; rfl
theorem upTo_zero (l : List Od) (ts : List Tk) : upTo l ts 0 = l := by
 unfold upTo
 refine List.ext_getElem (by simp) fun i h1 h2 => ?_
 simp [List.getD, h2]
theorem upTo_id (l : List Od) (ts : List Tk) (k : Nat) : (upTo l ts k).map Od.id = l.map Od.id := by
 unfold upTo
 rw [List.map_map]
 refine List.ext_getElem (by simp) fun i h1 h2 => ?_
 have h3 : i < l.length := by simpa using h2
 rw [List.getElem_map, List.getElem_range, List.getElem_map]
 simp only [Function.comp]
 split
 ·
  show (l.getD i od0).id = _
  rw [gaz l od0 h3]
 ·
  rw [gaz l od0 h3]
theorem upTo_step (l : List Od) (ts : List Tk) (k : Nat) (hk : k < l.length) : (upTo l ts k).set k (updO (l.getD k od0) (ts.getD k tk0)) = upTo l ts (k + 1) := by
 unfold upTo
 refine List.ext_getElem (by simp) fun i h1 h2 => ?_
 have h3 : i < l.length := by simpa using h2
 rw [List.getElem_set, List.getElem_map, List.getElem_map, List.getElem_range]
 by_cases h : k = i
 ·
  subst h
  rw [if_pos rfl, if_pos (by omega)]
 ·
  rw [if_neg h]
  by_cases h4 : i < k
  ·
   rw [if_pos h4, if_pos (by omega)]
  ·
   rw [if_neg h4, if_neg (by omega)]
def InTurn (l : List Od) (ts : List Tk) : Prop := ts.length = l.length ∧ ∀ k, k < l.length → (ts.getD k tk0).o = (l.getD k od0).id
def takeOK (z : Od) (x : Tk) : Prop := (mrB z.tk = true ∧ mrB x.ta = true ∧ mrB (z.tk + x.ta) = true) ∧ mrB x.ca = true
theorem took_turn {l : List Od} {ts : List Tk} (hd : IdsO l) (h : InTurn l ts) : ∀ k, k ≤ l.length → ((tTz l ts k).1 = 0 → (tTz l ts k).2 = upTo l ts k ∧ ∀ j, j < k → takeOK (l.getD j od0) (ts.getD j tk0)) ∧ ((tTz l ts k).1 ≠ 0 → (tTz l ts k).1 = 10) := by
 intro k
 induction k with
 | zero => exact fun _ => ⟨fun _ => ⟨(upTo_zero l ts).symm, fun j hj => absurd hj (by omega)⟩, fun h => absurd rfl h⟩
 | succ k ih =>
  intro hk
  obtain ⟨ih1, ih2⟩ := ih (by omega)
  rw [tTz]
  by_cases h0 : (tTz l ts k).1 = 0
  ·
   obtain ⟨e, hal⟩ := ih1 h0
   rw [if_neg (fun h => h h0), e]
   have hl : k < l.length := by omega
   have hlu : k < (upTo l ts k).length := by rw [upTo_len]; exact hl
   have hg : (upTo l ts k).getD k od0 = l.getD k od0 := by rw [upTo_get l ts k k hl, if_neg (by omega)]
   have hat : atO (upTo l ts k) (ts.getD k tk0).o = k := at_of_get (ids_map (upTo_id l ts k).symm hd) hlu (by rw [hg, h.2 k hl])
   have hX : tookX (upTo l ts k) (ts.getD k tk0) = if ¬ (mrB (l.getD k od0).tk = true ∧ mrB (ts.getD k tk0).ta = true ∧ mrB ((l.getD k od0).tk + (ts.getD k tk0).ta) = true) then 10 else if mrB (ts.getD k tk0).ca = false then 10 else 0 := by
    unfold tookX
    rw [hat, if_neg (fun h => h hlu), hg]
   have hA : tookA (upTo l ts k) (ts.getD k tk0) = upTo l ts (k + 1) := by
    unfold tookA
    rw [hat, hg]
    exact upTo_step l ts k hl
   by_cases h1 : mrB (l.getD k od0).tk = true ∧ mrB (ts.getD k tk0).ta = true ∧ mrB ((l.getD k od0).tk + (ts.getD k tk0).ta) = true
   ·
    rw [if_neg (fun h => h h1)] at hX
    cases h2 : mrB (ts.getD k tk0).ca with
    | false =>
     rw [if_pos h2] at hX
     rw [hX, if_pos (by decide)]
     exact ⟨fun h => by simp at h, fun _ => rfl⟩
    | true =>
     rw [if_neg (by rw [h2]; decide)] at hX
     rw [hX, if_neg (by decide), hA]
     refine ⟨fun _ => ⟨rfl, fun j hj => ?_⟩, fun h => absurd rfl h⟩
     rcases (by omega : j = k ∨ j < k) with rfl | hj
     ·
      exact ⟨h1, h2⟩
     ·
      exact hal j hj
   ·
    rw [if_pos h1] at hX
    rw [hX, if_pos (by decide)]
    exact ⟨fun h => by simp at h, fun _ => rfl⟩
  ·
   rw [if_pos h0]
   exact ⟨fun h => absurd h h0, ih2⟩
theorem took_turn_t {l : List Od} {ts : List Tk} (hd : IdsO l) (h : InTurn l ts) (he : tookE l ts = 0) : tookL l ts = upTo l ts l.length ∧ ∀ j, j < l.length → takeOK (l.getD j od0) (ts.getD j tk0) := by
 have h1 := (took_turn hd h l.length (Nat.le_refl _)).1
 unfold tookL
 rw [if_pos he]
 unfold tookE at he
 rw [h.1] at he ⊢
 exact h1 he
theorem took_turn_f {l : List Od} {ts : List Tk} (hd : IdsO l) (h : InTurn l ts) (he : tookE l ts ≠ 0) : tookE l ts = 10 ∧ tookL l ts = l := by
 have h1 := (took_turn hd h l.length (Nat.le_refl _)).2
 unfold tookL
 rw [if_neg he]
 refine ⟨?_, rfl⟩
 unfold tookE at he ⊢
 rw [h.1] at he ⊢
 exact h1 he
theorem turn_tk (l : List Od) (net prot : Int) : InTurn l (tkL l net prot l.length) := ⟨tkL_len _ _ _ _, fun k hk => by rw [tkL_get _ _ _ _ _ hk]; rfl⟩
structure GoodA (l : List Od) : Prop where
 len : l.length ≤ 8
 ids : IdsO l
 ok : ∀ z ∈ l, OdOK z
 tot : ∀ z ∈ l, 0 < z.«to» → z.tk + z.ar ≤ z.«to»
theorem GoodA.at {l : List Od} (h : GoodA l) {k : Nat} (hk : k < l.length) : OdOK (l.getD k od0) ∧ (0 < (l.getD k od0).«to» → (l.getD k od0).tk + (l.getD k od0).ar ≤ (l.getD k od0).«to») := by
 rw [gaz l od0 hk]
 exact ⟨h.ok _ (List.getElem_mem hk), h.tot _ (List.getElem_mem hk)⟩
def sVz (l : List Od) (net prot : Int) : Int := if ¬ (mrB net = true ∧ mrB prot = true) then 10 else if prot < 0 then 1 else if (List.range l.length).all (fun k => decide (oneE (l.getD k od0) net = 0)) = true then 0 else 10
theorem serveE_zero {l : List Od} {net prot : Int} (h : sVz l net prot = 0) : (mrB net = true ∧ mrB prot = true) ∧ 0 ≤ prot ∧ ∀ k, k < l.length → oneE (l.getD k od0) net = 0 := by
 unfold sVz at h
 by_cases h1 : mrB net = true ∧ mrB prot = true
 ·
  rw [if_neg (fun h => h h1)] at h
  by_cases h2 : prot < 0
  ·
   rw [if_pos h2] at h; cases h
  ·
   rw [if_neg h2] at h
   by_cases h3 : (List.range l.length).all (fun k => decide (oneE (l.getD k od0) net = 0)) = true
   ·
    refine ⟨h1, by omega, fun k hk => ?_⟩
    have := List.all_eq_true.1 h3 k (List.mem_range.2 hk)
    simpa using this
   ·
    rw [if_neg h3] at h; cases h
 ·
  rw [if_pos h1] at h; cases h
theorem serveE_all {l : List Od} {net prot : Int} (h1 : mrB net = true ∧ mrB prot = true) (h2 : 0 ≤ prot) (h3 : ∀ k, k < l.length → oneE (l.getD k od0) net = 0) : sVz l net prot = 0 := by
 unfold sVz
 rw [if_neg (fun h => h h1), if_neg (by omega), if_pos]
 rw [List.all_eq_true]
 intro k hk
 simpa using h3 k (List.mem_range.1 hk)
theorem serveE_one {l : List Od} {net prot : Int} (h1 : mrB net = true ∧ mrB prot = true) (h2 : 0 ≤ prot) {k : Nat} (hk : k < l.length) (h3 : oneE (l.getD k od0) net ≠ 0) : sVz l net prot = 10 := by
 unfold sVz
 rw [if_neg (fun h => h h1), if_neg (by omega), if_neg]
 intro h
 have := List.all_eq_true.1 h k (List.mem_range.2 hk)
 exact h3 (by simpa using this)
theorem serveE_o {l : List Od} {net prot : Int} (h : ¬ (mrB net = true ∧ mrB prot = true)) : sVz l net prot = 10 := by unfold sVz; rw [if_pos h]
theorem serveE_r {l : List Od} {net prot : Int} (h : mrB net = true ∧ mrB prot = true) (hp : prot < 0) : sVz l net prot = 1 := by unfold sVz; rw [if_neg (fun g => g h), if_pos hp]
structure PerOd (z : Od) (x : Tk) (y : Od) : Prop where
 i : y.id = z.id ∧ y.pr = z.pr ∧ y.am = z.am ∧ y.ra = z.ra ∧ y.«to» = z.«to»
 tk : y.tk = z.tk + x.ta
 ar : y.ar = x.ca
 br : x.br = z.ar
 bd : 0 ≤ y.tk ∧ y.tk ≤ 100000000000
 ba : 0 ≤ y.ar ∧ y.ar ≤ 100000000000
 tot : 0 < y.«to» → y.tk + y.ar ≤ y.«to»
theorem per_od {l : List Od} {net prot : Int} (h : GoodA l) (hs : sVz l net prot = 0) (ht : tookE l (tkL l net prot l.length) = 0) {k : Nat} (hk : k < l.length) :
  PerOd (l.getD k od0) ((tkL l net prot l.length).getD k tk0) ((tookL l (tkL l net prot l.length)).getD k od0) := by
 obtain ⟨e, hal⟩ := took_turn_t h.ids (turn_tk l net prot) ht
 obtain ⟨h1, h2, h3⟩ := serveE_zero hs
 have hn := miz.1 h1.1
 have hal := hal k hk
 obtain ⟨hok, htot⟩ := h.at hk
 have hd := oneD_bd hok hn (h3 k hk)
 have he := oneE_zero (h3 k hk)
 have hv := ordV_bd hok hn he.1
 rw [e, upTo_get _ _ _ _ hk, if_pos hk]
 rw [tkL_get _ _ _ _ _ hk] at hal ⊢
 have hb := miz.1 hal.1.2.2
 have htk := hok.tk
 have har := hok.ar
 have hta : 0 ≤ (tkA l net prot k).ta ∧ (tkA l net prot k).ta ≤ oneD (l.getD k od0) net := by
  show 0 ≤ oneT _ _ _ ∧ oneT _ _ _ ≤ _
  unfold oneT; omega
 have hca : (tkA l net prot k).ca = oneD (l.getD k od0) net - (tkA l net prot k).ta := rfl
 have hcl : ordV (l.getD k od0) net ≤ leftI (l.getD k od0) := by unfold ordV; omega
 refine ⟨⟨rfl, rfl, rfl, rfl, rfl⟩, rfl, rfl, rfl, ?_, ?_, ?_⟩
 ·
  show 0 ≤ (l.getD k od0).tk + (tkA l net prot k).ta ∧ (l.getD k od0).tk + (tkA l net prot k).ta ≤ _
  omega
 ·
  show 0 ≤ (tkA l net prot k).ca ∧ (tkA l net prot k).ca ≤ _
  rw [hca]; omega
 ·
  intro hto
  have hto' : 0 < (l.getD k od0).«to» := hto
  have := htot hto'
  show (l.getD k od0).tk + (tkA l net prot k).ta + (tkA l net prot k).ca ≤ (l.getD k od0).«to»
  have hle : leftI (l.getD k od0) = (l.getD k od0).«to» - (l.getD k od0).tk - (l.getD k od0).ar := by
   unfold leftI
   rw [if_neg (by omega)]; omega
  have hoD : oneD (l.getD k od0) net = ordV (l.getD k od0) net + (l.getD k od0).ar := rfl
  rw [hca]; omega
theorem GoodA.per {l : List Od} {net prot : Int} (h : GoodA l) (hs : sVz l net prot = 0) (ht : tookE l (tkL l net prot l.length) = 0) : GoodA (tookL l (tkL l net prot l.length)) := by
 have hl := tookL_len l (tkL l net prot l.length)
 have key : ∀ z ∈ tookL l (tkL l net prot l.length), OdOK z ∧ (0 < z.«to» → z.tk + z.ar ≤ z.«to») := fun z hz => by
  obtain ⟨k, hk, rfl⟩ := List.getElem_of_mem hz
  have hk' : k < l.length := by rw [hl] at hk; exact hk
  have P := per_od h hs ht hk'
  rw [gaz (tookL l (tkL l net prot l.length)) od0 hk] at P
  obtain ⟨i1, i2, i3, i4, i5⟩ := P.i
  have ho := (h.at hk').1.o
  rw [← i1, ← i2, ← i3, ← i4, ← i5] at ho
  exact ⟨⟨ho, P.bd, P.ba⟩, P.tot⟩
 exact ⟨by rw [hl]; exact h.len, tookL_ids h.ids, fun z hz => (key z hz).1, fun z hz => (key z hz).2⟩
def OwnOd (w : World) (base : Nat) (v : Value) (n : Nat) (l : List Od) : Prop := n = l.length ∧ w.ownsRow base 213 7 v n (l.flatMap odC)
theorem info_state : (prog.info? 213).map (fun i => (i.zero, i.size, i.bytes)) = some (some (.agg #[.int .i64 0, .int .i64 0, .int .i64 0, .int .i64 0, .int .i64 0, .int .i64 0, .int .i64 0]), 7, 56) := by kernel_rfl
theorem od_one {l : List Od} : ∀ u ∈ l.flatMap odC, u.oneCell' = true := fun u hu => by
 obtain ⟨z, _, hz⟩ := List.mem_flatMap.1 hu
 simp only [odC, List.mem_cons, List.not_mem_nil, or_false] at hz
 rcases hz with rfl | rfl | rfl | rfl | rfl | rfl | rfl <;> rfl
theorem OwnOd.sl {w : World} {base : Nat} {v : Value} {n : Nat} {l : List Od} (h : OwnOd w base v n l) : ∃ A c, v = .slice A n c ∧ n ≤ c ∧ OdSl w A n l := by
 obtain ⟨A, c, rfl, hc, hs⟩ := own_sl odC 7 od0 odC_len h.2 h.1 (by decide)
 exact ⟨A, c, rfl, hc, hs⟩
theorem OwnOd.below {w w' : World} {base : Nat} {v : Value} {n : Nat} {l : List Od} (h : OwnOd w base v n l) (hb : Below w.heap.size w w') : OwnOd w' base v n l := ⟨h.1, oB9 h.2 hb⟩
theorem OwnOd.more {w : World} {base base' : Nat} {v : Value} {n : Nat} {l : List Od} (h : OwnOd w base v n l) (hb : base' ≤ base) : OwnOd w base' v n l := ⟨h.1, oM9 h.2 hb⟩
def GivesOd (n : Nat) (l : List Od) (w : World) (e : Ending) (w' : World) : Prop := (∃ v, e = .returned v ∧ OwnOd w' w.heap.size v n l) ∧ Below w.heap.size w w'
theorem sclone_c (A : Option Addr) (n c : Nat) (l : List Od) (w : World) (h : OdSl w A n l) (hn : n ≤ 1000000) :
  Calls prog 136 #[.slice A n c] w (GivesOd n l w) := by
 have hq := fun W => Lib.run_eql_slice_nil (P := prog) W 141 213 A n c 0 0 underlying141
 cases hA : A with
 | none =>
  subst hA
  obtain ⟨h1, h2, h3⟩ := h
  have h0 : n = 0 := by
   rcases Nat.eq_zero_or_pos n with h0 | h0
   ·
    exact h0
   ·
    obtain ⟨b, off, h, _⟩ := h3 h0
    cases h
  subst h0
  have hl : l = [] := List.eq_nil_of_length_eq_zero h1.symm
  subst hl
  clear h3 h1
  go_enter func136, ntmps136
  go_wp2
  go_ret
  exact ⟨⟨_, rfl, rfl, World.ownsRow_nil _ _ _ _⟩, Below.refl _ _⟩
 | some ad =>
  subst hA
  have HS := hid ((h.below (bz1 w (.cells #[] 213))).src odC_len)
  have HN := hid h.1
  clear h
  have HO := hid (World.ownsRow_lit (e := 213) (size := 7) (base := w.heap.size) w #[] 0 (Nat.le_refl _) (by decide) rfl)
  go_enter func136, ntmps136
  go_wp2_with (at_builtin; refine wn9 _ rfl _ _ 141 rfl 213 _ 7 56 underlying141 info_state rfl (by decide) rfl HO.out _ _ _ _ rfl HS.out od_one (by omega) (by omega) (by simp) ?_; intro v' w1 ho hg)
  go_ret
  refine ⟨⟨_, rfl, HN.out, ?_⟩, (bz1 _ _).grown hg (by simp) (fun k hk => by injection hk with hk; exact Nat.le_of_eq hk)⟩
  simpa using ho
theorem osame_g (F : Nat) (hF : F = 113 ∨ F = 119 ∨ F = 171) (id pr am ra tt tk ar : Int) (g : Nat) (q : Int) (W : World) (hz : W.cell? ⟨g, 0, none⟩ = some (.int .i64 q)) (hg : g < W.heap.size) (r : Bool) (hr : (id == q) = r) :
  Calls prog F #[.agg #[.int .i64 id, .int .i64 pr, .int .i64 am, .int .i64 ra, .int .i64 tt, .int .i64 tk, .int .i64 ar], .pointer (some ⟨g, 0, none⟩)] W fun e w' => e = .returned (.bool r) ∧ Below W.heap.size W w' := by
 have hb0 := bz1 W (.cells #[.int .i64 id, .int .i64 pr, .int .i64 am, .int .i64 ra, .int .i64 tt, .int .i64 tk, .int .i64 ar] 213)
 have d0 := (hb0.cell (p := ⟨g, _, none⟩) hg).trans hz
 rcases hF with rfl | rfl | rfl
 all_goals
  (first | go_enter func113, ntmps113 | go_enter func119, ntmps119 | go_enter func171, ntmps171)
  go_wp2_with fail
  go_ret
  exact ⟨rb9 (by simp), hb0⟩
def IdxO (l : List Od) (n : Nat) (q : Int) (W : World) (e : Ending) (w' : World) : Prop :=
 ((atO l q < n ∧ e = .returned (.int .i64 (atO l q : Nat))) ∨ (atO l q = n ∧ e = .returned (.int .i64 (-1)))) ∧ Below W.heap.size W w'
theorem oidx_g (F : Nat) (hF : F = 113 ∨ F = 119 ∨ F = 171) (B : Option Addr) (n c : Nat) (l : List Od) (g : Nat) (q : Int) (W : World) (hs : OdSl W B n l) (hz : W.cell? ⟨g, 0, none⟩ = some (.int .i64 q)) (hg : g < W.heap.size) :
  Calls prog 118 #[.slice B n c, .func (Fn.func F) #[] #[.pointer (some ⟨g, 0, none⟩)]] W (IdxO l n q W) := by
 have KSG := @osame_g F hF
 rcases hF with rfl | rfl | rfl
 all_goals
  have HS := hid hs
  have HZ := hid hz
  have HL := hid hs.1
  have hm9 := hs.2.1
  clear hs hz
  go_enter func118, ntmps118
  go_wp2_with fail
  go_loopw [5, 8] (fun _ i wr => ∃ k : Nat, k ≤ n ∧ i = .int .i64 k ∧ Hid (∀ j, j < k → (l.getD j od0).id ≠ q) ∧ Below W.heap.size W wr) (fun _ i _ => n - (intOf i).toNat)
  case atStart => exact ⟨0, Nat.zero_le _, rfl, fun j hj => absurd hj (by omega), b0 _⟩
  case round =>
   obtain ⟨k, hk', rfl, HN, hbl⟩ := hrel
   by_cases hk : k < n
   case neg =>
    obtain rfl : k = n := by omega
    go_wp2_with fail
    go_ret
    exact ⟨Or.inr ⟨(atO_none (fun j hj => HN.out j (by rw [HL.out]; exact hj))).trans HL.out.symm, rfl⟩, hbl⟩
   obtain ⟨b, off, rfl, hlt, hat⟩ := (HS.out.below hbl).2.2 (by omega)
   have hcl := hat k hk
   have hgz := (hbl.cell (p := ⟨g, _, none⟩) hg).trans HZ.out
   have hsz := hbl.size
   have HNX : Hid ((l.getD k od0).id ≠ q → ∀ j, j < k + 1 → (l.getD j od0).id ≠ q) := fun h j hj => by
    rcases (by omega : j = k ∨ j < k) with rfl | hj
    ·
     exact h
    ·
     exact HN.out j hj
   have HYX : Hid ((l.getD k od0).id = q → atO l q = k) := fun h => atO_of (by rw [← HL.out]; exact hk) h HN.out
   generalize l.getD k od0 = zz at *
   obtain ⟨id, pr, am, ra, tt, tk, ar⟩ := zz
   obtain ⟨c0, c1, c2, c3, c4, c5, c6⟩ : wr.cell? ⟨b, off + k * 7, none⟩ = some (.int .i64 id) ∧ wr.cell? ⟨b, off + k * 7 + 1, none⟩ = some (.int .i64 pr) ∧ wr.cell? ⟨b, off + k * 7 + 2, none⟩ = some (.int .i64 am) ∧ wr.cell? ⟨b, off + k * 7 + 3, none⟩ = some (.int .i64 ra) ∧ wr.cell? ⟨b, off + k * 7 + 4, none⟩ = some (.int .i64 tt) ∧ wr.cell? ⟨b, off + k * 7 + 5, none⟩ = some (.int .i64 tk) ∧ wr.cell? ⟨b, off + k * 7 + 6, none⟩ = some (.int .i64 ar) := ⟨hcl 0 _ rfl, hcl 1 _ rfl, hcl 2 _ rfl, hcl 3 _ rfl, hcl 4 _ rfl, hcl 5 _ rfl, hcl 6 _ rfl⟩
   dsimp only at HNX HYX
   clear hcl hat
   by_cases he : id = q
   ·
    have KS := hid (KSG id pr am ra tt tk ar g q wr hgz (by omega) true (by rw [he]; simp))
    have HE := hid (HYX.out he)
    clear hgz he
    go_wp2_with fail
    refine KS.out.mono ?_
    rintro e w2 ⟨rfl, hb2⟩
    go_wp2_with fail
    go_ret
    exact ⟨Or.inl ⟨by rw [HE.out]; exact hk, by rw [HE.out]; rfl⟩, bT hbl hb2⟩
   ·
    have KS := hid (KSG id pr am ra tt tk ar g q wr hgz (by omega) false (by simpa using he))
    have HN2 := hid (HNX.out he)
    clear hgz he
    go_wp2_with fail
    refine KS.out.mono ?_
    rintro e w2 ⟨rfl, hb2⟩
    go_wp2_with fail
    go_roundw
    case rel => exact ⟨k + 1, by omega, by go_num, HN2.out, bT hbl hb2⟩
    case measure => simp [intOf]; omega
theorem oidx1_c (B : Option Addr) (n c : Nat) (l : List Od) (g : Nat) (q : Int) (W : World) (hs : OdSl W B n l) (hz : W.cell? ⟨g, 0, none⟩ = some (.int .i64 q)) (hg : g < W.heap.size) :
  Calls prog 118 #[.slice B n c, .func (Fn.func 113) #[] #[.pointer (some ⟨g, 0, none⟩)]] W (IdxO l n q W) := oidx_g _ (by decide) B n c l g q W hs hz hg
theorem oidx2_c (B : Option Addr) (n c : Nat) (l : List Od) (g : Nat) (q : Int) (W : World) (hs : OdSl W B n l) (hz : W.cell? ⟨g, 0, none⟩ = some (.int .i64 q)) (hg : g < W.heap.size) :
  Calls prog 118 #[.slice B n c, .func (Fn.func 119) #[] #[.pointer (some ⟨g, 0, none⟩)]] W (IdxO l n q W) := oidx_g _ (by decide) B n c l g q W hs hz hg
theorem oidx3_c (B : Option Addr) (n c : Nat) (l : List Od) (g : Nat) (q : Int) (W : World) (hs : OdSl W B n l) (hz : W.cell? ⟨g, 0, none⟩ = some (.int .i64 q)) (hg : g < W.heap.size) :
  Calls prog 118 #[.slice B n c, .func (Fn.func 171) #[] #[.pointer (some ⟨g, 0, none⟩)]] W (IdxO l n q W) := oidx_g _ (by decide) B n c l g q W hs hz hg
def HasO (l : List Od) (n : Nat) (q : Int) (W : World) (e : Ending) (w' : World) : Prop :=
 ((atO l q < n ∧ e = .returned (.bool true)) ∨ (atO l q = n ∧ e = .returned (.bool false))) ∧ Below W.heap.size W w'
theorem ohas_c (B : Option Addr) (n c : Nat) (l : List Od) (g : Nat) (q : Int) (W : World) (hs : OdSl W B n l) (hz : W.cell? ⟨g, 0, none⟩ = some (.int .i64 q)) (hg : g < W.heap.size) :
  Calls prog 112 #[.slice B n c, .func (Fn.func 113) #[] #[.pointer (some ⟨g, 0, none⟩)]] W (HasO l n q W) := by
 have K := hid (oidx1_c B n c l g q W hs hz hg)
 clear hs hz
 go_enter func112, ntmps112
 go_wp2_with fail
 refine K.out.mono ?_
 rintro e w1 ⟨⟨h1, rfl⟩ | ⟨h1, rfl⟩, hb1⟩
 ·
  have HA := hid h1
  clear h1
  go_wp2_with fail
  go_ret
  exact ⟨Or.inl ⟨HA.out, rfl⟩, hb1⟩
 ·
  have HA := hid h1
  clear h1
  go_wp2_with fail
  go_ret
  exact ⟨Or.inr ⟨HA.out, rfl⟩, hb1⟩
theorem cor_c (g : Nat) (x y : Int) (w : World) (h0 : w.cell? ⟨g, 0, none⟩ = some (.int .i64 x)) (h1 : w.cell? ⟨g, 1, none⟩ = some (.int .i64 y)) (r : Int) (hr : Hid (r = if x ≠ 0 then x else y)) :
  Calls prog 152 #[.slice (some ⟨g, 0, none⟩) 2 2] w fun e w' => e = .returned (.int .i64 r) ∧ w = w' := by
 by_cases hx : x = 0
 ·
  have e : r = y := by rw [hr.out]; simp [hx]
  subst e
  subst hx
  by_cases hy : r = 0
  ·
   subst hy
   clear hr
   go_enter func152, ntmps152
   go_wp2_with fail
   go_loop [8] (fun i => ∃ k : Nat, k ≤ 2 ∧ i = .int .i64 k) (fun i => 2 - (intOf i).toNat)
   case atStart => exact ⟨0, by decide, rfl⟩
   case round =>
    obtain ⟨k, hk, rfl⟩ := hrel
    rcases (by omega : k = 0 ∨ k = 1 ∨ k = 2) with rfl | rfl | rfl
    ·
     go_wp2_with fail
     go_round
     case rel => exact ⟨1, by decide, rfl⟩
     case measure => simp [intOf]
    ·
     go_wp2_with fail
     go_round
     case rel => exact ⟨2, by decide, rfl⟩
     case measure => simp [intOf]
    ·
     go_wp2_with fail
     go_ret
     exact ⟨rfl, rfl⟩
  ·
   have v : (r != 0) = true := by simpa using hy
   clear hr hy
   go_enter func152, ntmps152
   go_wp2_with fail
   go_loop [8] (fun i => ∃ k : Nat, k ≤ 1 ∧ i = .int .i64 k) (fun i => 2 - (intOf i).toNat)
   case atStart => exact ⟨0, by decide, rfl⟩
   case round =>
    obtain ⟨k, hk, rfl⟩ := hrel
    rcases (by omega : k = 0 ∨ k = 1) with rfl | rfl
    ·
     go_wp2_with fail
     go_round
     case rel => exact ⟨1, by decide, rfl⟩
     case measure => simp [intOf]
    ·
     go_wp2_with fail
     go_ret
     exact ⟨rfl, rfl⟩
 ·
  have e : r = x := by rw [hr.out, if_pos hx]
  subst e
  have v : (r != 0) = true := by simpa using hx
  clear hr hx
  go_enter func152, ntmps152
  go_wp2_with fail
  go_loop [8] (fun i => i = .int .i64 0) (fun _ => 0)
  case atStart => rfl
  case round =>
   subst hrel
   go_wp2_with fail
   go_ret
   exact ⟨rfl, rfl⟩
end Go.Proofs.YtiaabmhjkoohmaaGreat
namespace Go.Proofs.YtiaabmhjkoohmaaGreat
set_option maxRecDepth 100000
set_option maxHeartbeats 25600000
set_option linter.unusedVariables false
set_option linter.unusedSimpArgs false
open Go.ChangeShapes Go.WideShapes Go.Deep Go.RowKit
structure Op where
 k : Int
 l : List El
 c : Cd
 id : Int
 pr : Int
 am : Int
 ra : Int
 tt : Int
 n : Int
structure OpP where
 z : Op
 A : Option Addr
 m : Nat
 d : Nat
def op0 : OpP := ⟨⟨0, [], cd0, 0, 0, 0, 0, 0, 0⟩, none, 0, 0⟩
def opC (q : OpP) : List Value := [.int .i64 q.z.k, .slice q.A q.m q.d, .int .i64 q.z.c.s, .int .i64 q.z.c.k, .int .i64 q.z.c.a, .int .i64 q.z.c.f, .bool q.z.c.al, .int .i64 q.z.id, .int .i64 q.z.pr, .int .i64 q.z.am, .int .i64 q.z.ra, .int .i64 q.z.tt, .int .i64 q.z.n]
def OpSl (w : World) (A : Option Addr) (n : Nat) (l : List OpP) : Prop := Rlz opC 13 op0 w A n l ∧ ∀ k, k < l.length → ElSl w (l.getD k op0).A (l.getD k op0).m (l.getD k op0).z.l
theorem OpSl.below {w w' : World} {A : Option Addr} {n : Nat} {l : List OpP} (h : OpSl w A n l) (hb : Below w.heap.size w w') : OpSl w' A n l := ⟨h.1.below hb, fun k hk => (h.2 k hk).below hb⟩
section
variable {H : Type} {enc : TypeId × Value → H} {w : World}
theorem open_opR_v {cs : List Value} {m : Nat} {x : DataW H × List MemPlace} (hl : cs.length = 13) (h : DataW.trod enc Tryz.prog w 0 (fun _ => true) true m 39 cs = some x) :
  ∃ a : OpP, cs = opC a ∧ ElSl w a.A a.m a.z.l := by
 obtain ⟨xs, n, _, _, _, hxs, hf⟩ := DataW.trod_struct Tryz.underlying39 h
 have f0 : DataW.trod enc Tryz.prog w 0 (fun _ => true) true n 3 ((cs.drop 0).take (Tryz.prog.cellsOf 3)) = xs[0]? := hf 0 _ rfl
 have f1 : DataW.trod enc Tryz.prog w 0 (fun _ => true) true n 35 ((cs.drop 1).take (Tryz.prog.cellsOf 35)) = xs[1]? := hf 1 _ rfl
 have f2 : DataW.trod enc Tryz.prog w 0 (fun _ => true) true n 28 ((cs.drop 2).take (Tryz.prog.cellsOf 28)) = xs[2]? := hf 2 _ rfl
 have f3 : DataW.trod enc Tryz.prog w 0 (fun _ => true) true n 37 ((cs.drop 7).take (Tryz.prog.cellsOf 37)) = xs[3]? := hf 3 _ rfl
 have f4 : DataW.trod enc Tryz.prog w 0 (fun _ => true) true n 2 ((cs.drop 12).take (Tryz.prog.cellsOf 2)) = xs[4]? := hf 4 _ rfl
 have hx2 : xs.length = 5 := by simpa using hxs
 rw [List.getElem?_eq_getElem (by omega)] at f0 f1 f2 f3 f4
 match cs, hl with
 | [a0, a1, a2, a3, a4, a5, a6, a7, a8, a9, a10, a11, a12], _ =>
  have g0 : DataW.trod enc Tryz.prog w 0 (fun _ => true) true n 3 [a0] = some (xs[0]'(by omega)) := by
   rw [show Tryz.prog.cellsOf 3 = 1 from by kernel_rfl] at f0
   exact f0
  have g1 : DataW.trod enc Tryz.prog w 0 (fun _ => true) true n 35 [a1] = some (xs[1]'(by omega)) := by
   rw [show Tryz.prog.cellsOf 35 = 1 from by kernel_rfl] at f1
   exact f1
  have g2 : DataW.trod enc Tryz.prog w 0 (fun _ => true) true n 28 [a2, a3, a4, a5, a6] = some (xs[2]'(by omega)) := by
   rw [show Tryz.prog.cellsOf 28 = 5 from by kernel_rfl] at f2
   exact f2
  have g3 : DataW.trod enc Tryz.prog w 0 (fun _ => true) true n 37 [a7, a8, a9, a10, a11] = some (xs[3]'(by omega)) := by
   rw [show Tryz.prog.cellsOf 37 = 5 from by kernel_rfl] at f3
   exact f3
  have g4 : DataW.trod enc Tryz.prog w 0 (fun _ => true) true n 2 [a12] = some (xs[4]'(by omega)) := by
   rw [show Tryz.prog.cellsOf 2 = 1 from by kernel_rfl] at f4
   exact f4
  obtain ⟨q0, rfl, _⟩ := ciz Tryz.underlying3 g0
  obtain ⟨Ae, me, de, le, rfl, he⟩ := open_els_t g1
  obtain ⟨q12, rfl, _⟩ := ciz Tryz.underlying2 g4
  have hf2 := scz Tryz.underlying28 (by kernel_rfl) rfl g2
  have hf3 := scz Tryz.underlying37 (by kernel_rfl) rfl g3
  obtain ⟨u0, n0, y0, e0, t0⟩ := hf2 0 _ rfl
  obtain ⟨u1, n1, y1, e1, t1⟩ := hf2 1 _ rfl
  obtain ⟨u2, n2, y2, e2, t2⟩ := hf2 2 _ rfl
  obtain ⟨u3, n3, y3, e3, t3⟩ := hf2 3 _ rfl
  obtain ⟨u4, n4, y4, e4, t4⟩ := hf2 4 _ rfl
  obtain ⟨v0, m0, z0, d0, s0⟩ := hf3 0 _ rfl
  obtain ⟨v1, m1, z1, d1, s1⟩ := hf3 1 _ rfl
  obtain ⟨v2, m2, z2, d2, s2⟩ := hf3 2 _ rfl
  obtain ⟨v3, m3, z3, d3, s3⟩ := hf3 3 _ rfl
  obtain ⟨v4, m4, z4, d4, s4⟩ := hf3 4 _ rfl
  obtain ⟨c0, rfl, _⟩ := ciz Tryz.underlying3 t0
  obtain ⟨c1, rfl, _⟩ := ciz Tryz.underlying3 t1
  obtain ⟨c2, rfl, _⟩ := ciz Tryz.underlying2 t2
  obtain ⟨c3, rfl, _⟩ := ciz Tryz.underlying3 t3
  obtain ⟨c4, rfl⟩ := cell_bool Tryz.underlying4 t4
  obtain ⟨o0, rfl, _⟩ := ciz Tryz.underlying3 s0
  obtain ⟨o1, rfl, _⟩ := ciz Tryz.underlying3 s1
  obtain ⟨o2, rfl, _⟩ := ciz Tryz.underlying2 s2
  obtain ⟨o3, rfl, _⟩ := ciz Tryz.underlying3 s3
  obtain ⟨o4, rfl, _⟩ := ciz Tryz.underlying2 s4
  simp only [List.getElem?_cons_zero, List.getElem?_cons_succ, Option.some.injEq] at e0 e1 e2 e3 e4 d0 d1 d2 d3 d4
  subst e0; subst d0
  subst e1; subst d1
  subst e2; subst d2
  subst e3; subst d3
  subst e4; subst d4
  exact ⟨⟨⟨q0, le, ⟨c0, c1, c2, c3, c4⟩, o0, o1, o2, o3, o4, q12⟩, Ae, me, de⟩, rfl, he⟩
theorem open_opR_t {b off : Nat} {cs : List Value} {m : Nat} {x : DataW H × List MemPlace} (hl : cs.length = 13) (hc : CellsAt w b off cs) (h : DataW.trod enc Tryz.prog w 0 (fun _ => true) true m 39 cs = some x) :
  ∃ a : OpP, RowAt opC w b off a ∧ ElSl w a.A a.m a.z.l := by
 obtain ⟨a, rfl, he⟩ := open_opR_v hl h
 exact ⟨a, hc, he⟩
theorem open_opsR {r : Reach} {b0 : Nat} {v : Value} {d : DataW H} {p : List MemPlace} (hv : Value.okWide Tryz.prog w r b0 29 v) (h : DataW.Trod enc Tryz.prog w 0 (fun _ => true) true 29 v d p) :
  ∃ A n c l, v = .slice A n c ∧ OpSl w A n l := by
 obtain ⟨m, hm⟩ := trod_slice_arg Tryz.underlying29 hv h
 obtain ⟨A, n, c, l, rfl, _, _, h1, h2, h3⟩ := open_sl (fun w b off a => RowAt opC w b off a ∧ ElSl w a.A a.m a.z.l) 13 op0 (by decide) Tryz.underlying29 (by kernel_rfl) (fun b off cs m x hb hl hc hx => open_opR_t hl hc hx) hm
 refine ⟨A, n, c, l, rfl, ⟨h1, h2, fun h0 => ?_⟩, fun k hk => ?_⟩
 ·
  obtain ⟨b, off, hA, hlt, hat⟩ := h3 h0
  exact ⟨b, off, hA, hlt, fun k hk => (hat k hk).1⟩
 ·
  obtain ⟨b, off, hA, hlt, hat⟩ := h3 (by omega)
  exact (hat k (by omega)).2
end
end Go.Proofs.YtiaabmhjkoohmaaGreat
namespace Go.Proofs.YtiaabmhjkoohmaaGreat
set_option maxRecDepth 100000
set_option maxHeartbeats 25600000
set_option linter.unusedVariables false
set_option linter.unusedSimpArgs false
open Go.RowKit Tryz
open Lib (hid)
theorem small23_c (A : Option Addr) (n d : Nat) (l : List OpP) (w : World) (h : OpSl w A n l) :
  Calls prog 9 #[.slice A n d] w fun e w' => (∃ r : Bool, e = .returned (.bool r) ∧ (r = true → n ≤ 60 ∧ ∀ k, k < n → (l.getD k op0).m ≤ 40)) ∧ Below w.heap.size w w' := by
 have HR := hid h.1
 have hn9 := h.1.2.1
 clear h
 go_enter func9, ntmps9
 go_wp2_with fail
 go_loopw [7] (fun i wr => ∃ k : Nat, k ≤ n ∧ i = .int .i64 k ∧ Hid (∀ j, j < k → (l.getD j op0).m ≤ 40) ∧ Below w.heap.size w wr) (fun i _ => n - (intOf i).toNat)
 case atStart => exact ⟨0, Nat.zero_le _, rfl, fun j hj => absurd hj (by omega), b0 w⟩
 case round =>
  obtain ⟨k, hk', rfl, HM, hbl⟩ := hrel
  by_cases hk : k < n
  case neg =>
   obtain rfl : k = n := by omega
   by_cases h60 : k ≤ 60
   ·
    have q1 : decide ((k : Int) ≤ 60) = true := decide_eq_true (by omega)
    have HH : Hid (k ≤ 60) := h60
    clear h60 hk hk' hn9
    go_wp2_with fail
    exact bodyPost_ret (v := .bool true) (by simp [results, results9, go_sem]) rfl ⟨⟨true, rfl, fun _ => ⟨HH.out, HM.out⟩⟩, hbl⟩
   ·
    have q1 : decide ((k : Int) ≤ 60) = false := decide_eq_false (by omega)
    clear h60 hk hk' hn9
    go_wp2_with fail
    exact bodyPost_ret (v := .bool false) (by simp [results, results9, go_sem]) rfl ⟨⟨false, rfl, fun h => by cases h⟩, hbl⟩
  obtain ⟨b, off, hA, hlt, hat⟩ := (HR.out.below hbl).2.2 (by omega)
  rw [hA]
  have hc := hat k hk
  have HMX : Hid ((l.getD k op0).m ≤ 40 → ∀ j, j < k + 1 → (l.getD j op0).m ≤ 40) := fun h j hj => by
   rcases (by omega : j = k ∨ j < k) with rfl | hj
   ·
    exact h
   ·
    exact HM.out j hj
  clear hat hA
  generalize l.getD k op0 = x at *
  obtain ⟨⟨zk, zl9, ⟨zs, zc, za, zf, zl⟩, zi, zp, zq, zr, zt, zn⟩, zA, zm, zd⟩ := x
  obtain ⟨x0, x1, x2, x3, x4, x5, x6, x7, x8, x9, x10, x11, x12⟩ : wr.cell? ⟨b, off + k * 13, none⟩ = some (.int .i64 zk) ∧ wr.cell? ⟨b, off + k * 13 + 1, none⟩ = some (.slice zA zm zd) ∧ wr.cell? ⟨b, off + k * 13 + 2, none⟩ = some (.int .i64 zs) ∧ wr.cell? ⟨b, off + k * 13 + 3, none⟩ = some (.int .i64 zc) ∧ wr.cell? ⟨b, off + k * 13 + 4, none⟩ = some (.int .i64 za) ∧ wr.cell? ⟨b, off + k * 13 + 5, none⟩ = some (.int .i64 zf) ∧ wr.cell? ⟨b, off + k * 13 + 6, none⟩ = some (.bool zl) ∧ wr.cell? ⟨b, off + k * 13 + 7, none⟩ = some (.int .i64 zi) ∧ wr.cell? ⟨b, off + k * 13 + 8, none⟩ = some (.int .i64 zp) ∧ wr.cell? ⟨b, off + k * 13 + 9, none⟩ = some (.int .i64 zq) ∧ wr.cell? ⟨b, off + k * 13 + 10, none⟩ = some (.int .i64 zr) ∧ wr.cell? ⟨b, off + k * 13 + 11, none⟩ = some (.int .i64 zt) ∧ wr.cell? ⟨b, off + k * 13 + 12, none⟩ = some (.int .i64 zn) := ⟨hc 0 _ rfl, hc 1 _ rfl, hc 2 _ rfl, hc 3 _ rfl, hc 4 _ rfl, hc 5 _ rfl, hc 6 _ rfl, hc 7 _ rfl, hc 8 _ rfl, hc 9 _ rfl, hc 10 _ rfl, hc 11 _ rfl, hc 12 _ rfl⟩
  dsimp only at HMX
  have hb1 := bA hbl (.cells #[.int .i64 zk, .slice zA zm zd, .int .i64 zs, .int .i64 zc, .int .i64 za, .int .i64 zf, .bool zl, .int .i64 zi, .int .i64 zp, .int .i64 zq, .int .i64 zr, .int .i64 zt, .int .i64 zn] 39)
  have y1 := (Blk.mk wr 39 #[.int .i64 zk, .slice zA zm zd, .int .i64 zs, .int .i64 zc, .int .i64 za, .int .i64 zf, .bool zl, .int .i64 zi, .int .i64 zp, .int .i64 zq, .int .i64 zr, .int .i64 zt, .int .i64 zn]).cv 1 (.slice zA zm zd) rfl
  clear hc
  by_cases h40 : zm ≤ 40
  ·
   have q1 : decide (40 < (zm : Int)) = false := decide_eq_false (by omega)
   have q2 : decide ((zm : Int) > 40) = false := decide_eq_false (by omega)
   have HM2 := hid (HMX.out h40)
   clear h40 HMX
   go_wp2_with fail
   go_roundw
   case rel => exact ⟨k + 1, by omega, by go_num, HM2.out, hb1⟩
   case measure => simp [intOf]; omega
  ·
   have q1 : decide (40 < (zm : Int)) = true := decide_eq_true (by omega)
   have q2 : decide ((zm : Int) > 40) = true := decide_eq_true (by omega)
   clear h40 HMX
   go_wp2_with fail
   exact bodyPost_ret (v := .bool false) (by simp [results, results9, go_sem]) rfl ⟨⟨false, rfl, fun h => by cases h⟩, hb1⟩
end Go.Proofs.YtiaabmhjkoohmaaGreat
