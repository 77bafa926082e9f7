/-
  Contracts of functions that the claim reaches, and the plain laws behind them. Conditions as named in each.
-/
import Derived.Test.YtiaabmhjkoohmaaGreatBand
import Derived.Test.YtiaabmhjkoohmaaGreatCode
import Derived.Deep.QuietTactic
import Derived.BigQuiet
import Derived.Lib.MinMax
import Derived.Deep.RegionHeld3
import Derived.Test.YtiaabmhjkoohmaaGreatDate
import Derived.LoopN
import Derived.Test.YtiaabmhjkoohmaaGreatServe
import Derived.Lib.SliceRun
import Derived.Test.YtiaabmhjkoohmaaGreatBookP
namespace Go.Proofs.YtiaabmhjkoohmaaGreat
set_option linter.unusedVariables false
set_option linter.unusedSimpArgs false
open Go.RowKit
structure Ct where
 nm : ByteArray
 base : Int
 bands : List Bd
 pc : Int
 yc : Int
 rd : Int
def ct0 : Ct := ⟨ByteArray.empty, 0, [], 0, 0, 0⟩
structure Kd where
 nm : ByteArray
 c : Int
 t : Int
 s : Int
def kd0 : Kd := ⟨ByteArray.empty, 0, 0, 0⟩
structure Tb where
 sch : List (List Bd)
 cts : List Ct
 kds : List Kd
 lim : Int
 rnd : Int
def CtAt (w : World) (b off : Nat) (x : Ct) : Prop :=
 w.cell? ⟨b, off, none⟩ = some (.string x.nm) ∧ x.nm.size ≤ 9223372036854775807 ∧ w.cell? ⟨b, off + 1, none⟩ = some (.int .i64 x.base) ∧
 (∃ A n c, w.cell? ⟨b, off + 2, none⟩ = some (.slice A n c) ∧ BandSl w A n x.bands) ∧
 w.cell? ⟨b, off + 3, none⟩ = some (.int .i64 x.pc) ∧ w.cell? ⟨b, off + 4, none⟩ = some (.int .i64 x.yc) ∧ w.cell? ⟨b, off + 5, none⟩ = some (.int .i64 x.rd)
def KdAt (w : World) (b off : Nat) (x : Kd) : Prop :=
 w.cell? ⟨b, off, none⟩ = some (.string x.nm) ∧ x.nm.size ≤ 9223372036854775807 ∧ w.cell? ⟨b, off + 1, none⟩ = some (.int .i64 x.c) ∧ w.cell? ⟨b, off + 2, none⟩ = some (.int .i64 x.t) ∧ w.cell? ⟨b, off + 3, none⟩ = some (.int .i64 x.s)
def ScAt (w : World) (b off : Nat) (x : List Bd) : Prop := ∃ A n c, w.cell? ⟨b, off, none⟩ = some (.slice A n c) ∧ BandSl w A n x
def CtSl := SlOf CtAt 6 ct0
def KdSl := SlOf KdAt 4 kd0
def ScSl := SlOf ScAt 1 []
theorem CtAt.below {w w' : World} {b off : Nat} {x : Ct} (h : CtAt w b off x) (hlt : b < w.heap.size) (hb : Below w.heap.size w w') : CtAt w' b off x := by
 obtain ⟨h0, hs, h1, ⟨A, n, c, h2, h2'⟩, h3, h4, h5⟩ := h
 have e : ∀ o, w'.cell? ⟨b, o, none⟩ = w.cell? ⟨b, o, none⟩ := fun o => hb.cell (p := ⟨b, o, none⟩) hlt
 exact ⟨(e _).trans h0, hs, (e _).trans h1, ⟨A, n, c, (e _).trans h2, h2'.below hb⟩, (e _).trans h3, (e _).trans h4, (e _).trans h5⟩
theorem KdAt.below {w w' : World} {b off : Nat} {x : Kd} (h : KdAt w b off x) (hlt : b < w.heap.size) (hb : Below w.heap.size w w') : KdAt w' b off x := by
 obtain ⟨h0, hs, h1, h2, h3⟩ := h
 have e : ∀ o, w'.cell? ⟨b, o, none⟩ = w.cell? ⟨b, o, none⟩ := fun o => hb.cell (p := ⟨b, o, none⟩) hlt
 exact ⟨(e _).trans h0, hs, (e _).trans h1, (e _).trans h2, (e _).trans h3⟩
theorem ScAt.below {w w' : World} {b off : Nat} {x : List Bd} (h : ScAt w b off x) (hlt : b < w.heap.size) (hb : Below w.heap.size w w') : ScAt w' b off x := by
 obtain ⟨A, n, c, h0, h1⟩ := h
 exact ⟨A, n, c, (hb.cell (p := ⟨b, _, none⟩) hlt).trans h0, h1.below hb⟩
theorem CtSl.below {w w' : World} {A : Option Addr} {n : Nat} {l : List Ct} (h : CtSl w A n l) (hb : Below w.heap.size w w') : CtSl w' A n l := SlOf.below h (fun b off x hx hlt => hx.below hlt hb) hb
theorem KdSl.below {w w' : World} {A : Option Addr} {n : Nat} {l : List Kd} (h : KdSl w A n l) (hb : Below w.heap.size w w') : KdSl w' A n l := SlOf.below h (fun b off x hx hlt => hx.below hlt hb) hb
theorem ScSl.below {w w' : World} {A : Option Addr} {n : Nat} {l : List (List Bd)} (h : ScSl w A n l) (hb : Below w.heap.size w w') : ScSl w' A n l := SlOf.below h (fun b off x hx hlt => hx.below hlt hb) hb
def kdC (z : Kd) : List Value := [.string z.nm, .int .i64 z.c, .int .i64 z.t, .int .i64 z.s]
end Go.Proofs.YtiaabmhjkoohmaaGreat
namespace Go.Proofs.YtiaabmhjkoohmaaGreat
set_option maxRecDepth 100000
set_option maxHeartbeats 25600000
set_option linter.unusedVariables false
set_option linter.unusedSimpArgs false
open Go.ChangeShapes Go.WideShapes Go.Deep Go.RowKit
structure TbIn (w : World) (sch : List (List Bd)) (cts : List Ct) (kds : List Kd) (As Ac Ak : Option Addr) (ns cs nc cc nk ck : Nat) : Prop where
 s : ScSl w As ns sch
 c : CtSl w Ac nc cts
 k : KdSl w Ak nk kds
 cs : ns ≤ cs
 cc : nc ≤ cc
 ck : nk ≤ ck
section
variable {H : Type} {enc : TypeId × Value → H} {w : World}
theorem open_band_t {b off : Nat} {cs : List Value} {m : Nat} {x : DataW H × List MemPlace} (hl : cs.length = 3) (hc : CellsAt w b off cs) (h : DataW.trod enc Tryz.prog w 0 (fun _ => true) true m 145 cs = some x) :
  ∃ a : Bd, w.cell? ⟨b, off, none⟩ = some (.int .i64 a.f) ∧ w.cell? ⟨b, off + 1, none⟩ = some (.int .i64 a.r) ∧ w.cell? ⟨b, off + 2, none⟩ = some (.int .i64 a.e) := by
 have hf := struct_cells Tryz.underlying145 (by kernel_rfl) hl h
 obtain ⟨u0, n0, y0, e0, t0⟩ := hf 0 _ rfl
 obtain ⟨u1, n1, y1, e1, t1⟩ := hf 1 _ rfl
 obtain ⟨u2, n2, y2, e2, t2⟩ := hf 2 _ rfl
 obtain ⟨q0, rfl, _⟩ := cell_int Tryz.underlying2 t0
 obtain ⟨q1, rfl, _⟩ := cell_int Tryz.underlying3 t1
 obtain ⟨q2, rfl, _⟩ := cell_int Tryz.underlying3 t2
 exact ⟨⟨q0, q1, q2⟩, hc 0 _ e0, hc 1 _ e1, hc 2 _ e2⟩
theorem open_bands_t {m : Nat} {u : Value} {x : DataW H × List MemPlace} (h : DataW.trod enc Tryz.prog w 0 (fun _ => true) true m 146 [u] = some x) : ∃ A n c l, u = .slice A n c ∧ n ≤ c ∧ BandSl w A n l := by
 obtain ⟨A, n, c, l, rfl, h1, h2, h3, h4, h5⟩ := open_sl (fun w b off (a : Bd) => w.cell? ⟨b, off, none⟩ = some (.int .i64 a.f) ∧ w.cell? ⟨b, off + 1, none⟩ = some (.int .i64 a.r) ∧ w.cell? ⟨b, off + 2, none⟩ = some (.int .i64 a.e)) 3 bd0 (by decide) Tryz.underlying146 (by kernel_rfl)
  (fun b off cs m x hb hl hc hx => open_band_t hl hc hx) h
 refine ⟨A, n, c, l, rfl, h1, h3, h4, fun h0 => ?_⟩
 obtain ⟨b, off, hA, hlt, hat⟩ := h5 h0
 exact ⟨b, off, hA, hlt, fun k hk => hat k (by omega)⟩
theorem open_contrib_t {b off : Nat} {cs : List Value} {m : Nat} {x : DataW H × List MemPlace} (hl : cs.length = 6) (hc : CellsAt w b off cs) (h : DataW.trod enc Tryz.prog w 0 (fun _ => true) true m 195 cs = some x) : ∃ a : Ct, CtAt w b off a := by
 have hf := struct_cells Tryz.underlying195 (by kernel_rfl) hl h
 obtain ⟨u0, n0, y0, e0, t0⟩ := hf 0 _ rfl
 obtain ⟨u1, n1, y1, e1, t1⟩ := hf 1 _ rfl
 obtain ⟨u2, n2, y2, e2, t2⟩ := hf 2 _ rfl
 obtain ⟨u3, n3, y3, e3, t3⟩ := hf 3 _ rfl
 obtain ⟨u4, n4, y4, e4, t4⟩ := hf 4 _ rfl
 obtain ⟨u5, n5, y5, e5, t5⟩ := hf 5 _ rfl
 obtain ⟨q0, rfl, s0⟩ := cell_string Tryz.underlying9 t0
 obtain ⟨q1, rfl, _⟩ := cell_int Tryz.underlying3 t1
 obtain ⟨A, n, c, l, rfl, _, hs⟩ := open_bands_t t2
 obtain ⟨q3, rfl, _⟩ := cell_int Tryz.underlying2 t3
 obtain ⟨q4, rfl, _⟩ := cell_int Tryz.underlying2 t4
 obtain ⟨q5, rfl, _⟩ := cell_int Tryz.underlying3 t5
 exact ⟨⟨q0, q1, l, q3, q4, q5⟩, hc 0 _ e0, s0, hc 1 _ e1, ⟨A, n, c, hc 2 _ e2, hs⟩, hc 3 _ e3, hc 4 _ e4, hc 5 _ e5⟩
theorem open_kind_t {b off : Nat} {cs : List Value} {m : Nat} {x : DataW H × List MemPlace} (hl : cs.length = 4) (hc : CellsAt w b off cs) (h : DataW.trod enc Tryz.prog w 0 (fun _ => true) true m 148 cs = some x) : ∃ a : Kd, KdAt w b off a := by
 have hf := struct_cells Tryz.underlying148 (by kernel_rfl) hl h
 obtain ⟨u0, n0, y0, e0, t0⟩ := hf 0 _ rfl
 obtain ⟨u1, n1, y1, e1, t1⟩ := hf 1 _ rfl
 obtain ⟨u2, n2, y2, e2, t2⟩ := hf 2 _ rfl
 obtain ⟨u3, n3, y3, e3, t3⟩ := hf 3 _ rfl
 obtain ⟨q0, rfl, s0⟩ := cell_string Tryz.underlying9 t0
 obtain ⟨q1, rfl, _⟩ := cell_int Tryz.underlying3 t1
 obtain ⟨q2, rfl, _⟩ := cell_int Tryz.underlying3 t2
 obtain ⟨q3, rfl, _⟩ := cell_int Tryz.underlying3 t3
 exact ⟨⟨q0, q1, q2, q3⟩, hc 0 _ e0, s0, hc 1 _ e1, hc 2 _ e2, hc 3 _ e3⟩
theorem open_table {r : Reach} {b0 : Nat} {v : Value} {d : DataW H} {p : List MemPlace} (hv : Value.okWide Tryz.prog w r b0 26 v) (h : DataW.Trod enc Tryz.prog w 0 (fun _ => true) true 26 v d p) :
  ∃ sch cts kds As Ac Ak ns cs nc cc nk ck lim rnd, v = .agg #[.slice As ns cs, .slice Ac nc cc, .slice Ak nk ck, .int .i64 lim, .int .i64 rnd] ∧ TbIn w sch cts kds As Ac Ak ns cs nc cc nk ck := by
 obtain ⟨l, m, rfl, hl, hm⟩ := trod_struct_arg Tryz.underlying26 hv h
 rw [show Tryz.prog.cellsOf 26 = 5 from by kernel_rfl] at hl
 have hf := struct_cells Tryz.underlying26 (by kernel_rfl) hl hm
 obtain ⟨u0, n0, y0, e0, t0⟩ := hf 0 _ rfl
 obtain ⟨u1, n1, y1, e1, t1⟩ := hf 1 _ rfl
 obtain ⟨u2, n2, y2, e2, t2⟩ := hf 2 _ rfl
 obtain ⟨u3, n3, y3, e3, t3⟩ := hf 3 _ rfl
 obtain ⟨u4, n4, y4, e4, t4⟩ := hf 4 _ rfl
 obtain ⟨As, ns, cs, sch, rfl, k0, _, s0⟩ := open_sl ScAt 1 [] (by decide) Tryz.underlying22 (by kernel_rfl) (fun b off cs m x hb hl hc hx => by
  match cs, hl with
  | [u], _ =>
   obtain ⟨A, n, c, l, rfl, _, hs⟩ := open_bands_t hx
   exact ⟨l, A, n, c, hc 0 _ rfl, hs⟩) t0
 obtain ⟨Ac, nc, cc, cts, rfl, k1, _, s1⟩ := open_sl CtAt 6 ct0 (by decide) Tryz.underlying23 (by kernel_rfl) (fun b off cs m x hb hl hc hx => open_contrib_t hl hc hx) t1
 obtain ⟨Ak, nk, ck, kds, rfl, k2, _, s2⟩ := open_sl KdAt 4 kd0 (by decide) Tryz.underlying24 (by kernel_rfl) (fun b off cs m x hb hl hc hx => open_kind_t hl hc hx) t2
 obtain ⟨lim, rfl, _⟩ := cell_int Tryz.underlying3 t3
 obtain ⟨rnd, rfl, _⟩ := cell_int Tryz.underlying3 t4
 match l, hl with
 | [a0, a1, a2, a3, a4], _ =>
  simp only [List.getElem?_cons_zero, List.getElem?_cons_succ, Option.some.injEq] at e0 e1 e2 e3 e4
  subst e0; subst e1; subst e2; subst e3; subst e4
  exact ⟨sch, cts, kds, As, Ac, Ak, ns, cs, nc, cc, nk, ck, lim, rnd, rfl, s0, s1, s2, k0, k1, k2⟩
end
end Go.Proofs.YtiaabmhjkoohmaaGreat
namespace Go.Proofs.YtiaabmhjkoohmaaGreat
set_option maxRecDepth 100000
set_option maxHeartbeats 25600000
set_option linter.unusedVariables false
set_option linter.unusedSimpArgs false
open Go.RowKit Tryz
open Lib (hid)
theorem code_a (s k a f : Int) (h : cE9 s k a f = 0) : 0 ≤ a ∧ a ≤ 999999000 ∧ 0 ≤ s ∧ s ≤ 7 ∧ 1 ≤ k ∧ k ≤ 4 ∧ 0 ≤ f ∧ f ≤ 7 := by
 unfold cE9 at h
 split at h
 ·
  omega
 ·
  split at h
  ·
   omega
  ·
   split at h
   ·
    omega
   ·
    split at h
    ·
     omega
    ·
     split at h
     ·
      omega
     ·
      omega
def fitE (sch : List (List Bd)) (c : Cd) : Int :=
 if cE9 c.s c.k c.a c.f ≠ 0 then cE9 c.s c.k c.a c.f
 else if (sch.length : Int) ≤ c.s then 81
 else if c.k = 3 ∧ ((sch.getD c.s.toNat []).length : Int) ≤ c.f then 80 else 0
theorem tfits_c (sch : List (List Bd)) (As Ac Ak : Option Addr) (ns cs nc cc nk ck : Nat) (lim rnd : Int) (s k a f : Int) (al : Bool) (w : World) (hs : ScSl w As ns sch) (r : Int) (hr : Hid (r = fitE sch ⟨s, k, a, f, al⟩)) :
  Calls prog 65 #[.agg #[.slice As ns cs, .slice Ac nc cc, .slice Ak nk ck, .int .i64 lim, .int .i64 rnd], .agg #[.int .i64 s, .int .i64 k, .int .i64 a, .int .i64 f, .bool al]] w fun e w' => e = .returned (.int .i64 r) ∧ Below w.heap.size w w' := by
 have z := (Blk.mk w 26 #[.slice As ns cs, .slice Ac nc cc, .slice Ak nk ck, .int .i64 lim, .int .i64 rnd]).alloc (.cells #[.int .i64 s, .int .i64 k, .int .i64 a, .int .i64 f, .bool al] 28)
 have y := Blk.mk (w.alloc (.cells #[.slice As ns cs, .slice Ac nc cc, .slice Ak nk ck, .int .i64 lim, .int .i64 rnd] 26)) 28 #[.int .i64 s, .int .i64 k, .int .i64 a, .int .i64 f, .bool al]
 rw [World.size_alloc] at y
 have hb0 := bA (below1 w (.cells #[.slice As ns cs, .slice Ac nc cc, .slice Ak nk ck, .int .i64 lim, .int .i64 rnd] 26)) (.cells #[.int .i64 s, .int .i64 k, .int .i64 a, .int .i64 f, .bool al] 28)
 have K := hid (ccheck_c s k a f al)
 have hR := hr.out
 unfold fitE at hR
 dsimp only at hR
 have HS := hid hs
 have hns := hs.1
 by_cases h1 : cE9 s k a f = 0
 case neg =>
  rw [if_pos h1] at hR
  rw [← hR] at K h1
  have t : (r != 0) = true := by simpa using h1
  clear hR h1 hs hns
  go_enter func65, ntmps65
  go_wp2_with fail
  refine (K.out _).mono ?_
  rintro e w1 ⟨rfl, hb1⟩
  go_wp2_with fail
  go_ret
  exact ⟨rfl, bT hb0 hb1⟩
 rw [if_neg (by simpa using h1)] at hR
 have ha := code_a s k a f h1
 rw [h1] at K
 rw [← hns] at hR
 clear h1
 by_cases h2 : (ns : Int) ≤ s
 ·
  rw [if_pos h2] at hR
  subst hR
  have u2 : decide ((ns : Int) ≤ s) = true := by simpa using h2
  clear hs hns
  go_enter func65, ntmps65
  go_wp2_with fail
  refine (K.out _).mono ?_
  rintro e w1 ⟨rfl, hb1⟩
  have a0 := (y.t hb1).cell 0
  have t0 := (z.t hb1).cell 0
  go_wp2_with fail
  go_ret
  exact ⟨rfl, bT hb0 hb1⟩
 rw [if_neg h2] at hR
 have u2 : decide ((ns : Int) ≤ s) = false := by simpa using h2
 obtain ⟨i, rfl⟩ := Int.eq_ofNat_of_zero_le (show 0 ≤ s by omega)
 have hi : i < ns := by omega
 rw [Int.toNat_natCast] at hR
 have u22 : decide (ns ≤ i) = false := by simp; omega
 obtain ⟨b, off, rfl, hlt, hat⟩ := hs.2.2 (by omega)
 obtain ⟨A, n, c, c0, hbs⟩ := hat i hi
 rw [← hbs.1] at hR
 have HBS := hid hbs
 have s0 : (0 : Int) ≤ (i : Int) := by omega
 have s1 : (i : Int) < (ns : Int) := by omega
 have s2 : ((i : Int)).toNat = i := by omega
 have o1 : off + i * 1 = off + i := by omega
 rw [o1] at c0
 clear hs hns hat hbs o1
 by_cases h3 : k = 3
 ·
  subst h3
  by_cases h4 : (n : Int) ≤ f
  ·
   rw [if_pos ⟨rfl, h4⟩] at hR
   subst hR
   have u4 : decide ((n : Int) ≤ f) = true := by simpa using h4
   go_enter func65, ntmps65
   go_wp2_with fail
   refine (K.out _).mono ?_
   rintro e w1 ⟨rfl, hb1⟩
   have y1 := y.t hb1
   have a0 := y1.cell 0
   have a1 := y1.cell 1
   have a3 := y1.cell 3
   have t0 := (z.t hb1).cell 0
   have c1 := ((bT hb0 hb1).cell (p := ⟨b, off + i, none⟩) hlt).trans c0
   go_wp2_with fail
   go_quiet (fail)
   go_wp2_with fail
   go_ret
   exact ⟨rfl, bD (bT hb0 hb1) _⟩
  ·
   rw [if_neg (fun h => h4 h.2)] at hR
   subst hR
   have u4 : decide ((n : Int) ≤ f) = false := by simpa using h4
   go_enter func65, ntmps65
   go_wp2_with fail
   refine (K.out _).mono ?_
   rintro e w1 ⟨rfl, hb1⟩
   have y1 := y.t hb1
   have a0 := y1.cell 0
   have a1 := y1.cell 1
   have a3 := y1.cell 3
   have t0 := (z.t hb1).cell 0
   have c1 := ((bT hb0 hb1).cell (p := ⟨b, off + i, none⟩) hlt).trans c0
   go_wp2_with fail
   go_quiet (fail)
   go_wp2_with fail
   go_ret
   exact ⟨rfl, bD (bT hb0 hb1) _⟩
 ·
  rw [if_neg (fun h => h3 h.1)] at hR
  subst hR
  have u3 : (k == 3) = false := by simpa using h3
  go_enter func65, ntmps65
  go_wp2_with fail
  refine (K.out _).mono ?_
  rintro e w1 ⟨rfl, hb1⟩
  have y1 := y.t hb1
  have a0 := y1.cell 0
  have a1 := y1.cell 1
  have t0 := (z.t hb1).cell 0
  go_wp2_with fail
  go_quiet (fail)
  go_wp2_with fail
  go_ret
  exact ⟨rfl, bD (bT hb0 hb1) _⟩
theorem sub_t (x y : Int) (w : World) (hx : mrB x = true) (hy : mrB y = true) (hs : mrB (x - y) = true) :
  Calls prog 92 #[.int .i64 x, .int .i64 y] w fun e w' => e = .returned (.tuple #[.int .i64 (x - y), .int .i64 0]) ∧ Below w.heap.size w w' := by
 have hx' := mr_iff.1 hx
 have hy' := mr_iff.1 hy
 go_enter func92, ntmps92
 go_wp2_with (first | (go_at_call 76; refine (right2 _ _ _ x y _ (by simp) (by simp)).mono ?_; rintro e w' ⟨rfl, rfl⟩) | (go_at_call 137; refine (check_t (x - y) _ hs).mono ?_; rintro e w1 ⟨rfl, hb⟩))
 go_ret2
 exact ⟨rfl, (below1 _ _).trans (hb.mono (by simp))⟩
theorem sub_f (x y : Int) (w : World) (h : ¬ (mrB x = true ∧ mrB y = true ∧ mrB (x - y) = true)) :
  Calls prog 92 #[.int .i64 x, .int .i64 y] w fun e w' => e = .returned (.tuple #[.int .i64 0, .int .i64 10]) ∧ Below w.heap.size w w' := by
 by_cases hx : (mrB x && mrB y) = true
 ·
  have hx1 : mrB x = true := by simp at hx; exact hx.1
  have hy1 : mrB y = true := by simp at hx; exact hx.2
  have hs : mrB (x - y) = false := by
   cases hh : mrB (x - y) with
   | false => rfl
   | true => exact absurd ⟨hx1, hy1, hh⟩ h
  have hx' := mr_iff.1 hx1
  have hy' := mr_iff.1 hy1
  clear h
  go_enter func92, ntmps92
  go_wp2_with (first | (go_at_call 76; refine (right2 _ _ _ x y _ (by simp) (by simp)).mono ?_; rintro e w' ⟨rfl, rfl⟩) | (go_at_call 137; refine (check_f (x - y) _ hs).mono ?_; rintro e w1 ⟨rfl, hb⟩))
  go_ret2
  exact ⟨rfl, (below1 _ _).trans (hb.mono (by simp))⟩
 ·
  have hx1 : (mrB x && mrB y) = false := by simpa using hx
  clear h hx
  go_enter func92, ntmps92
  go_wp2_with (go_at_call 76; refine (right2 _ _ _ x y _ (by simp) (by simp)).mono ?_; rintro e w' ⟨rfl, rfl⟩)
  go_ret2
  exact ⟨rfl, below1 _ _⟩
theorem mul_bd0' {x r A B : Int} (h1 : 0 ≤ x) (h2 : x ≤ A) (h3 : 0 ≤ r) (h4 : r ≤ B) : 0 ≤ x * r ∧ x * r ≤ A * B := by
 refine ⟨Int.mul_nonneg h1 h3, ?_⟩
 have a : x * r ≤ A * r := Int.mul_le_mul_of_nonneg_right h2 h3
 have b : A * r ≤ A * B := Int.mul_le_mul_of_nonneg_left h4 (by omega)
 omega
theorem part_bd (x n d : Int) (h0 : 0 ≤ x) (hn : 0 ≤ n ∧ n ≤ d) (hd : 1 ≤ d) : 0 ≤ x * n / d ∧ x * n / d ≤ x := by
 have h1 : 0 ≤ x * n := Int.mul_nonneg h0 hn.1
 have h2 : x * n ≤ x * d := Int.mul_le_mul_of_nonneg_left hn.2 h0
 refine ⟨Int.ediv_nonneg h1 (by omega), ?_⟩
 have h3 : x * n / d ≤ x * d / d := Int.ediv_le_ediv (by omega) h2
 rwa [Int.mul_ediv_cancel _ (by omega)] at h3
theorem fscale_t (x n d : Int) (w : World) (hx : 0 ≤ x ∧ x ≤ 100000000000) (hn : 0 ≤ n ∧ n ≤ d) (hd : 1 ≤ d ∧ d ≤ 1048576) :
  Calls prog 206 #[.int .i64 x, .int .i64 n, .int .i64 d] w fun e w' => e = .returned (.tuple #[.int .i64 (x * n / d), .int .i64 0]) ∧ Below w.heap.size w w' := by
 have hq := part_bd x n d hx.1 hn hd.1
 have hp : 0 ≤ x * n ∧ x * n ≤ 100000000000 * 1048576 := mul_bd0' hx.1 hx.2 hn.1 (by omega)
 have K := hid (floor_c (x * n) d · (by omega) (by omega) (by omega) (by omega))
 have hm : mrB x = true := mr_t (by omega)
 have hm2 : mrB (x * n / d) = true := mr_t (by omega)
 generalize x * n / d = q at *
 generalize x * n % d = r at *
 have t1 : ¬ n < 0 := by omega
 have t2 : ¬ d ≤ 0 := by omega
 have t3 : ¬ 1048576 < n := by omega
 have t4 : ¬ 1048576 < d := by omega
 have u1 : decide (n < 0) = false := by simpa using t1
 have u2 : decide (d ≤ 0) = false := by simpa using t2
 have u3 : decide (1048576 < n) = false := by simpa using t3
 have u4 : decide (1048576 < d) = false := by simpa using t4
 go_enter func206, ntmps206
 go_wp2_with fail
 refine (right1 _ _ _ x _ (by simp)).mono ?_
 rw [hm]
 rintro e w' ⟨rfl, rfl⟩
 go_wp2_with fail
 refine (K.out _).mono ?_
 rintro e w1 ⟨rfl, hb1⟩
 go_wp2_with fail
 refine (right1 _ _ _ q _ (by simp)).mono ?_
 rw [hm2]
 rintro e w' ⟨rfl, rfl⟩
 go_wp2_with fail
 go_ret2
 exact ⟨rfl, bA (bT (below1 _ _) hb1) _⟩
def partB (n d : Int) : Bool := decide (0 ≤ n ∧ 1 ≤ d ∧ n ≤ d ∧ d ≤ 1048576)
theorem partB_iff {n d : Int} : partB n d = true ↔ (0 ≤ n ∧ 1 ≤ d ∧ n ≤ d ∧ d ≤ 1048576) := by simp [partB]
def freeI (k a n d : Int) : Int := if k = 2 then -(a * n / d) else a * n / d
theorem cfree_e (s k a f : Int) (al : Bool) (n d : Int) (w : World) (h : cE9 s k a f ≠ 0) : Calls prog 205 #[.agg #[.int .i64 s, .int .i64 k, .int .i64 a, .int .i64 f, .bool al], .int .i64 n, .int .i64 d] w fun e w' => e = .returned (.tuple #[.int .i64 0, .int .i64 (cE9 s k a f)]) ∧ Below w.heap.size w w' := by
 have K := hid (ccheck_c s k a f al)
 have t : (cE9 s k a f != 0) = true := by simpa using h
 generalize cE9 s k a f = r at *
 clear h
 go_enter func205, ntmps205
 go_wp2_with fail
 refine (K.out _).mono ?_
 rintro e w1 ⟨rfl, hb1⟩
 go_wp2_with fail
 go_ret2
 exact ⟨rfl, bT (below1 _ _) hb1⟩
theorem cfree_r (s k a f : Int) (al : Bool) (n d : Int) (w : World) (h : cE9 s k a f = 0) (hp : partB n d = false) : Calls prog 205 #[.agg #[.int .i64 s, .int .i64 k, .int .i64 a, .int .i64 f, .bool al], .int .i64 n, .int .i64 d] w fun e w' => e = .returned (.tuple #[.int .i64 0, .int .i64 1]) ∧ Below w.heap.size w w' := by
 have K := hid (ccheck_c s k a f al)
 rw [h] at K
 have hp' : ¬ (0 ≤ n ∧ 1 ≤ d ∧ n ≤ d ∧ d ≤ 1048576) := by rw [← partB_iff, hp]; decide
 clear h hp
 by_cases h1 : n < 0
 ·
  have u1 : decide (n < 0) = true := by simpa using h1
  clear hp'
  go_enter func205, ntmps205
  go_wp2_with fail
  refine (K.out _).mono ?_
  rintro e w1 ⟨rfl, hb1⟩
  go_wp2_with fail
  go_ret2
  exact ⟨rfl, bT (below1 _ _) hb1⟩
 have u1 : decide (n < 0) = false := by simpa using h1
 by_cases h2 : d < 1
 ·
  have u2 : decide (d < 1) = true := by simpa using h2
  clear hp'
  go_enter func205, ntmps205
  go_wp2_with fail
  refine (K.out _).mono ?_
  rintro e w1 ⟨rfl, hb1⟩
  go_wp2_with fail
  go_ret2
  exact ⟨rfl, bT (below1 _ _) hb1⟩
 have u2 : decide (d < 1) = false := by simpa using h2
 by_cases h3 : d < n
 ·
  have u3 : decide (d < n) = true := by simpa using h3
  clear hp'
  go_enter func205, ntmps205
  go_wp2_with fail
  refine (K.out _).mono ?_
  rintro e w1 ⟨rfl, hb1⟩
  go_wp2_with fail
  go_ret2
  exact ⟨rfl, bT (below1 _ _) hb1⟩
 have u3 : decide (d < n) = false := by simpa using h3
 have h4 : 1048576 < d := by omega
 have u4 : decide (1048576 < d) = true := by simpa using h4
 clear hp'
 go_enter func205, ntmps205
 go_wp2_with fail
 refine (K.out _).mono ?_
 rintro e w1 ⟨rfl, hb1⟩
 go_wp2_with fail
 go_ret2
 exact ⟨rfl, bT (below1 _ _) hb1⟩
theorem cfree_t (s k a f : Int) (al : Bool) (n d : Int) (w : World) (h : cE9 s k a f = 0) (hp : partB n d = true) : Calls prog 205 #[.agg #[.int .i64 s, .int .i64 k, .int .i64 a, .int .i64 f, .bool al], .int .i64 n, .int .i64 d] w fun e w' => e = .returned (.tuple #[.int .i64 (freeI k a n d), .int .i64 0]) ∧ Below w.heap.size w w' := by
 have K := hid (ccheck_c s k a f al)
 rw [h] at K
 have ha := code_a s k a f h
 have hp' := partB_iff.1 hp
 have K2 := hid (fscale_t a n d · (by omega) (by omega) (by omega))
 have hq := part_bd a n d ha.1 (by omega) (by omega)
 obtain ⟨q, hqq⟩ : ∃ q, q = a * n / d := ⟨_, rfl⟩
 have HF : Hid (freeI k a n d = if k = 2 then -q else q) := by unfold Hid freeI; rw [hqq]
 rw [← hqq] at K2 hq
 have u1 : decide (n < 0) = false := by simp; omega
 have u2 : decide (d < 1) = false := by simp; omega
 have u3 : decide (d < n) = false := by simp; omega
 have u4 : decide (1048576 < d) = false := by simp; omega
 have z := Blk.mk w 28 #[.int .i64 s, .int .i64 k, .int .i64 a, .int .i64 f, .bool al]
 have hb0 := below1 w (.cells #[.int .i64 s, .int .i64 k, .int .i64 a, .int .i64 f, .bool al] 28)
 have t1 : ¬ n < 0 := by omega
 have t2 : ¬ d < 1 := by omega
 have t3 : ¬ d < n := by omega
 have t4 : ¬ 1048576 < d := by omega
 clear hqq h hp hp'
 by_cases h2 : k = 2
 ·
  subst h2
  rw [if_pos rfl] at HF
  go_enter func205, ntmps205
  go_wp2_with fail
  refine (K.out _).mono ?_
  rintro e w1 ⟨rfl, hb1⟩
  have z1 := z.t hb1
  have a2 := z1.cell 2
  go_wp2_with fail
  refine (K2.out _).mono ?_
  rintro e w2 ⟨rfl, hb2⟩
  have a1 := (z1.t hb2).cell 1
  go_wp2_with fail
  go_ret2
  exact ⟨ret2_int HF.out.symm rfl, bT (bT hb0 hb1) hb2⟩
 ·
  rw [if_neg h2] at HF
  have u5 : (k == 2) = false := by simpa using h2
  clear h2
  go_enter func205, ntmps205
  go_wp2_with fail
  refine (K.out _).mono ?_
  rintro e w1 ⟨rfl, hb1⟩
  have z1 := z.t hb1
  have a2 := z1.cell 2
  go_wp2_with fail
  refine (K2.out _).mono ?_
  rintro e w2 ⟨rfl, hb2⟩
  have a1 := (z1.t hb2).cell 1
  go_wp2_with fail
  go_ret2
  exact ⟨ret2_int HF.out.symm rfl, bT (bT hb0 hb1) hb2⟩
def bdC (b : Bd) : List Value := [.int .i64 b.f, .int .i64 b.r, .int .i64 b.e]
def OwnB (w : World) (base : Nat) (v : Value) (n : Nat) (l : List Bd) : Prop := n = l.length ∧ w.ownsRow base 145 3 v n (l.flatMap bdC)
theorem bdC_len (x : Bd) : (bdC x).length = 3 := rfl
theorem OwnB.sl {w : World} {base : Nat} {v : Value} {n : Nat} {l : List Bd} (h : OwnB w base v n l) : ∃ A c, v = .slice A n c ∧ n ≤ c ∧ BandSl w A n l := by
 obtain ⟨hn, h⟩ := h
 obtain ⟨A, c, rfl, hc, h1, h2, h3⟩ := own_sl bdC 3 bd0 bdC_len h hn (by decide)
 refine ⟨A, c, rfl, hc, h1, h2, fun h0 => ?_⟩
 obtain ⟨b, off, hA, hlt, hat⟩ := h3 h0
 refine ⟨b, off, hA, hlt, fun k hk => ⟨?_, ?_, ?_⟩⟩
 ·
  exact hat k (by omega) 0 _ rfl
 ·
  exact hat k (by omega) 1 _ rfl
 ·
  exact hat k (by omega) 2 _ rfl
theorem info_band : (Tryz.prog.info? 145).map (fun i => (i.zero, i.size, i.bytes)) = some (some (.agg #[.int .i64 0, .int .i64 0, .int .i64 0]), 3, 24) := by kernel_rfl
theorem own_cut {w : World} {base size n cap g : Nat} {e : TypeId} {xs : List Value} (h : w.ownsRow base e size (.slice (some ⟨g, 0, none⟩) n cap) n xs) (m : Nat) (hm : m ≤ n) : w.ownsRow base e size (.slice (some ⟨g, 0, none⟩) m cap) m (xs.take (m * size)) := by
 obtain ⟨hl, h2⟩ := h
 rcases h2 with ⟨h', _⟩ | ⟨g', cap', cur, h', hb, hg, hnc, hcm, hcs, htake⟩
 ·
  simp at h'
 ·
  simp only [Value.slice.injEq, Option.some.injEq, Addr.mk.injEq, and_true, true_and] at h'
  obtain ⟨rfl, rfl⟩ := h'
  have hle : m * size ≤ n * size := Nat.mul_le_mul_right _ hm
  refine ⟨by rw [List.length_take]; omega, Or.inr ⟨g, cap, cur, rfl, hb, hg, by omega, hcm, hcs, ?_⟩⟩
  rw [← htake, List.take_take, Nat.min_eq_left hle]
def fr (l : List Bd) (n d : Int) (k : Nat) : Int := (l.getD k bd0).f * n / d
def lastB (L : List Bd) : Bd := L.getD (L.length - 1) bd0
def dropIf (L : List Bd) (x : Int) : List Bd := if 0 < L.length ∧ (lastB L).f = x then L.take (L.length - 1) else L
def sc9 (l : List Bd) (n d : Int) : Nat → List Bd
 | 0 => []
 | k + 1 => dropIf (sc9 l n d k) (fr l n d k) ++ [⟨fr l n d k, (l.getD k bd0).r, (l.getD k bd0).e⟩]
theorem lastB_snoc (L : List Bd) (x : Bd) : lastB (L ++ [x]) = x := by simp [lastB, List.getD]
theorem scale_last (l : List Bd) (n d : Int) (k : Nat) : lastB (sc9 l n d (k + 1)) = ⟨fr l n d k, (l.getD k bd0).r, (l.getD k bd0).e⟩ := by
 rw [sc9, lastB_snoc]
theorem scale_ne (l : List Bd) (n d : Int) (k : Nat) (hk : 0 < k) : 0 < (sc9 l n d k).length := by
 obtain ⟨j, rfl⟩ : ∃ j, k = j + 1 := ⟨k - 1, by omega⟩
 rw [sc9]; simp
theorem scale_len (l : List Bd) (n d : Int) (k : Nat) : (sc9 l n d k).length ≤ k := by
 induction k with
 | zero => simp [sc9]
 | succ k ih =>
  rw [sc9, dropIf]
  split <;> simp <;> omega
theorem flatMap_take (L : List Bd) (m : Nat) : (L.flatMap bdC).take (m * 3) = (L.take m).flatMap bdC := by
 induction L generalizing m with
 | nil => simp
 | cons x L ih =>
  cases m with
  | zero => simp
  | succ m =>
   rw [List.flatMap_cons, List.take_succ_cons, List.flatMap_cons, ← ih m, Nat.succ_mul, show m * 3 + 3 = m * 3 + 1 + 1 + 1 by omega]
   simp [bdC]
theorem bdC_get (l : List Bd) (j : Nat) (hj : j < l.length) : (l.flatMap bdC)[j * 3]? = some (.int .i64 (l.getD j bd0).f) := by
 induction l generalizing j with
 | nil => simp at hj
 | cons y l ih =>
  cases j with
  | zero => simp [bdC]
  | succ j =>
   have := ih j (by simpa using hj)
   rw [List.flatMap_cons, show (j + 1) * 3 = j * 3 + 1 + 1 + 1 by omega]
   simpa [bdC] using this
def ScaleR (L : List Bd) (w : World) (e : Ending) (w' : World) : Prop := (∃ v m, e = .returned (.tuple #[v, .int .i64 0]) ∧ OwnB w' w.heap.size v m L) ∧ Below w.heap.size w w'
theorem bscale_c (l : List Bd) (A : Option Addr) (nb c : Nat) (n d : Int) (w : World) (h : BandSl w A nb l) (hl : bE9 l = 0) (hp : partB n d = true) :
  Calls prog 196 #[.int .i64 n, .int .i64 d, .slice A nb c] w (ScaleR (sc9 l n d nb) w) := by
 have g := goodB l hl
 have hp' := partB_iff.1 hp
 have g8 : nb ≤ 8 := by have := h.1; have := g.hi; omega
 have HB := hid h
 have HG := hid g
 have KC := hid (bcheck_c l A nb c w h 0 hl.symm)
 have t1 : ¬ n < 0 := by omega
 have t2 : ¬ d < 1 := by omega
 have t3 : ¬ d < n := by omega
 have t4 : ¬ 1048576 < d := by omega
 have u1 : decide (n < 0) = false := by simpa using t1
 have u2 : decide (d < 1) = false := by simpa using t2
 have u3 : decide (d < n) = false := by simpa using t3
 have u4 : decide (1048576 < d) = false := by simpa using t4
 clear h hl g hp
 go_enter func196, ntmps196
 go_wp2_with fail
 refine KC.out.mono ?_
 rintro e w1 ⟨rfl, hb1⟩
 go_wp2_with fail
 go_loopw [9, 37] (fun v i wr => ∃ (k m : Nat), k ≤ nb ∧ m ≤ k ∧ i = .int .i64 k ∧ OwnB wr w.heap.size v m (sc9 l n d k) ∧ Below w.heap.size w wr) (fun _ i _ => nb - (intOf i).toNat)
 case atStart => exact ⟨0, 0, Nat.zero_le _, Nat.le_refl _, rfl, ⟨rfl, World.ownsRow_nil _ _ _ _⟩, hb1⟩
 case round =>
  obtain ⟨k, m, hk', hm, rfl, ⟨ho1, ho⟩, hbl⟩ := hrel
  have HO1 := hid ho1
  clear ho1
  obtain ⟨Av, cv, rfl⟩ := oL9 ho
  by_cases hk : k < nb
  case neg =>
   obtain rfl : k = nb := by omega
   go_wp2_with fail
   go_ret2
   exact ⟨⟨_, _, rfl, HO1.out, ho⟩, hbl⟩
  obtain ⟨b, off, rfl, hlt, hat⟩ := (HB.out.below hbl).2.2 (by omega)
  obtain ⟨c0, c1, c2⟩ := hat k (by rw [← HB.out.1]; exact hk)
  have hf := HG.out.f k (by rw [← HB.out.1]; exact hk)
  have KS := hid (fscale_t (l.getD k bd0).f n d · hf (by omega) (by omega))
  have hF : (l.getD k bd0).f * n / d = fr l n d k := rfl
  rw [hF] at KS
  have HN : Hid (sc9 l n d (k + 1) = dropIf (sc9 l n d k) (fr l n d k) ++ [⟨fr l n d k, (l.getD k bd0).r, (l.getD k bd0).e⟩]) := rfl
  have HAT := hid hat
  clear hat hF hf
  generalize fr l n d k = x at *
  generalize (l.getD k bd0).f = bf at *
  generalize (l.getD k bd0).r = br at *
  generalize (l.getD k bd0).e = be at *
  have bx := Blk.mk wr 145 #[.int .i64 bf, .int .i64 br, .int .i64 be]
  have hb2 := bA hbl (.cells #[.int .i64 bf, .int .i64 br, .int .i64 be] 145)
  have HO := hid (ho.alloc (.cells #[.int .i64 bf, .int .i64 br, .int .i64 be] 145))
  have a0 := bx.cell 0
  have hsz := hbl.size
  have hlto := hid ho.lt
  clear ho
  go_wp2_with fail
  refine (KS.out _).mono ?_
  rintro e w2 ⟨rfl, hb3⟩
  have hb4 := bT hb2 hb3
  have bx2 := bx.t hb3
  have hwr : wr.heap.size < w2.heap.size := by have := hb3.size; simp at this; omega
  have HO2 := oB9 HO.out hb3
  obtain ⟨x0, x1, x2, y0, y1, y2⟩ : w2.cell? ⟨wr.heap.size, 0, none⟩ = some (.int .i64 bf) ∧ w2.cell? ⟨wr.heap.size, 1, none⟩ = some (.int .i64 br) ∧ w2.cell? ⟨wr.heap.size, 2, none⟩ = some (.int .i64 be) ∧ w2.frozen? ⟨wr.heap.size, 0, none⟩ = false ∧ w2.frozen? ⟨wr.heap.size, 1, none⟩ = false ∧ w2.frozen? ⟨wr.heap.size, 2, none⟩ = false := ⟨bx2.cell 0, bx2.cell 1, bx2.cell 2, bx2.free 0, bx2.free 1, bx2.free 2⟩
  have bx3 : Blk (w2.setCell ⟨wr.heap.size, 0, none⟩ (.int .i64 x)) wr.heap.size 145 #[.int .i64 x, .int .i64 br, .int .i64 be] := heap_setCell_same w2 wr.heap.size 0 _ _ (.int .i64 x) bx2
  obtain ⟨z0, z1, z2⟩ : (w2.setCell ⟨wr.heap.size, 0, none⟩ (.int .i64 x)).cell? ⟨wr.heap.size, 0, none⟩ = some (.int .i64 x) ∧ (w2.setCell ⟨wr.heap.size, 0, none⟩ (.int .i64 x)).cell? ⟨wr.heap.size, 1, none⟩ = some (.int .i64 br) ∧ (w2.setCell ⟨wr.heap.size, 0, none⟩ (.int .i64 x)).cell? ⟨wr.heap.size, 2, none⟩ = some (.int .i64 be) := ⟨bx3.cell 0, bx3.cell 1, bx3.cell 2⟩
  have hb5 := bS hb4 (p := ⟨wr.heap.size, 0, none⟩) hsz (.int .i64 x)
  have hgw : w2.grownBy (w2.setCell ⟨wr.heap.size, 0, none⟩ (.int .i64 x)) (some wr.heap.size) := ⟨rfl, rfl, rfl, by simp, fun k _ hk => heap_setCell_other w2 ⟨wr.heap.size, 0, none⟩ k _ (fun e => hk (by simp [e]))⟩
  have HGW := hid hgw
  clear hgw
  by_cases hm0 : m = 0
  ·
   have hz : decide ((0 : Int) < (m : Int)) = false := by simp; omega
   have hD : Hid (dropIf (sc9 l n d k) x = sc9 l n d k) := by
    unfold Hid dropIf
    rw [if_neg (by rw [← HO1.out, hm0]; simp)]
   have HO3 := hid (HO2.kept HGW.out (by
    right
    intro h
    have := (hlto.out _ h).2
    omega))
   have hz2 : ¬ 0 < m := by omega
   clear hm0 HO2
   go_wp2_with (at_builtin; refine wa9 _ rfl _ _ 146 rfl 145 _ 3 24 underlying146 info_band rfl (by decide) rfl HO3.out _ rfl (by first | rfl | simp) rfl (by simp [Value.oneCell']) (by omega) (by omega) (by first | omega | exact hb5.size | (simp; omega)) ?_; intro v' w3 ho' hg)
   go_roundw
   case rel =>
    refine ⟨k + 1, m + 1, by omega, by omega, by go_num, ⟨by rw [HN.out, hD.out]; simp [← HO1.out], ?_⟩, bP hb5 HO3.out hg (Nat.le_refl _)⟩
    rw [HN.out, hD.out, List.flatMap_append]
    simpa [bdC] using ho'
   case measure => simp [intOf]; omega
  ·
   obtain ⟨g, cap, hv, hgb, hgl, hgc, hgo⟩ := own_form HO2 (by omega)
   simp only [Value.slice.injEq, true_and] at hv
   obtain ⟨rfl, rfl⟩ := hv
   have hgs : g < wr.heap.size := by
    have := (hlto.out g rfl).2
    exact this
   have hq := (bdC_get (sc9 l n d k) (m - 1) (by rw [← HO1.out]; omega))
   have hcc := (hgo.cellAt ((m - 1) * 3) (by omega)).trans hq
   rw [show (sc9 l n d k).getD (m - 1) bd0 = lastB (sc9 l n d k) from by unfold lastB; rw [← HO1.out]] at hcc
   obtain ⟨pf, hpf⟩ : ∃ pf, pf = (lastB (sc9 l n d k)).f := ⟨_, rfl⟩
   rw [← hpf] at hcc
   have hz : decide ((0 : Int) < (m : Int)) = true := by simp; omega
   have hz2 : 0 < m := by omega
   have m1 : IntKind.i64.wrap ((m : Int) - 1) = (m : Int) - 1 := by rw [IntKind.wrap_i64]; omega
   have m2 : ((m : Int) - 1).toNat = m - 1 := by omega
   have m3 : 0 ≤ (m : Int) - 1 := by omega
   have m4 : (m : Int) - 1 < (m : Int) := by omega
   have m5 : (1 : Int) ≤ (m : Int) := by omega
   have HPF := hid hpf
   have HGO := hid hgo
   clear hq hpf hgo HO2 hm0
   by_cases he : pf = x
   ·
    have hD : Hid (dropIf (sc9 l n d k) x = (sc9 l n d k).take (m - 1)) := by
     unfold Hid dropIf
     rw [if_pos ⟨by rw [← HO1.out]; exact hz2, by rw [← HPF.out]; exact he⟩, ← HO1.out]
    subst he
    have m6 : (m : Int) - 1 ≤ (cv : Int) := by omega
    have m7 : m - 1 ≤ cv := by omega
    have HO4 := hid ((own_cut HGO.out (m - 1) (by omega)).kept HGW.out (Or.inr (by intro h; have h2 : some g = some wr.heap.size := h; injection h2 with h2; omega)))
    go_wp2_with (at_builtin; refine wa9 _ rfl _ _ 146 rfl 145 _ 3 24 underlying146 info_band rfl (by decide) rfl HO4.out _ rfl (by first | rfl | simp) rfl (by simp [Value.oneCell']) (by omega) (by omega) (by first | omega | exact hb5.size | (simp; omega)) ?_; intro v' w3 ho' hg)
    go_roundw
    case rel =>
     refine ⟨k + 1, m - 1 + 1, by omega, by omega, by go_num, ⟨by rw [HN.out, hD.out]; simp [← HO1.out], ?_⟩, bP hb5 HO4.out hg (Nat.le_refl _)⟩
     rw [HN.out, hD.out, List.flatMap_append, ← flatMap_take]
     simpa [bdC] using ho'
    case measure => simp [intOf]; omega
   ·
    have hD : Hid (dropIf (sc9 l n d k) x = sc9 l n d k) := by
     unfold Hid dropIf
     rw [if_neg (fun h => he (HPF.out.trans h.2))]
    have hne : (pf == x) = false := by simpa using he
    clear he
    have HO4 := hid (HGO.out.kept HGW.out (Or.inr (by intro h; have h2 : some g = some wr.heap.size := h; injection h2 with h2; omega)))
    go_wp2_with (at_builtin; refine wa9 _ rfl _ _ 146 rfl 145 _ 3 24 underlying146 info_band rfl (by decide) rfl HO4.out _ rfl (by first | rfl | simp) rfl (by simp [Value.oneCell']) (by omega) (by omega) (by first | omega | exact hb5.size | (simp; omega)) ?_; intro v' w3 ho' hg)
    go_roundw
    case rel =>
     refine ⟨k + 1, m + 1, by omega, by omega, by go_num, ⟨by rw [HN.out, hD.out]; simp [← HO1.out], ?_⟩, bP hb5 HO4.out hg (Nat.le_refl _)⟩
     rw [HN.out, hD.out, List.flatMap_append]
     simpa [bdC] using ho'
    case measure => simp [intOf]; omega
theorem bwidth_c (x : Int) (i n b off c : Nat) (l : List Bd) (w : World) (g : GoodB l n) (hx : mrB x = true) (hi : i < n) (hb : b < w.heap.size) (hc : BandsAt w b off l) :
  Calls prog 210 #[.int .i64 x, .int .i64 i, .slice (some ⟨b, off, none⟩) n c] w fun e w' => e = .returned (.int .i64 (widthI x (fun k => (l.getD k bd0).f) n i)) ∧ w = w' := by
 have hx' := mr_iff.1 hx
 have hn8 := g.hi
 have hf := g.f i hi
 obtain ⟨c0, _, _⟩ := hc i (by rw [← g.len]; exact hi)
 obtain ⟨v, hv⟩ : ∃ v, v = widthI x (fun k => (l.getD k bd0).f) n i := ⟨_, rfl⟩
 rw [← hv]
 unfold widthI pos at hv
 dsimp only at hv
 have i1 : ((i : Int) + 1).toNat = i + 1 := by omega
 by_cases h1 : i + 1 < n
 ·
  obtain ⟨d0, _, _⟩ := hc (i + 1) (by rw [← g.len]; exact h1)
  have hf1 := g.f (i + 1) h1
  generalize (l.getD i bd0).f = f0 at *
  rw [if_pos h1] at hv
  generalize (l.getD (i + 1) bd0).f = f1 at *
  have HV := hid hv
  clear hv hc g
  go_enter func210, ntmps210
  go_wp2
  go_ret
  exact ⟨ret_int HV.out.symm, rfl⟩
 ·
  generalize (l.getD i bd0).f = f0 at *
  rw [if_neg h1] at hv
  have HV := hid hv
  clear hv hc g
  go_enter func210, ntmps210
  go_wp2
  go_ret
  exact ⟨ret_int HV.out.symm, rfl⟩
theorem brate1_c (a r e : Int) (w : World) : Calls prog 208 #[.agg #[.int .i64 a, .int .i64 r, .int .i64 e]] w fun e w' => e = .returned (.int .i64 r) ∧ Below w.heap.size w w' := by
 go_enter func208, ntmps208
 go_wp2
 go_ret
 exact ⟨rfl, below1 _ _⟩
theorem sB3 {w W W1 : World} {b o0 o1 o2 : Nat} {v0 v1 v2 : Value} (hw : b < w.heap.size)
  (h : W.cell? ⟨b, o0, none⟩ = some v0 ∧ W.cell? ⟨b, o1, none⟩ = some v1 ∧ W.cell? ⟨b, o2, none⟩ = some v2 ∧ Below w.heap.size w W) (hb : Below W.heap.size W W1) :
  W1.cell? ⟨b, o0, none⟩ = some v0 ∧ W1.cell? ⟨b, o1, none⟩ = some v1 ∧ W1.cell? ⟨b, o2, none⟩ = some v2 ∧ Below w.heap.size w W1 := by
 have hlt : b < W.heap.size := Nat.lt_of_lt_of_le hw h.2.2.2.size
 exact ⟨(hb.cell (p := ⟨b, _, none⟩) hlt).trans h.1, (hb.cell (p := ⟨b, _, none⟩) hlt).trans h.2.1, (hb.cell (p := ⟨b, _, none⟩) hlt).trans h.2.2.1, h.2.2.2.trans (hb.mono h.2.2.2.size)⟩
theorem beach_loop1 (sel : Bd → Int) (hsel : ∀ (a r e : Int) (w : World), Calls prog 208 #[.agg #[.int .i64 a, .int .i64 r, .int .i64 e]] w fun x w' => x = .returned (.int .i64 (sel ⟨a, r, e⟩)) ∧ Below w.heap.size w w')
    (x : Int) (n b off c : Nat) (l : List Bd) (w : World) (g : GoodB l n) (hs : ∀ k, k < n → 0 ≤ sel (l.getD k bd0) ∧ sel (l.getD k bd0) ≤ 10000) (hx : mrB x = true) (hb : b < w.heap.size) (hc : BandsAt w b off l) (T : Int) (hT : Hid (T = progS x (fun k => (l.getD k bd0).f) (fun k => sel (l.getD k bd0)) n n)) (hsl : BandSl w (some ⟨b, off, none⟩) n l) (hbe : Hid (0 = bE9 l)) :
    Calls prog 207 #[.int .i64 x, .slice (some ⟨b, off, none⟩) n c, .func (.func 208) #[] #[]] w fun e w' => e = .returned (.tuple #[.int .i64 T, .int .i64 0]) ∧ Below w.heap.size w w' := by
  have hx' := mr_iff.1 hx
  have hn8 := g.hi
  have HS := hid hsel
  clear hsel
  go_enter func207, ntmps207
  go_wp2_with fail
  refine wp_scope_goto 0 (fun a' w' => ∃ (k : Nat) (s : Int), k ≤ n ∧ Hid (s = progS x (fun k => (l.getD k bd0).f) (fun k => sel (l.getD k bd0)) n k) ∧ Below w.heap.size w w' ∧ ∃ (u3 u4 u5 u8 u11 u12 u13 u14 u15 u16 u17 u18 u19 u20 u21 u22 u23 u24 u25 u26 u27 u28 u29 u30 u31 u32 u33 u34 u35 u36 u37 u38 u39 u40 u41 u42 u43 u44 u45 u46 u47 u48 u49 u50 u51 u52 u53 u54 u55 u56 u57 : Value), a' = { tmps := #[.int .i64 x, .slice (some ⟨b, off, none⟩) n c, .func (.func 208) #[] #[], u3, u4, u5, .int .i64 0, .int .i64 0, u8, .int .i64 s, .int .i64 k, u11, u12, u13, u14, u15, u16, u17, u18, u19, u20, u21, u22, u23, u24, u25, u26, u27, u28, u29, u30, u31, u32, u33, u34, u35, u36, u37, u38, u39, u40, u41, u42, u43, u44, u45, u46, u47, u48, u49, u50, u51, u52, u53, u54, u55, u56, u57], defers := [] }) (fun a' _ => n - (intOf (a'.tmps.getD 10 undef)).toNat) rfl ?_ ?_
  · rintro a' w' ⟨k, s, hk, hs', hbl, hF⟩
    obtain ⟨u3, u4, u5, u8, u11, u12, u13, u14, u15, u16, u17, u18, u19, u20, u21, u22, u23, u24, u25, u26, u27, u28, u29, u30, u31, u32, u33, u34, u35, u36, u37, u38, u39, u40, u41, u42, u43, u44, u45, u46, u47, u48, u49, u50, u51, u52, u53, u54, u55, u56, u57, hF⟩ := hF; subst hF
    have hT' := hT.out
    have hs'' := hs'.out
    by_cases hkn : k = n
    · have tk : ((k : Int) == (n : Int)) = true := by simp; omega
      have e : T = s := by rw [hT', hs'', hkn]
      subst e
      clear hT' hs'' hkn
      go_wp2_with fail
      simp only [Exit.jump]
      go_ret2
      exact ⟨rfl, hbl⟩
    have tk : ((k : Int) == (n : Int)) = false := by simp; omega
    have hlt : k < n := by omega
    obtain ⟨c0, c1, c2⟩ := hc k (by rw [← g.len]; omega)
    rw [← hbl.cell (p := ⟨b, _, none⟩) hb] at c0 c1 c2
    have hsz := hbl.size
    by_cases hxf : x ≤ (l.getD k bd0).f
    · have e : T = s := by
        rw [hT', hs'']
        have := (prog_stop x (fun k => (l.getD k bd0).f) (fun k => sel (l.getD k bd0)) n g.m k hxf (n - k) (by omega)).1
        rw [show k + (n - k) = n by omega] at this
        exact this
      subst e
      clear hT' hs'' hkn
      generalize (l.getD k bd0).f = xf at *
      generalize (l.getD k bd0).r = xr at *
      generalize (l.getD k bd0).e = xe at *
      go_wp2_with fail
      simp only [Exit.jump]
      go_ret2
      exact ⟨rfl, hbl⟩
    obtain ⟨wd, hwd⟩ : ∃ wd, wd = widthI x (fun k => (l.getD k bd0).f) n k := ⟨_, rfl⟩
    obtain ⟨rt, hrt⟩ : ∃ rt, rt = sel (l.getD k bd0) := ⟨_, rfl⟩
    have hwb := width_bd x (fun k => (l.getD k bd0).f) n k (g.f k hlt).1 hx'.2
    have hrb := hs k hlt
    rw [← hwd] at hwb
    rw [← hrt] at hrb
    have hp := prog_bd x (fun k => (l.getD k bd0).f) (fun k => sel (l.getD k bd0)) n (fun i hi => (g.f i hi).1) hs hx'.2 k hk
    rw [← hs''] at hp
    have hp2 : s ≤ 8000000000000000 := by have : (k : Int) ≤ 8 := by omega
                                          omega
    have hwr := mul_bd0 hwb.1 hwb.2 hrb.1 hrb.2 (by decide)
    have hmw : mrB wd = true := mr_t (by omega)
    have hrr : rateB rt = true := rateB_iff.2 hrb
    have hnext : Hid (s + wd * rt = progS x (fun k => (l.getD k bd0).f) (fun k => sel (l.getD k bd0)) n (k + 1)) := by unfold Hid; rw [progS, ← hs'', ← hwd, ← hrt]
    have hW : Hid (∀ W : World, Below w.heap.size w W → Calls prog 210 #[.int .i64 x, .int .i64 k, .slice (some ⟨b, off, none⟩) n c] W fun e w' => e = .returned (.int .i64 wd) ∧ W = w') := fun W hW => by
      rw [hwd]; exact bwidth_c x k n b off c l W g hx hlt (Nat.lt_of_lt_of_le hb hW.size) (hc.below hb hW)
    have hR : Hid (∀ W : World, Calls prog 208 #[.agg #[.int .i64 (l.getD k bd0).f, .int .i64 (l.getD k bd0).r, .int .i64 (l.getD k bd0).e]] W fun e w' => e = .returned (.int .i64 rt) ∧ Below W.heap.size W w') := fun W => by
      rw [hrt]; exact HS.out _ _ _ W
    clear hT' hs'' hwd hrt hkn hs' hT hsl
    generalize (l.getD k bd0).f = xf at *
    generalize (l.getD k bd0).r = xr at *
    generalize (l.getD k bd0).e = xe at *
    clear hs HS hc g
    go_wp2_with fail
    go_region_held3 (fun W => W.cell? ⟨b, off + k * 3, none⟩ = some (.int .i64 xf) ∧ W.cell? ⟨b, off + k * 3 + 1, none⟩ = some (.int .i64 xr) ∧ W.cell? ⟨b, off + k * 3 + 2, none⟩ = some (.int .i64 xe) ∧ Below w.heap.size w W)
      (first | assumption | (refine ⟨?_, ?_, ?_, ?_⟩ <;> assumption) | exact ⟨c0, c1, c2, hbl.drew⟩ | (apply sB3 hb <;> assumption))
      (first | (go_at_call 210; refine (hW.out _ (by first | assumption | exact hbl.drew | exact (show _ ∧ _ ∧ _ ∧ _ from by assumption).2.2.2)).mono ?_; rintro e w1 ⟨rfl, rfl⟩) | (go_at_call 182; refine (part_t wd rt _ hmw hrr).mono ?_; rintro e w1 ⟨rfl, hb1⟩) | (go_at_call 208; refine (hR.out _).mono ?_; rintro e w1 ⟨rfl, hb1⟩))
    all_goals
      go_wp2_with fail
      go_step3
      refine ⟨rfl, ⟨k + 1, _, by omega, hnext, (by first | assumption | exact hbl.drew | exact (show _ ∧ _ ∧ _ ∧ _ from by assumption).2.2.2), ⟨_, _, _, _, _, _, _, _, _, _, _, _, _, _, _, _, _, _, _, _, _, _, _, _, _, _, _, _, _, _, _, _, _, _, _, _, _, _, _, _, _, _, _, _, _, _, _, _, _, _, _, rfl⟩⟩, ?_⟩
      simp [intOf]; omega
  · intro HP
    have HP := hid HP
    go_upto_region 7 with (first | (go_at_call 186; refine (bcheck_c l _ n c _ hsl 0 hbe).mono ?_; rintro e w1 ⟨rfl, hb1⟩) | (go_at_call 76; refine (right1 _ _ _ x _ (by simp)).mono ?_; rintro e w' ⟨rfl, rfl⟩))
    go_step3
    simp only [Exit.then]
    rename_i hK
    exact hK _ _ (HP.out _ _ ⟨0, 0, by omega, rfl, hb1.trans ((below1 _ _).mono hb1.size), ⟨_, _, _, _, _, _, _, _, _, _, _, _, _, _, _, _, _, _, _, _, _, _, _, _, _, _, _, _, _, _, _, _, _, _, _, _, _, _, _, _, _, _, _, _, _, _, _, _, _, _, _, rfl⟩⟩)
def bandS (sel : Bd → Int) (l : List Bd) (x : Int) : Int := progS x (fun k => (l.getD k bd0).f) (fun k => sel (l.getD k bd0)) l.length l.length
theorem bexact1_c (x : Int) (l : List Bd) (A : Option Addr) (n c : Nat) (w : World) (h : BandSl w A n l) (hl : bE9 l = 0) (hx : mrB x = true) :
  Calls prog 197 #[.int .i64 x, .slice A n c] w fun e w' => e = .returned (.tuple #[.int .i64 (bandS (·.r) l x), .int .i64 0]) ∧ Below w.heap.size w w' := by
 have h' := h
 obtain ⟨hn, hm, hc⟩ := h'
 have g := goodB l hl
 have gl := g.lo
 obtain ⟨b, off, rfl, hb, hc⟩ := hc (by omega)
 have key := fun T hT => beach_loop1 (·.r) (fun a r e w => brate1_c a r e w) x n b off c l w (by rw [hn]; exact g) (by rw [hn]; exact g.r) hx hb hc T hT h hl.symm
 obtain ⟨T, hT⟩ : ∃ T, T = bandS (·.r) l x := ⟨_, rfl⟩
 have HK := hid (key T (by unfold Hid; rw [hT, bandS, hn]))
 rw [← hT]
 clear key hT g gl hc h hl hn
 go_enter func197, ntmps197
 go_wp2_with fail
 refine HK.out.mono ?_
 rintro e w1 ⟨rfl, hb1⟩
 go_wp2_with fail
 go_ret2
 exact ⟨rfl, hb1⟩
theorem abel_le (x : Int) (f r : Nat → Int) (n : Nat) (hm : ∀ i, i + 1 < n → f i ≤ f (i + 1)) : ∀ k, k + 1 ≤ n → refS x f r (k + 1) = progS x f r n k + pos (x - f k) * r k := by
 intro k
 induction k with
 | zero =>
  intro _
  simp only [refS, progS, if_true]
  by_cases h : f 0 < x
  ·
   rw [if_pos h, pos_t (by omega)]; simp
  ·
   rw [if_neg h, pos_f (by omega)]; simp
 | succ k ih =>
  intro hk
  have h1 := ih (by omega)
  have hw : widthI x f n k = pos (x - f k) - pos (x - f (k + 1)) := by
   have := hm k (by omega)
   unfold widthI pos
   rw [if_pos (by omega)]
   omega
  rw [refS, h1, progS, hw]
  have e : (if f (k + 1) < x then (x - f (k + 1)) * (r (k + 1) - (if k + 1 = 0 then 0 else r (k + 1 - 1))) else 0) = pos (x - f (k + 1)) * (r (k + 1) - r k) := by
   rw [if_neg (show ¬ (k + 1 = 0) by omega), Nat.add_sub_cancel]
   by_cases h : f (k + 1) < x
   ·
    rw [if_pos h, pos_t (by omega)]
   ·
    rw [if_neg h, pos_f (by omega), Int.zero_mul]
  rw [e, Int.mul_sub, Int.sub_mul]
  omega
theorem ref_prog_le (x : Int) (f r : Nat → Int) (n : Nat) (hm : ∀ i, i + 1 < n → f i ≤ f (i + 1)) : refS x f r n = progS x f r n n := by
 cases n with
 | zero => rfl
 | succ n => rw [abel_le x f r (n + 1) hm n (by omega), progS, width_last x f (n + 1) n (by omega)]
theorem refS_congr (x : Int) (f g r q : Nat → Int) (n : Nat) (h : ∀ i, i < n → f i = g i ∧ r i = q i) : refS x f r n = refS x g q n := by
 induction n with
 | zero => rfl
 | succ n ih =>
  rw [refS, refS, ih (fun i hi => h i (by omega)), (h n (by omega)).1, (h n (by omega)).2]
  by_cases h0 : n = 0
  ·
   subst h0; rfl
  ·
   rw [if_neg h0, if_neg h0, (h (n - 1) (by omega)).2]
def refL (L : List Bd) (x : Int) : Int := refS x (fun k => (L.getD k bd0).f) (fun k => (L.getD k bd0).r) L.length
def lastR (L : List Bd) : Int := if L.length = 0 then 0 else (lastB L).r
theorem getD_app_lt (L : List Bd) (b : Bd) (i : Nat) (hi : i < L.length) : (L ++ [b]).getD i bd0 = L.getD i bd0 := by
 simp [List.getD, List.getElem?_append_left hi]
theorem getD_app_eq (L : List Bd) (b : Bd) : (L ++ [b]).getD L.length bd0 = b := by simp [List.getD]
theorem refL_snoc (L : List Bd) (b : Bd) (x : Int) : refL (L ++ [b]) x = refL L x + pos (x - b.f) * (b.r - lastR L) := by
 unfold refL
 rw [List.length_append, List.length_singleton, refS]
 try dsimp only
 rw [getD_app_eq, refS_congr x _ (fun k => (L.getD k bd0).f) _ (fun k => (L.getD k bd0).r) L.length (fun i hi => by rw [getD_app_lt L b i hi]; exact ⟨rfl, rfl⟩)]
 have e : (if L.length = 0 then 0 else ((L ++ [b]).getD (L.length - 1) bd0).r) = lastR L := by
  unfold lastR lastB
  by_cases h : L.length = 0
  ·
   rw [if_pos h, if_pos h]
  ·
   rw [if_neg h, if_neg h, getD_app_lt L b _ (by omega)]
 rw [e]
 by_cases h : b.f < x
 ·
  rw [if_pos h, pos_t (by omega)]
 ·
  rw [if_neg h, pos_f (by omega), Int.zero_mul]
theorem take_snoc (L : List Bd) (h : 0 < L.length) : L = L.take (L.length - 1) ++ [lastB L] := by
 have h1 : L.take (L.length - 1 + 1) = L.take (L.length - 1) ++ [L[L.length - 1]] := List.take_succ_eq_append_getElem (by omega)
 rw [show L.length - 1 + 1 = L.length by omega, List.take_length] at h1
 rw [show lastB L = L[L.length - 1] from by simp [lastB, List.getD, List.getElem?_eq_getElem (show L.length - 1 < L.length by omega)]]
 exact h1
theorem refL_drop (L : List Bd) (b : Bd) (x : Int) : refL (dropIf L b.f ++ [b]) x = refL L x + pos (x - b.f) * (b.r - lastR L) := by
 unfold dropIf
 split
 ·
  rename_i h
  have hs := take_snoc L h.1
  have h1 := refL_snoc (L.take (L.length - 1)) (lastB L) x
  rw [← hs, h.2] at h1
  rw [refL_snoc, h1]
  have hl : lastR L = (lastB L).r := by unfold lastR; rw [if_neg (by omega)]
  rw [hl, Int.mul_sub, Int.mul_sub, Int.mul_sub]
  omega
 ·
  exact refL_snoc L b x
theorem scale_lastR (l : List Bd) (n d : Int) (k : Nat) : lastR (sc9 l n d (k + 1)) = (l.getD k bd0).r := by
 have h := scale_ne l n d (k + 1) (by omega)
 unfold lastR
 rw [if_neg (by omega), scale_last]
theorem scale_ref (l : List Bd) (n d x : Int) : ∀ k, refL (sc9 l n d k) x = refS x (fr l n d) (fun k => (l.getD k bd0).r) k := by
 intro k
 induction k with
 | zero => rfl
 | succ k ih =>
  rw [sc9, refL_drop (sc9 l n d k) ⟨fr l n d k, (l.getD k bd0).r, (l.getD k bd0).e⟩ x, ih, refS]
  dsimp only
  have e : lastR (sc9 l n d k) = if k = 0 then 0 else (l.getD (k - 1) bd0).r := by
   cases k with
   | zero => rfl
   | succ k => rw [scale_lastR, if_neg (by omega), Nat.add_sub_cancel]
  rw [e]
  by_cases h : fr l n d k < x
  ·
   rw [if_pos h, pos_t (by omega)]
  ·
   rw [if_neg h, pos_f (by omega), Int.zero_mul]
structure Gd (L : List Bd) : Prop where
 b : ∀ i, i < L.length → (0 ≤ (L.getD i bd0).f ∧ (L.getD i bd0).f ≤ 100000000000) ∧ (0 ≤ (L.getD i bd0).r ∧ (L.getD i bd0).r ≤ 10000) ∧ (0 ≤ (L.getD i bd0).e ∧ (L.getD i bd0).e ≤ 10000)
 m : ∀ i, i + 1 < L.length → (L.getD i bd0).f < (L.getD (i + 1) bd0).f
 z : 0 < L.length → (L.getD 0 bd0).f = 0
theorem Gd.snoc {D : List Bd} (h : Gd D) (b : Bd) (hb : (0 ≤ b.f ∧ b.f ≤ 100000000000) ∧ (0 ≤ b.r ∧ b.r ≤ 10000) ∧ (0 ≤ b.e ∧ b.e ≤ 10000)) (h0 : D.length = 0 → b.f = 0) (hl : 0 < D.length → (lastB D).f < b.f) : Gd (D ++ [b]) := by
 refine ⟨fun i hi => ?_, fun i hi => ?_, fun _ => ?_⟩
 ·
  rw [List.length_append, List.length_singleton] at hi
  rcases (by omega : i = D.length ∨ i < D.length) with rfl | hi
  ·
   rw [getD_app_eq]; exact hb
  ·
   rw [getD_app_lt D b i hi]; exact h.b i hi
 ·
  rw [List.length_append, List.length_singleton] at hi
  rw [getD_app_lt D b i (by omega)]
  rcases (by omega : i + 1 = D.length ∨ i + 1 < D.length) with h1 | h1
  ·
   rw [h1, getD_app_eq]
   have := hl (by omega)
   unfold lastB at this
   rwa [show D.length - 1 = i by omega] at this
  ·
   rw [getD_app_lt D b (i + 1) h1]; exact h.m i h1
 ·
  by_cases h1 : D.length = 0
  ·
   have : D = [] := List.eq_nil_of_length_eq_zero h1
   subst this
   exact h0 rfl
  ·
   rw [getD_app_lt D b 0 (by omega)]; exact h.z (by omega)
theorem getD_takeB (L : List Bd) (k j : Nat) (h : j < k) : (L.take k).getD j bd0 = L.getD j bd0 := by simp [List.getD, h]
theorem Gd.take {L : List Bd} (h : Gd L) (m : Nat) (hm : m ≤ L.length) : Gd (L.take m) := by
 have hl : (L.take m).length = m := by rw [List.length_take]; omega
 refine ⟨fun i hi => ?_, fun i hi => ?_, fun hi => ?_⟩
 ·
  rw [getD_takeB L m i (by omega)]; exact h.b i (by omega)
 ·
  rw [getD_takeB L m i (by omega), getD_takeB L m (i + 1) (by omega)]; exact h.m i (by omega)
 ·
  rw [getD_takeB L m 0 (by omega)]; exact h.z (by omega)
theorem fr_mono {l : List Bd} (g : GoodB l l.length) (n d : Int) (hp : partB n d = true) (k : Nat) (hk : k + 1 < l.length) : fr l n d k ≤ fr l n d (k + 1) := by
 have hp' := partB_iff.1 hp
 have h1 := g.m k hk
 unfold fr
 exact Int.ediv_le_ediv (by omega) (Int.mul_le_mul_of_nonneg_right (by omega) hp'.1)
theorem fr_bd {l : List Bd} (g : GoodB l l.length) (n d : Int) (hp : partB n d = true) (k : Nat) (hk : k < l.length) : 0 ≤ fr l n d k ∧ fr l n d k ≤ 100000000000 := by
 have hp' := partB_iff.1 hp
 have h1 := g.f k hk
 have := part_bd (l.getD k bd0).f n d h1.1 (by omega) (by omega)
 unfold fr
 omega
theorem fr_zero {l : List Bd} (g : GoodB l l.length) (n d : Int) : fr l n d 0 = 0 := by
 unfold fr
 rw [g.f0]; simp
theorem scale_gd {l : List Bd} (g : GoodB l l.length) (n d : Int) (hp : partB n d = true) : ∀ k, k ≤ l.length → Gd (sc9 l n d k) := by
 intro k
 induction k with
 | zero => intro _; exact ⟨fun i hi => absurd hi (by simp [sc9]), fun i hi => absurd hi (by simp [sc9]), fun hi => absurd hi (by simp [sc9])⟩
 | succ k ih =>
  intro hk
  have hL := ih (by omega)
  have hb := fr_bd g n d hp k (by omega)
  rw [sc9]
  have hlast : 0 < k → (lastB (sc9 l n d k)).f = fr l n d (k - 1) := fun h0 => by
   obtain ⟨j, rfl⟩ : ∃ j, k = j + 1 := ⟨k - 1, by omega⟩
   rw [scale_last]; rfl
  have hz : (sc9 l n d k).length = 0 → k = 0 := fun h => by
   rcases Nat.eq_zero_or_pos k with h0 | h0
   ·
    exact h0
   ·
    have := scale_ne l n d k h0; omega
  unfold dropIf
  split
  ·
   rename_i h
   refine Gd.snoc (hL.take _ (by omega)) _ ⟨hb, g.r k (by omega), g.e k (by omega)⟩ (fun h1 => ?_) (fun h1 => ?_)
   ·
    rw [List.length_take] at h1
    have h2 : (sc9 l n d k).length = 1 := by omega
    have h3 := hL.z h.1
    have h4 := h.2
    unfold lastB at h4
    rw [h2] at h4
    show fr l n d k = 0
    rw [← h4]; exact h3
   ·
    have hlen : ((sc9 l n d k).take ((sc9 l n d k).length - 1)).length = (sc9 l n d k).length - 1 := by rw [List.length_take]; omega
    rw [hlen] at h1
    unfold lastB
    rw [hlen, getD_takeB _ _ _ (by omega)]
    have h3 := hL.m ((sc9 l n d k).length - 1 - 1) (by omega)
    rw [show (sc9 l n d k).length - 1 - 1 + 1 = (sc9 l n d k).length - 1 by omega] at h3
    have h4 := h.2
    unfold lastB at h4
    show _ < fr l n d k
    rw [← h4]; exact h3
  ·
   rename_i h
   refine Gd.snoc hL _ ⟨hb, g.r k (by omega), g.e k (by omega)⟩ (fun h1 => ?_) (fun h1 => ?_)
   ·
    have h0 := hz h1
    subst h0
    exact fr_zero g n d
   ·
    have h0 : 0 < k := by
     rcases Nat.eq_zero_or_pos k with h0 | h0
     ·
      subst h0; simp [sc9] at h1
     ·
      exact h0
    have hne : (lastB (sc9 l n d k)).f ≠ fr l n d k := fun h2 => h ⟨h1, h2⟩
    have hm := fr_mono g n d hp (k - 1) (by omega)
    rw [show k - 1 + 1 = k by omega] at hm
    have := hlast h0
    show (lastB (sc9 l n d k)).f < fr l n d k
    omega
theorem firstNZ_zero (f : Nat → Int) (n : Nat) (h : ∀ k, k < n → f k = 0) : fz9 f n = 0 := by
 induction n with
 | zero => rfl
 | succ n ih => exact ft9 f n (ih (fun k hk => h k (by omega))) (h n (by omega))
theorem Gd.err {L : List Bd} (h : Gd L) (h1 : 0 < L.length) (h8 : L.length ≤ 8) : bE9 L = 0 := by
 unfold bE9
 rw [if_neg (by omega)]
 refine firstNZ_zero _ _ (fun k hk => ?_)
 have hb := h.b k hk
 unfold bandAt bandV
 rw [if_neg, if_neg, if_neg]
 ·
  rw [rateB_iff, rateB_iff]; exact fun hn => hn ⟨hb.2.1, hb.2.2⟩
 ·
  rintro ⟨h0, h2⟩
  have := h.m (k - 1) (by omega)
  rw [show k - 1 + 1 = k by omega] at this
  omega
 ·
  rintro (h0 | h0 | ⟨h0, h2⟩)
  ·
   omega
  ·
   omega
  ·
   subst h0; exact h2 (h.z h1)
theorem scale_err {l : List Bd} (hl : bE9 l = 0) (n d : Int) (hp : partB n d = true) : bE9 (sc9 l n d l.length) = 0 := by
 have g := goodB l hl
 exact (scale_gd g n d hp l.length (Nat.le_refl _)).err (scale_ne l n d _ g.lo) (by have := scale_len l n d l.length; have := g.hi; omega)
theorem scale_val {l : List Bd} (hl : bE9 l = 0) (n d x : Int) (hp : partB n d = true) : bandS (·.r) (sc9 l n d l.length) x = progS x (fr l n d) (fun k => (l.getD k bd0).r) l.length l.length := by
 have g := goodB l hl
 have gs := goodB _ (scale_err hl n d hp)
 unfold bandS
 rw [← ref_prog x _ _ _ gs.m, ← ref_prog_le x _ _ _ (fun k hk => fr_mono g n d hp k hk)]
 exact scale_ref l n d x l.length
theorem of2025_c (w : World) : Calls Tryz.prog 144 #[.int .i64 45750] w fun e w' => e = .returned (.tuple #[.agg #[.int .i64 2025, .int .i64 4, .int .i64 5], .int .i64 0]) ∧ Below w.heap.size w w' := by
 have y := (Blk.mk w 152 #[.int .i64 0, .int .i64 0, .int .i64 0]).alloc (.cells #[.int .i64 2025, .int .i64 1, .int .i64 1] 152)
 have x := Blk.mk (w.alloc (.cells #[.int .i64 0, .int .i64 0, .int .i64 0] 152)) 152 #[.int .i64 2025, .int .i64 1, .int .i64 1]
 rw [World.size_alloc] at x
 have hb0 := bA (below1 w (.cells #[.int .i64 0, .int .i64 0, .int .i64 0] 152)) (.cells #[.int .i64 2025, .int .i64 1, .int .i64 1] 152)
 go_enter Tryz.func144, Tryz.ntmps144
 go_wp2_with fail
 refine wp_loop_rounds 1 ?_
 rw [rounds_succ]
 go_wp2_with fail
 refine (number2026_1_c _).mono ?_
 rintro e w1 ⟨rfl, hb1⟩
 have hb2 := bT hb0 hb1
 have y1 := y.t hb1
 have x1 := x.t hb1
 obtain ⟨a0, a1, a2, a3, a4, a5⟩ := x1.a3
 go_wp2_with fail
 refine (number2025_1_c _).mono ?_
 rintro e w2 ⟨rfl, hb3⟩
 have hb4 := bT hb2 hb3
 have y2 := y1.t hb3
 have x2 := x1.t hb3
 obtain ⟨a0, a1, a2, a3, a4, a5⟩ := x2.a3
 have x3 : Blk (((w2.setCell ⟨w.heap.size + 1, 1, none⟩ (.int .i64 2)).setCell ⟨w.heap.size + 1, 1, none⟩ (.int .i64 3)).setCell ⟨w.heap.size + 1, 1, none⟩ (.int .i64 4)) (w.heap.size + 1) 152 #[.int .i64 2025, .int .i64 4, .int .i64 1] := ((x2.put 1 (.int .i64 2)).put 1 (.int .i64 3)).put 1 (.int .i64 4)
 obtain ⟨a6, a7, a8, a9, a10, a11⟩ := x3.a3
 go_wp2_with fail
 refine wp_loop_rounds 4 ?_
 rw [rounds_succ]
 go_wp2_with fail
 refine (last2025_1_c _).mono ?_
 rintro e w' ⟨rfl, rfl⟩
 go_wp2_with fail
 refine (last2025_1_c _).mono ?_
 rintro e w' ⟨rfl, rfl⟩
 go_wp2_with fail
 rw [rounds_succ]
 go_wp2_with fail
 refine (last2025_2_c _).mono ?_
 rintro e w' ⟨rfl, rfl⟩
 go_wp2_with fail
 refine (last2025_2_c _).mono ?_
 rintro e w' ⟨rfl, rfl⟩
 go_wp2_with fail
 rw [rounds_succ]
 go_wp2_with fail
 refine (last2025_3_c _).mono ?_
 rintro e w' ⟨rfl, rfl⟩
 go_wp2_with fail
 refine (last2025_3_c _).mono ?_
 rintro e w' ⟨rfl, rfl⟩
 go_wp2_with fail
 rw [rounds_succ]
 go_wp2_with fail
 have hb5 := bS (bS (bS hb4 (p := ⟨w.heap.size + 1, 1, none⟩) (Nat.le_succ _) (.int .i64 2)) (p := ⟨w.heap.size + 1, 1, none⟩) (Nat.le_succ _) (.int .i64 3)) (p := ⟨w.heap.size + 1, 1, none⟩) (Nat.le_succ _) (.int .i64 4)
 have y3 := ((y2.far (a := ⟨w.heap.size + 1, 1, none⟩) (Nat.ne_of_lt (Nat.lt_succ_self _)) (.int .i64 2)).far (a := ⟨w.heap.size + 1, 1, none⟩) (Nat.ne_of_lt (Nat.lt_succ_self _)) (.int .i64 3)).far (a := ⟨w.heap.size + 1, 1, none⟩) (Nat.ne_of_lt (Nat.lt_succ_self _)) (.int .i64 4)
 generalize hW : ((w2.setCell ⟨w.heap.size + 1, 1, none⟩ (.int .i64 2)).setCell ⟨w.heap.size + 1, 1, none⟩ (.int .i64 3)).setCell ⟨w.heap.size + 1, 1, none⟩ (.int .i64 4) = w3 at *
 clear hW
 obtain ⟨b0, b1, b2, b3, b4, b5⟩ := y3.a3
 refine (last2025_4_c _).mono ?_
 rintro e w' ⟨rfl, rfl⟩
 go_wp2_with fail
 exact bodyPost_ret (v := .tuple #[.agg #[.int .i64 2025, .int .i64 4, .int .i64 5], .int .i64 0]) (by simp [results, Tryz.results144, go_sem, b0, b1, b2]) rfl ⟨rfl, bS (bS (bS (bS hb5 (Nat.le_succ _) _) (Nat.le_refl _) _) (Nat.le_refl _) _) (Nat.le_refl _) _⟩
theorem dadd2025_c (w : World) : Calls Tryz.prog 103 #[.agg #[.int .i64 2025, .int .i64 4, .int .i64 6], .int .i64 (-1)] w fun e w' => e = .returned (.tuple #[.agg #[.int .i64 2025, .int .i64 4, .int .i64 5], .int .i64 0]) ∧ Below w.heap.size w w' := by
 have y := Blk.mk (w.alloc (.cells #[.int .i64 2025, .int .i64 4, .int .i64 6] 152)) 152 #[.int .i64 0, .int .i64 0, .int .i64 0]
 rw [World.size_alloc] at y
 have hb0 := bA (below1 w (.cells #[.int .i64 2025, .int .i64 4, .int .i64 6] 152)) (.cells #[.int .i64 0, .int .i64 0, .int .i64 0] 152)
 go_enter Tryz.func103, Tryz.ntmps103
 go_wp2_with fail
 refine (number2025_4_c _).mono ?_
 rintro e w1 ⟨rfl, hb1⟩
 have hb2 := bT hb0 hb1
 have y1 := y.t hb1
 go_wp2_with fail
 refine (of2025_c _).mono ?_
 rintro e w2 ⟨rfl, hb3⟩
 have hb4 := bT hb2 hb3
 obtain ⟨b0, b1, b2, b3, b4, b5⟩ := (y1.t hb3).a3
 go_wp2_with fail
 exact bodyPost_ret (v := .tuple #[.agg #[.int .i64 2025, .int .i64 4, .int .i64 5], .int .i64 0]) (by simp [results, Tryz.results103, go_sem, b0, b1, b2]) rfl ⟨rfl, bS (bS (bS hb4 (Nat.le_succ _) _) (Nat.le_succ _) _) (Nat.le_succ _) _⟩
theorem between2024_c (w : World) : Calls Tryz.prog 105 #[.agg #[.int .i64 2024, .int .i64 4, .int .i64 6], .agg #[.int .i64 2025, .int .i64 4, .int .i64 6]] w fun e w' => e = .returned (.tuple #[.int .i64 365, .int .i64 0]) ∧ Below w.heap.size w w' := by
 have x := (Blk.mk w 152 #[.int .i64 2024, .int .i64 4, .int .i64 6]).alloc (.cells #[.int .i64 2025, .int .i64 4, .int .i64 6] 152)
 have y := Blk.mk (w.alloc (.cells #[.int .i64 2024, .int .i64 4, .int .i64 6] 152)) 152 #[.int .i64 2025, .int .i64 4, .int .i64 6]
 rw [World.size_alloc] at y
 have hb0 := bA (below1 w (.cells #[.int .i64 2024, .int .i64 4, .int .i64 6] 152)) (.cells #[.int .i64 2025, .int .i64 4, .int .i64 6] 152)
 go_enter Tryz.func105, Tryz.ntmps105
 go_wp2_with fail
 refine (number2024_4_c _).mono ?_
 rintro e w1 ⟨rfl, hb1⟩
 have hb2 := bT hb0 hb1
 obtain ⟨b0, b1, b2, b3, b4, b5⟩ := (y.t hb1).a3
 go_wp2_with fail
 refine (number2025_4_c _).mono ?_
 rintro e w2 ⟨rfl, hb3⟩
 go_wp2_with fail
 go_ret2
 exact ⟨rfl, bT hb2 hb3⟩
def nomI (f : Int) : Int := if f = 1 then 52 else if f = 2 then 26 else if f = 3 then 13 else if f = 4 then 12 else 0
theorem nominal_c (f : Int) (w : World) : Calls Tryz.prog 101 #[.int .i64 f] w fun e w' => e = .returned (.int .i64 (nomI f)) ∧ w = w' := by
 by_cases h : f = 1 ∨ f = 2 ∨ f = 3 ∨ f = 4
 ·
  rcases h with rfl | rfl | rfl | rfl
  all_goals
   go_enter Tryz.func101, Tryz.ntmps101
   go_wp2
   go_ret
   exact ⟨rfl, rfl⟩
 ·
  have h1 : (f == 1) = false := by simp; omega
  have h2 : (f == 2) = false := by simp; omega
  have h3 : (f == 3) = false := by simp; omega
  have h4 : (f == 4) = false := by simp; omega
  have e : Hid (nomI f = 0) := by unfold Hid nomI; rw [if_neg (by omega), if_neg (by omega), if_neg (by omega), if_neg (by omega)]
  clear h
  go_enter Tryz.func101, Tryz.ntmps101
  go_wp2
  go_ret
  exact ⟨ret_int e.out.symm, rfl⟩
theorem Blk.a9 {w : World} {g : Nat} {t : TypeId} {a b c d e f x y z : Value} (h : Blk w g t #[a, b, c, d, e, f, x, y, z]) : w.cell? ⟨g, 0, none⟩ = some a ∧ w.cell? ⟨g, 1, none⟩ = some b ∧ w.cell? ⟨g, 2, none⟩ = some c ∧ w.cell? ⟨g, 3, none⟩ = some d ∧ w.cell? ⟨g, 4, none⟩ = some e ∧ w.cell? ⟨g, 5, none⟩ = some f ∧ w.cell? ⟨g, 6, none⟩ = some x ∧ w.cell? ⟨g, 7, none⟩ = some y ∧ w.cell? ⟨g, 8, none⟩ = some z :=
 ⟨h.cell 0, h.cell 1, h.cell 2, h.cell 3, h.cell 4, h.cell 5, h.cell 6, h.cell 7, h.cell 8⟩
theorem nom_cases (f : Int) (h : nomI f ≠ 0) : f = 1 ∨ f = 2 ∨ f = 3 ∨ f = 4 := by
 unfold nomI at h
 by_cases h1 : f = 1
 ·
  exact Or.inl h1
 by_cases h2 : f = 2
 ·
  exact Or.inr (Or.inl h2)
 by_cases h3 : f = 3
 ·
  exact Or.inr (Or.inr (Or.inl h3))
 by_cases h4 : f = 4
 ·
  exact Or.inr (Or.inr (Or.inr h4))
 ·
  rw [if_neg h1, if_neg h2, if_neg h3, if_neg h4] at h; exact absurd rfl h
def YrAt (w : World) (g : Nat) (f days : Int) : Prop := ∃ a b c d e x y, Blk w g 202 #[.int .i64 f, a, b, c, d, e, x, y, .int .i64 days]
theorem YrAt.t {w w' : World} {g : Nat} {f d : Int} (h : YrAt w g f d) (hb : Below w.heap.size w w') : YrAt w' g f d := by
 obtain ⟨a, b, c, d, e, x, y, h⟩ := h
 exact ⟨a, b, c, d, e, x, y, h.t hb⟩
def NewYr (f days : Int) (w : World) (e : Ending) (w' : World) : Prop := (∃ g, e = .returned (.tuple #[.pointer (some ⟨g, 0, none⟩), .int .i64 0]) ∧ YrAt w' g f days ∧ g < w'.heap.size ∧ w.heap.size ≤ g) ∧ Below w.heap.size w w'
theorem new2024_yes (f : Int) (h : nomI f ≠ 0) (w : World) : Calls prog 68 #[.int .i64 f, .agg #[.int .i64 2024, .int .i64 4, .int .i64 6]] w (NewYr f 365 w) := by
 have K := hid (nominal_c f)
 have hz : (nomI f == 0) = false := by simpa using h
 generalize nomI f = nf at *
 have z := Blk.mk w 152 #[.int .i64 2024, .int .i64 4, .int .i64 6]
 have hb0 := below1 w (.cells #[.int .i64 2024, .int .i64 4, .int .i64 6] 152)
 obtain ⟨a0, a1, a2, a3, a4, a5⟩ := z.a3
 clear h
 go_enter func68, ntmps68
 go_wp2_with fail
 refine (K.out _).mono ?_
 rintro e w' ⟨rfl, rfl⟩
 go_wp2_with fail
 refine (months2024_c _).mono ?_
 rintro e w1 ⟨rfl, hb1⟩
 have hb2 := bT hb0 hb1
 have z1 := (z.t hb1).alloc (.cells #[.int .i64 2025, .int .i64 4, .int .i64 6] 152)
 have y1 := Blk.mk w1 152 #[.int .i64 2025, .int .i64 4, .int .i64 6]
 have hb3 := bA hb2 (.cells #[.int .i64 2025, .int .i64 4, .int .i64 6] 152)
 obtain ⟨a0, a1, a2, a3, a4, a5⟩ := z1.a3
 go_wp2_with fail
 refine (dadd2025_c _).mono ?_
 rintro e w2 ⟨rfl, hb4⟩
 have hb5 := bT hb3 hb4
 have x2 := Blk.mk w2 152 #[.int .i64 2025, .int .i64 4, .int .i64 5]
 have z2 := (z1.t hb4).alloc (.cells #[.int .i64 2025, .int .i64 4, .int .i64 5] 152)
 have y2 := (y1.t hb4).alloc (.cells #[.int .i64 2025, .int .i64 4, .int .i64 5] 152)
 obtain ⟨a0, a1, a2, a3, a4, a5⟩ := z2.a3
 obtain ⟨c0, c1, c2, c3, c4, c5⟩ := y2.a3
 have hb6 := bA hb5 (.cells #[.int .i64 2025, .int .i64 4, .int .i64 5] 152)
 have yr := Blk.mk (w2.alloc (.cells #[.int .i64 2025, .int .i64 4, .int .i64 5] 152)) 202 #[.int .i64 f, .int .i64 2024, .int .i64 4, .int .i64 6, .int .i64 2025, .int .i64 4, .int .i64 5, .int .i64 0, .int .i64 0]
 rw [World.size_alloc] at yr
 have z3 := z2.alloc (.cells #[.int .i64 f, .int .i64 2024, .int .i64 4, .int .i64 6, .int .i64 2025, .int .i64 4, .int .i64 5, .int .i64 0, .int .i64 0] 202)
 have y3 := y2.alloc (.cells #[.int .i64 f, .int .i64 2024, .int .i64 4, .int .i64 6, .int .i64 2025, .int .i64 4, .int .i64 5, .int .i64 0, .int .i64 0] 202)
 have hb7 := bA hb6 (.cells #[.int .i64 f, .int .i64 2024, .int .i64 4, .int .i64 6, .int .i64 2025, .int .i64 4, .int .i64 5, .int .i64 0, .int .i64 0] 202)
 obtain ⟨p0, p1, p2, p3, p4, p5⟩ := z3.a3
 go_wp2_with fail
 refine (number2024_4_c _).mono ?_
 rintro e w3 ⟨rfl, hb8⟩
 have hb9 := bT hb7 hb8
 have yr2 := yr.t hb8
 have yr2f := yr2.free 7
 have yr2c := yr2.cell 7
 have z4 := z3.t hb8
 have y4 := y3.t hb8
 obtain ⟨a0, a1, a2, a3, a4, a5⟩ := z4.a3
 obtain ⟨c0, c1, c2, c3, c4, c5⟩ := y4.a3
 have yr3 := yr2.put 7 (.int .i64 45386)
 have z5 := z4.far (a := ⟨w2.heap.size + 1, 7, none⟩) (by have := z1.lt; have := hb4.size; simp at *; omega) (.int .i64 45386)
 have y5 := y4.far (a := ⟨w2.heap.size + 1, 7, none⟩) (by have := y1.lt; have := hb4.size; simp at *; omega) (.int .i64 45386)
 obtain ⟨d0, d1, d2, d3, d4, d5⟩ := z5.a3
 obtain ⟨e0, e1, e2, e3, e4, e5⟩ := y5.a3
 have hs2 := hb5.size
 have hb10 := bS hb9 (p := ⟨w2.heap.size + 1, 7, none⟩) (Nat.le_succ_of_le hs2) (.int .i64 45386)
 go_wp2_with fail
 refine (between2024_c _).mono ?_
 rintro e w4 ⟨rfl, hb11⟩
 have hb12 := bT hb10 hb11
 have yr4 : Blk w4 (w2.heap.size + 1) 202 #[.int .i64 f, .int .i64 2024, .int .i64 4, .int .i64 6, .int .i64 2025, .int .i64 4, .int .i64 5, .int .i64 45386, .int .i64 0] := yr3.t hb11
 have yr4f := yr4.free 8
 have yr4c := yr4.cell 8
 have yr5 : Blk (w4.setCell ⟨w2.heap.size + 1, 8, none⟩ (.int .i64 365)) (w2.heap.size + 1) 202 #[.int .i64 f, .int .i64 2024, .int .i64 4, .int .i64 6, .int .i64 2025, .int .i64 4, .int .i64 5, .int .i64 45386, .int .i64 365] := yr4.put 8 (.int .i64 365)
 go_wp2_with fail
 go_ret2
 exact ⟨⟨_, rfl, ⟨_, _, _, _, _, _, _, yr5⟩, yr5.lt, Nat.le_succ_of_le hs2⟩, bS hb12 (p := ⟨w2.heap.size + 1, 8, none⟩) (Nat.le_succ_of_le hs2) _⟩
def lenI (f : Int) : Int := if f = 1 then 7 else if f = 2 then 14 else if f = 3 then 28 else 0
theorem length_c (f : Int) (h : nomI f ≠ 0) (w : World) : Calls prog 110 #[.int .i64 f] w fun e w' => e = .returned (.int .i64 (lenI f)) ∧ w = w' := by
 rcases nom_cases f h with rfl | rfl | rfl | rfl
 all_goals
  go_enter func110, ntmps110
  go_wp2
  go_ret
  exact ⟨rfl, rfl⟩
def cntI (f days : Int) : Int := if f = 1 then (days + 6) / 7 else if f = 2 then (days + 13) / 14 else if f = 3 then (days + 27) / 28 else 12
theorem count_c (f days : Int) (h : nomI f ≠ 0) (hd : 0 ≤ days ∧ days ≤ 366) (g : Nat) (w : World) (hy : YrAt w g f days) : Calls prog 73 #[.pointer (some ⟨g, 0, none⟩)] w fun e w' => e = .returned (.int .i64 (cntI f days)) ∧ w = w' := by
 obtain ⟨a, b, c, d, e, x, y, z⟩ := hy
 obtain ⟨c0, _, _, _, _, _, _, _, c8⟩ := z.a9
 have K := hid (length_c f h)
 have K2 := hid (nominal_c f)
 rcases nom_cases f h with rfl | rfl | rfl | rfl
 ·
  rw [show lenI 1 = 7 from rfl] at K
  clear h
  go_enter func73, ntmps73
  go_wp2_with fail
  refine (K.out _).mono ?_
  rintro e w' ⟨rfl, rfl⟩
  go_wp2_with fail
  go_ret
  exact ⟨ret_int (by simp [cntI]; omega), rfl⟩
 ·
  rw [show lenI 2 = 14 from rfl] at K
  clear h
  go_enter func73, ntmps73
  go_wp2_with fail
  refine (K.out _).mono ?_
  rintro e w' ⟨rfl, rfl⟩
  go_wp2_with fail
  go_ret
  exact ⟨ret_int (by simp [cntI]; omega), rfl⟩
 ·
  rw [show lenI 3 = 28 from rfl] at K
  clear h
  go_enter func73, ntmps73
  go_wp2_with fail
  refine (K.out _).mono ?_
  rintro e w' ⟨rfl, rfl⟩
  go_wp2_with fail
  go_ret
  exact ⟨ret_int (by simp [cntI]; omega), rfl⟩
 ·
  rw [show lenI 4 = 0 from rfl] at K
  rw [show nomI 4 = 12 from rfl] at K2
  clear h
  go_enter func73, ntmps73
  go_wp2_with fail
  refine (K.out _).mono ?_
  rintro e w' ⟨rfl, rfl⟩
  go_wp2_with fail
  refine (K2.out _).mono ?_
  rintro e w' ⟨rfl, rfl⟩
  go_wp2_with fail
  go_ret
  exact ⟨rfl, rfl⟩
theorem ypart_t (f days k : Int) (h : nomI f ≠ 0) (hd : 0 ≤ days ∧ days ≤ 366) (g : Nat) (w : World) (hy : YrAt w g f days) (hk : 1 ≤ k ∧ k ≤ cntI f days) : Calls prog 158 #[.pointer (some ⟨g, 0, none⟩), .int .i64 k] w fun e w' => e = .returned (.tuple #[.int .i64 (min k (nomI f)), .int .i64 (nomI f), .int .i64 0]) ∧ Below w.heap.size w w' := by
 have K := hid (count_c f days h hd g w hy)
 have K2 := hid (nominal_c f)
 obtain ⟨a, b, c, d, e, x, y, z⟩ := hy
 obtain ⟨c0, _, _, _, _, _, _, _, c8⟩ := z.a9
 generalize cntI f days = n at *
 generalize nomI f = nf at *
 have h1 : ¬ k < 1 := by omega
 have h2 : decide (k < 1) = false := by simpa using h1
 have h3 : ¬ n < k := by omega
 have h4 : decide (n < k) = false := by simpa using h3
 clear h
 go_enter func158, ntmps158
 go_wp2_with fail
 refine K.out.mono ?_
 rintro e w' ⟨rfl, rfl⟩
 go_wp2_with fail
 go_quiet ((go_at_call 101; exact Calls.quiet_of_same ((K2.out _).mono fun e w' h => ⟨h.1, h.2.symm⟩)))
 go_wp2_with fail
 go_ret3
 exact ⟨rfl, below_drewN (Below.refl _ _) _⟩
def kdX (l : List Kd) (nm : ByteArray) : Kd := (l.find? fun x => decide (x.nm = nm)).getD kd0
def kdE (l : List Kd) (nm : ByteArray) : Int := if l.any (fun x => decide (x.nm = nm)) = true then 0 else 110
theorem kd_at {l : List Kd} {nm : ByteArray} {k : Nat} (hk : k < l.length) (h1 : (l.getD k kd0).nm = nm) (h2 : ∀ j, j < k → (l.getD j kd0).nm ≠ nm) : kdX l nm = l.getD k kd0 ∧ kdE l nm = 0 := by
 unfold kdX kdE
 constructor
 ·
  induction l generalizing k with
  | nil => simp at hk
  | cons x l ih =>
   cases k with
   | zero =>
    have : x.nm = nm := h1
    simp [this]
   | succ k =>
    have h0 : x.nm ≠ nm := h2 0 (by omega)
    have := ih (k := k) (by simpa using hk) (by simpa using h1) (fun j hj => by simpa using h2 (j + 1) (by omega))
    simp only [List.find?_cons, decide_eq_false h0]
    simpa using this
 ·
  rw [if_pos]
  rw [List.any_eq_true]
  refine ⟨l[k], List.getElem_mem hk, ?_⟩
  have e : l.getD k kd0 = l[k] := by simp [List.getD, List.getElem?_eq_getElem hk]
  rw [e] at h1
  simpa using h1
theorem kd_no {l : List Kd} {nm : ByteArray} (h : ∀ j, j < l.length → (l.getD j kd0).nm ≠ nm) : kdX l nm = kd0 ∧ kdE l nm = 110 := by
 have h' : ∀ x ∈ l, x.nm ≠ nm := fun x hx => by
  obtain ⟨j, hj, rfl⟩ := List.getElem_of_mem hx
  have := h j hj
  rwa [show l.getD j kd0 = l[j] by simp [List.getD, List.getElem?_eq_getElem hj]] at this
 unfold kdX kdE
 constructor
 ·
  rw [List.find?_eq_none.2 (fun x hx => by simpa using h' x hx)]; rfl
 ·
  rw [if_neg]
  rw [List.any_eq_true]
  rintro ⟨x, hx, e⟩
  exact h' x hx (by simpa using e)
theorem str_neqk {a b : ByteArray} (h : a ≠ b) : (a.toList == b.toList) = false := by
 rw [beq_eq_false_iff_ne]
 intro e
 rw [ByteArray.toList_eq, ByteArray.toList_eq] at e
 apply h
 cases a; cases b
 simp at e
 rw [e]
theorem Blk.a4f {w : World} {g : Nat} {t : TypeId} {a b c d : Value} (h : Blk w g t #[a, b, c, d]) : (w.cell? ⟨g, 0, none⟩ = some a ∧ w.cell? ⟨g, 1, none⟩ = some b ∧ w.cell? ⟨g, 2, none⟩ = some c ∧ w.cell? ⟨g, 3, none⟩ = some d) ∧
  w.frozen? ⟨g, 0, none⟩ = false ∧ w.frozen? ⟨g, 1, none⟩ = false ∧ w.frozen? ⟨g, 2, none⟩ = false ∧ w.frozen? ⟨g, 3, none⟩ = false :=
 ⟨⟨h.cell 0, h.cell 1, h.cell 2, h.cell 3⟩, h.free 0, h.free 1, h.free 2, h.free 3⟩
theorem kind_c (kds : List Kd) (As Ac Ak : Option Addr) (ns cs nc cc nk ck : Nat) (lim rnd : Int) (nm : ByteArray) (w : World) (hs : KdSl w Ak nk kds) (rx : Kd) (re : Int) (hx : Hid (rx = kdX kds nm)) (he : Hid (re = kdE kds nm)) :
  Calls prog 121 #[.agg #[.slice As ns cs, .slice Ac nc cc, .slice Ak nk ck, .int .i64 lim, .int .i64 rnd], .string nm] w fun e w' => e = .returned (.tuple #[.agg #[.string rx.nm, .int .i64 rx.c, .int .i64 rx.t, .int .i64 rx.s], .int .i64 re]) ∧ Below w.heap.size w w' := by
 have hb0 := bA (below1 w (.cells #[.slice As ns cs, .slice Ac nc cc, .slice Ak nk ck, .int .i64 lim, .int .i64 rnd] 26)) (.cells #[.string ⟨#[]⟩, .int .i64 0, .int .i64 0, .int .i64 0] 148)
 have y := (Blk.mk w 26 #[.slice As ns cs, .slice Ac nc cc, .slice Ak nk ck, .int .i64 lim, .int .i64 rnd]).alloc (.cells #[.string ⟨#[]⟩, .int .i64 0, .int .i64 0, .int .i64 0] 148)
 have z := Blk.mk (w.alloc (.cells #[.slice As ns cs, .slice Ac nc cc, .slice Ak nk ck, .int .i64 lim, .int .i64 rnd] 26)) 148 #[.string ⟨#[]⟩, .int .i64 0, .int .i64 0, .int .i64 0]
 have HS := hid (KdSl.below hs hb0)
 have hn9 := hs.2.1
 have HN : Hid (nk = kds.length) := hs.1
 have q2 := y.cell 2
 have HZ : Hid (∀ W, Below ((w.alloc (.cells #[.slice As ns cs, .slice Ac nc cc, .slice Ak nk ck, .int .i64 lim, .int .i64 rnd] 26)).alloc (.cells #[.string ⟨#[]⟩, .int .i64 0, .int .i64 0, .int .i64 0] 148)).heap.size ((w.alloc (.cells #[.slice As ns cs, .slice Ac nc cc, .slice Ak nk ck, .int .i64 lim, .int .i64 rnd] 26)).alloc (.cells #[.string ⟨#[]⟩, .int .i64 0, .int .i64 0, .int .i64 0] 148)) W → Blk W (w.heap.size + 1) 148 #[.string ⟨#[]⟩, .int .i64 0, .int .i64 0, .int .i64 0]) := fun W h => by
  have := z.t h
  simpa using this
 clear hs
 go_enter func121, ntmps121
 go_wp2_with fail
 clear q2
 go_loopw [11] (fun i wr => ∃ k : Nat, k ≤ nk ∧ i = .int .i64 k ∧ Hid (∀ j, j < k → (kds.getD j kd0).nm ≠ nm) ∧ Below ((w.alloc (.cells #[.slice As ns cs, .slice Ac nc cc, .slice Ak nk ck, .int .i64 lim, .int .i64 rnd] 26)).alloc (.cells #[.string ⟨#[]⟩, .int .i64 0, .int .i64 0, .int .i64 0] 148)).heap.size ((w.alloc (.cells #[.slice As ns cs, .slice Ac nc cc, .slice Ak nk ck, .int .i64 lim, .int .i64 rnd] 26)).alloc (.cells #[.string ⟨#[]⟩, .int .i64 0, .int .i64 0, .int .i64 0] 148)) wr) (fun i _ => nk - (intOf i).toNat)
 case atStart => exact ⟨0, Nat.zero_le _, rfl, fun j hj => absurd hj (by omega), b0 _⟩
 case round =>
  obtain ⟨k, hk', rfl, HA, hbl⟩ := hrel
  have hBl := bT hb0 hbl
  have hsz := hBl.size
  have z1 := HZ.out wr hbl
  have hzl := z1.lt
  have hzne : w.heap.size + 1 ≠ wr.heap.size := Nat.ne_of_lt hzl
  by_cases hk : k < nk
  case neg =>
   obtain rfl : k = nk := by omega
   obtain ⟨e1, e2⟩ := kd_no (l := kds) (nm := nm) (by rw [← HN.out]; exact HA.out)
   obtain rfl : rx = kd0 := hx.out.trans e1
   obtain rfl : re = 110 := he.out.trans e2
   obtain ⟨⟨p0, p1, p2, p3⟩, f0, f1, f2, f3⟩ := z1.a4f
   clear e1 e2 hx he
   go_wp2_with fail
   refine bodyPost_ret (v := .tuple #[.agg #[.string ⟨#[]⟩, .int .i64 0, .int .i64 0, .int .i64 0], .int .i64 110]) (by simp [results, results121, go_sem, p0, p1, p2, p3]) rfl ⟨rfl, ?_⟩
   exact bS (bS (bS (bS hBl (Nat.le_succ _) _) (Nat.le_succ _) _) (Nat.le_succ _) _) (Nat.le_succ _) _
  obtain ⟨b, off, rfl, hlt, hat⟩ := (HS.out.below hbl).2.2 (by omega)
  obtain ⟨c0, _, c1, c2, c3⟩ := hat k hk
  have HKX : Hid ((kds.getD k kd0).nm = nm → rx = kds.getD k kd0 ∧ re = 0) := fun h => by
   obtain ⟨e1, e2⟩ := kd_at (by rw [← HN.out]; exact hk) h HA.out
   exact ⟨hx.out.trans e1, he.out.trans e2⟩
  have HA2 : Hid ((kds.getD k kd0).nm ≠ nm → ∀ j, j < k + 1 → (kds.getD j kd0).nm ≠ nm) := fun h j hj => by
   rcases (by omega : j = k ∨ j < k) with rfl | hj
   ·
    exact h
   ·
    exact HA.out j hj
  generalize kds.getD k kd0 = x at *
  obtain ⟨xn, xc, xt, xs⟩ := x
  dsimp only at c0 c1 c2 c3
  have hbx := bA hbl (.cells #[.string xn, .int .i64 xc, .int .i64 xt, .int .i64 xs] 148)
  have x1 := Blk.mk wr 148 #[.string xn, .int .i64 xc, .int .i64 xt, .int .i64 xs]
  have z2 := z1.alloc (.cells #[.string xn, .int .i64 xc, .int .i64 xt, .int .i64 xs] 148)
  clear hat
  by_cases hy : xn = nm
  ·
   obtain ⟨rfl, rfl⟩ := HKX.out hy
   have v1 : (xn.toList == nm.toList) = true := by rw [hy]; simp
   obtain ⟨⟨p0, p1, p2, p3⟩, f0, f1, f2, f3⟩ := z1.a4f
   clear hy hx he HKX HA2
   go_wp2_with fail
   refine bodyPost_ret (v := .tuple #[.agg #[.string xn, .int .i64 xc, .int .i64 xt, .int .i64 xs], .int .i64 0]) (by simp [results, results121, go_sem, ca9, p0, p1, p2, p3, hzne]) rfl ⟨rfl, ?_⟩
   exact bA (bS (bS (bS (bS hBl (Nat.le_succ _) _) (Nat.le_succ _) _) (Nat.le_succ _) _) (Nat.le_succ _) _) _
  ·
   have v1 := str_neqk hy
   have HA3 := hid (HA2.out hy)
   clear hy HKX HA2
   go_wp2_with fail
   go_roundw
   case rel => exact ⟨k + 1, by omega, by go_num, HA3.out, hbx⟩
   case measure => simp [intOf]; omega
structure CtP where
 x : Ct
 A : Option Addr
 m : Nat
 c : Nat
def ctp0 : CtP := ⟨ct0, none, 0, 0⟩
def ctPC (p : CtP) : List Value := [.string p.x.nm, .int .i64 p.x.base, .slice p.A p.m p.c, .int .i64 p.x.pc, .int .i64 p.x.yc, .int .i64 p.x.rd]
theorem ctPC_len (p : CtP) : (ctPC p).length = 6 := rfl
structure ScP where
 x : List Bd
 A : Option Addr
 m : Nat
 c : Nat
def scp0 : ScP := ⟨[], none, 0, 0⟩
def scPC (p : ScP) : List Value := [.slice p.A p.m p.c]
theorem scPC_len (p : ScP) : (scPC p).length = 1 := rfl
theorem kdC_len (p : Kd) : (kdC p).length = 4 := rfl
/-! ### out of what is read, and back -/
theorem ct_rows {w : World} {A : Option Addr} {n : Nat} {l : List Ct} (h : CtSl w A n l) : ∃ lp : List CtP, lp.map CtP.x = l ∧ RowSl ctPC 6 ctp0 w A n lp ∧ (∀ p ∈ lp, BandSl w p.A p.m p.x.bands ∧ p.x.nm.size ≤ 9223372036854775807) := by
 obtain ⟨h1, h2, h3⟩ := h
 rcases Nat.eq_zero_or_pos n with h0 | h0
 ·
  subst h0
  have : l = [] := List.eq_nil_of_length_eq_zero h1.symm
  subst this
  exact ⟨[], rfl, ⟨rfl, by decide, fun h => absurd h (by decide)⟩, fun p hp => by simp at hp⟩
 obtain ⟨b, off, hA, hlt, hat⟩ := h3 h0
 have key : ∀ m, m ≤ n → ∃ lp : List CtP, lp.map CtP.x = l.take m ∧ (∀ k, k < m → RowAt ctPC w b (off + k * 6) (lp.getD k ctp0)) ∧ (∀ p ∈ lp, BandSl w p.A p.m p.x.bands ∧ p.x.nm.size ≤ 9223372036854775807) := by
  intro m
  induction m with
  | zero => exact fun _ => ⟨[], by simp, fun k hk => absurd hk (by omega), fun p hp => by simp at hp⟩
  | succ m ih =>
   intro hm
   obtain ⟨lp, e, hr, hb⟩ := ih (by omega)
   obtain ⟨c0, cz, c1, ⟨A', m', c', c2, hl'⟩, c3, c4, c5⟩ := hat m (by omega)
   have hlp : lp.length = m := by
    have := congrArg List.length e
    simp at this; omega
   refine ⟨lp ++ [⟨l.getD m ct0, A', m', c'⟩], ?_, fun k hk => ?_, fun p hp => ?_⟩
   ·
    rw [List.map_append, e, List.take_add_one, List.getElem?_eq_getElem (show m < l.length by omega)]
    simp [List.getD, List.getElem?_eq_getElem (show m < l.length by omega)]
   ·
    rcases (by omega : k < m ∨ k = m) with hk' | rfl
    ·
     have : (lp ++ [(⟨l.getD m ct0, A', m', c'⟩ : CtP)]).getD k ctp0 = lp.getD k ctp0 := by simp [List.getD, List.getElem?_append_left (show k < lp.length by omega)]
     rw [this]; exact hr k hk'
    ·
     have : (lp ++ [(⟨l.getD k ct0, A', m', c'⟩ : CtP)]).getD k ctp0 = ⟨l.getD k ct0, A', m', c'⟩ := by
      generalize l.getD k ct0 = zz
      simp [List.getD, ← hlp]
     rw [this]
     intro i u hu
     have hi : i < 6 := (List.getElem?_eq_some_iff.1 hu).1
     rcases (by omega : i = 0 ∨ i = 1 ∨ i = 2 ∨ i = 3 ∨ i = 4 ∨ i = 5) with rfl | rfl | rfl | rfl | rfl | rfl <;> (injection hu with hu; subst hu; assumption)
   ·
    rcases List.mem_append.1 hp with hp | hp
    ·
     exact hb p hp
    ·
     simp at hp; subst hp; exact ⟨hl', cz⟩
 obtain ⟨lp, e, hr, hb⟩ := key n (Nat.le_refl _)
 have e' : lp.map CtP.x = l := by rw [e, h1, List.take_length]
 have hlp : lp.length = n := by rw [← List.length_map (f := CtP.x), e', h1]
 exact ⟨lp, e', ⟨hlp.symm, h2, fun _ => ⟨b, off, hA, hlt, hr⟩⟩, hb⟩
theorem sc_rows {w : World} {A : Option Addr} {n : Nat} {l : List (List Bd)} (h : ScSl w A n l) : ∃ lp : List ScP, lp.map ScP.x = l ∧ RowSl scPC 1 scp0 w A n lp ∧ (∀ p ∈ lp, BandSl w p.A p.m p.x) := by
 obtain ⟨h1, h2, h3⟩ := h
 rcases Nat.eq_zero_or_pos n with h0 | h0
 ·
  subst h0
  have : l = [] := List.eq_nil_of_length_eq_zero h1.symm
  subst this
  exact ⟨[], rfl, ⟨rfl, by decide, fun h => absurd h (by decide)⟩, fun p hp => by simp at hp⟩
 obtain ⟨b, off, hA, hlt, hat⟩ := h3 h0
 have key : ∀ m, m ≤ n → ∃ lp : List ScP, lp.map ScP.x = l.take m ∧ (∀ k, k < m → RowAt scPC w b (off + k * 1) (lp.getD k scp0)) ∧ (∀ p ∈ lp, BandSl w p.A p.m p.x) := by
  intro m
  induction m with
  | zero => exact fun _ => ⟨[], by simp, fun k hk => absurd hk (by omega), fun p hp => by simp at hp⟩
  | succ m ih =>
   intro hm
   obtain ⟨lp, e, hr, hb⟩ := ih (by omega)
   obtain ⟨A', m', c', c2, hl'⟩ := hat m (by omega)
   have hlp : lp.length = m := by
    have := congrArg List.length e
    simp at this; omega
   refine ⟨lp ++ [⟨l.getD m [], A', m', c'⟩], ?_, fun k hk => ?_, fun p hp => ?_⟩
   ·
    rw [List.map_append, e, List.take_add_one, List.getElem?_eq_getElem (show m < l.length by omega)]
    simp [List.getD, List.getElem?_eq_getElem (show m < l.length by omega)]
   ·
    rcases (by omega : k < m ∨ k = m) with hk' | rfl
    ·
     have : (lp ++ [(⟨l.getD m [], A', m', c'⟩ : ScP)]).getD k scp0 = lp.getD k scp0 := by simp [List.getD, List.getElem?_append_left (show k < lp.length by omega)]
     rw [this]; exact hr k hk'
    ·
     have : (lp ++ [(⟨l.getD k [], A', m', c'⟩ : ScP)]).getD k scp0 = ⟨l.getD k [], A', m', c'⟩ := by
      generalize l.getD k [] = zz
      simp [List.getD, ← hlp]
     rw [this]
     intro i u hu
     have hi : i < 1 := (List.getElem?_eq_some_iff.1 hu).1
     obtain rfl : i = 0 := by omega
     injection hu with hu; subst hu; exact c2
   ·
    rcases List.mem_append.1 hp with hp | hp
    ·
     exact hb p hp
    ·
     simp at hp; subst hp; exact hl'
 obtain ⟨lp, e, hr, hb⟩ := key n (Nat.le_refl _)
 have e' : lp.map ScP.x = l := by rw [e, h1, List.take_length]
 have hlp : lp.length = n := by rw [← List.length_map (f := ScP.x), e', h1]
 exact ⟨lp, e', ⟨hlp.symm, h2, fun _ => ⟨b, off, hA, hlt, hr⟩⟩, hb⟩
theorem kd_rows {w : World} {A : Option Addr} {n : Nat} {l : List Kd} (h : KdSl w A n l) : RowSl kdC 4 kd0 w A n l ∧ (∀ p ∈ l, p.nm.size ≤ 9223372036854775807) := by
 obtain ⟨h1, h2, h3⟩ := h
 refine ⟨⟨h1, h2, fun h0 => ?_⟩, fun p hp => ?_⟩
 ·
  obtain ⟨b, off, hA, hlt, hat⟩ := h3 h0
  refine ⟨b, off, hA, hlt, fun k hk i u hu => ?_⟩
  obtain ⟨c0, cz, c1, c2, c3⟩ := hat k hk
  have hi : i < 4 := (List.getElem?_eq_some_iff.1 hu).1
  rcases (by omega : i = 0 ∨ i = 1 ∨ i = 2 ∨ i = 3) with rfl | rfl | rfl | rfl <;> (injection hu with hu; subst hu; assumption)
 ·
  obtain ⟨k, hk, rfl⟩ := List.getElem_of_mem hp
  obtain ⟨b, off, hA, hlt, hat⟩ := h3 (by omega)
  obtain ⟨c0, cz, _⟩ := hat k (by omega)
  have : l.getD k kd0 = l[k] := by simp [List.getD, List.getElem?_eq_getElem hk]
  rwa [this] at cz
theorem getD_mem {α : Type} {l : List α} {d : α} {k : Nat} (h : k < l.length) : l.getD k d ∈ l := by
 simp [List.getD, List.getElem?_eq_getElem h]
theorem rows_ct {w : World} {A : Option Addr} {n : Nat} {lp : List CtP} (h : RowSl ctPC 6 ctp0 w A n lp) (hb : ∀ p ∈ lp, BandSl w p.A p.m p.x.bands ∧ p.x.nm.size ≤ 9223372036854775807) : CtSl w A n (lp.map CtP.x) := by
 obtain ⟨h1, h2, h3⟩ := h
 refine ⟨by rw [List.length_map]; exact h1, h2, fun h0 => ?_⟩
 obtain ⟨b, off, hA, hlt, hat⟩ := h3 h0
 refine ⟨b, off, hA, hlt, fun k hk => ?_⟩
 have e : (lp.map CtP.x).getD k ct0 = (lp.getD k ctp0).x := by
  have hk' : k < lp.length := by omega
  simp [List.getD, List.getElem?_eq_getElem hk']
 rw [e]
 obtain ⟨hb1, hb2⟩ := hb _ (getD_mem (d := ctp0) (show k < lp.length by omega))
 have hr := hat k hk
 exact ⟨hr 0 _ rfl, hb2, hr 1 _ rfl, ⟨_, _, _, hr 2 _ rfl, hb1⟩, hr 3 _ rfl, hr 4 _ rfl, hr 5 _ rfl⟩
theorem rows_sc {w : World} {A : Option Addr} {n : Nat} {lp : List ScP} (h : RowSl scPC 1 scp0 w A n lp) (hb : ∀ p ∈ lp, BandSl w p.A p.m p.x) : ScSl w A n (lp.map ScP.x) := by
 obtain ⟨h1, h2, h3⟩ := h
 refine ⟨by rw [List.length_map]; exact h1, h2, fun h0 => ?_⟩
 obtain ⟨b, off, hA, hlt, hat⟩ := h3 h0
 refine ⟨b, off, hA, hlt, fun k hk => ?_⟩
 have e : (lp.map ScP.x).getD k [] = (lp.getD k scp0).x := by
  have hk' : k < lp.length := by omega
  simp [List.getD, List.getElem?_eq_getElem hk']
 rw [e]
 exact ⟨_, _, _, hat k hk 0 _ rfl, hb _ (getD_mem (d := scp0) (show k < lp.length by omega))⟩
theorem rows_kd {w : World} {A : Option Addr} {n : Nat} {l : List Kd} (h : RowSl kdC 4 kd0 w A n l) (hb : ∀ p ∈ l, p.nm.size ≤ 9223372036854775807) : KdSl w A n l := by
 obtain ⟨h1, h2, h3⟩ := h
 refine ⟨h1, h2, fun h0 => ?_⟩
 obtain ⟨b, off, hA, hlt, hat⟩ := h3 h0
 refine ⟨b, off, hA, hlt, fun k hk => ?_⟩
 have hr := hat k hk
 exact ⟨hr 0 _ rfl, hb _ (getD_mem (d := kd0) (show k < l.length by omega)), hr 1 _ rfl, hr 2 _ rfl, hr 3 _ rfl⟩
theorem ct_one {l : List CtP} : ∀ u ∈ l.flatMap ctPC, u.oneCell' = true := fun u hu => by
 obtain ⟨z, _, hz⟩ := List.mem_flatMap.1 hu
 simp only [ctPC, List.mem_cons, List.not_mem_nil, or_false] at hz
 rcases hz with rfl | rfl | rfl | rfl | rfl | rfl <;> rfl
theorem kd_one {l : List Kd} : ∀ u ∈ l.flatMap kdC, u.oneCell' = true := fun u hu => by
 obtain ⟨z, _, hz⟩ := List.mem_flatMap.1 hu
 simp only [kdC, List.mem_cons, List.not_mem_nil, or_false] at hz
 rcases hz with rfl | rfl | rfl | rfl <;> rfl
theorem bd_one {l : List Bd} : ∀ u ∈ l.flatMap bdC, u.oneCell' = true := fun u hu => by
 obtain ⟨z, _, hz⟩ := List.mem_flatMap.1 hu
 simp only [bdC, List.mem_cons, List.not_mem_nil, or_false] at hz
 rcases hz with rfl | rfl | rfl <;> rfl
theorem band_src {w : World} {A : Option Addr} {n : Nat} {l : List Bd} (h : BandSl w A n l) : SrcAt w A n 3 (l.flatMap bdC) := by
 obtain ⟨h1, h2, h3⟩ := h
 have : RowSl bdC 3 bd0 w A n l := ⟨h1, h2, fun h0 => by
  obtain ⟨b, off, hA, hlt, hat⟩ := h3 h0
  refine ⟨b, off, hA, hlt, fun k hk i u hu => ?_⟩
  obtain ⟨c0, c1, c2⟩ := hat k (by omega)
  have hi : i < 3 := (List.getElem?_eq_some_iff.1 hu).1
  rcases (by omega : i = 0 ∨ i = 1 ∨ i = 2) with rfl | rfl | rfl <;> (injection hu with hu; subst hu; assumption)⟩
 exact this.src bdC_len
def GivesV (E : TypeId) (K n : Nat) (news : List Value) (w : World) (e : Ending) (w' : World) : Prop := (∃ v, e = .returned v ∧ w'.ownsRow w.heap.size E K v n news) ∧ Below w.heap.size w w'
theorem info_contrib : (prog.info? 195).map (fun i => (i.zero, i.size, i.bytes)) = some (some (.agg #[.string ⟨#[]⟩, .int .i64 0, .slice none 0 0, .int .i64 0, .int .i64 0, .int .i64 0]), 6, 72) := by kernel_rfl
theorem info_kind : (prog.info? 148).map (fun i => (i.zero, i.size, i.bytes)) = some (some (.agg #[.string ⟨#[]⟩, .int .i64 0, .int .i64 0, .int .i64 0]), 4, 40) := by kernel_rfl
theorem info_bands : (prog.info? 146).map (fun i => (i.zero, i.size, i.bytes)) = some (some (.slice none 0 0), 1, 24) := by kernel_rfl
theorem clone_ct (A : Option Addr) (n c : Nat) (news : List Value) (w : World) (h : SrcAt w A n 6 news) (h1 : ∀ u ∈ news, u.oneCell' = true) (hn : n ≤ 1000000) :
  Calls prog 98 #[.slice A n c] w (GivesV 195 6 n news w) := by
 have hq := fun W => Lib.run_eql_slice_nil (P := prog) W 23 195 A n c 0 0 underlying23
 cases hA : A with
 | none =>
  subst hA
  obtain ⟨h2, h3⟩ := h
  have h0 : n = 0 := by
   rcases Nat.eq_zero_or_pos n with h0 | h0
   ·
    exact h0
   ·
    obtain ⟨b, off, h, _⟩ := h3 h0
    cases h
  subst h0
  have hl : news = [] := List.eq_nil_of_length_eq_zero (by simpa using h2)
  subst hl
  clear h3 h2 h1
  go_enter func98, ntmps98
  go_wp2
  go_ret
  exact ⟨⟨_, rfl, World.ownsRow_nil _ _ _ _⟩, Below.refl _ _⟩
 | some ad =>
  subst hA
  have HS := hid (h.below (below1 w (.cells #[] 195)))
  have H1 := hid h1
  clear h h1
  have HO := hid (World.ownsRow_lit (e := 195) (size := 6) (base := w.heap.size) w #[] 0 (Nat.le_refl _) (by decide) rfl)
  go_enter func98, ntmps98
  go_wp2_with (at_builtin; refine wn9 _ rfl _ _ 23 rfl 195 _ 6 72 underlying23 info_contrib rfl (by decide) rfl HO.out _ _ _ _ rfl HS.out H1.out (by omega) (by omega) (by simp) ?_; intro v' w1 ho hg)
  go_ret
  refine ⟨⟨_, rfl, ?_⟩, (below1 _ _).grown hg (by simp) (fun k hk => by injection hk with hk; exact Nat.le_of_eq hk)⟩
  simpa using ho
theorem clone_kd (A : Option Addr) (n c : Nat) (news : List Value) (w : World) (h : SrcAt w A n 4 news) (h1 : ∀ u ∈ news, u.oneCell' = true) (hn : n ≤ 1000000) :
  Calls prog 99 #[.slice A n c] w (GivesV 148 4 n news w) := by
 have hq := fun W => Lib.run_eql_slice_nil (P := prog) W 24 148 A n c 0 0 underlying24
 cases hA : A with
 | none =>
  subst hA
  obtain ⟨h2, h3⟩ := h
  have h0 : n = 0 := by
   rcases Nat.eq_zero_or_pos n with h0 | h0
   ·
    exact h0
   ·
    obtain ⟨b, off, h, _⟩ := h3 h0
    cases h
  subst h0
  have hl : news = [] := List.eq_nil_of_length_eq_zero (by simpa using h2)
  subst hl
  clear h3 h2 h1
  go_enter func99, ntmps99
  go_wp2
  go_ret
  exact ⟨⟨_, rfl, World.ownsRow_nil _ _ _ _⟩, Below.refl _ _⟩
 | some ad =>
  subst hA
  have HS := hid (h.below (below1 w (.cells #[] 148)))
  have H1 := hid h1
  clear h h1
  have HO := hid (World.ownsRow_lit (e := 148) (size := 4) (base := w.heap.size) w #[] 0 (Nat.le_refl _) (by decide) rfl)
  go_enter func99, ntmps99
  go_wp2_with (at_builtin; refine wn9 _ rfl _ _ 24 rfl 148 _ 4 40 underlying24 info_kind rfl (by decide) rfl HO.out _ _ _ _ rfl HS.out H1.out (by omega) (by omega) (by simp) ?_; intro v' w1 ho hg)
  go_ret
  refine ⟨⟨_, rfl, ?_⟩, (below1 _ _).grown hg (by simp) (fun k hk => by injection hk with hk; exact Nat.le_of_eq hk)⟩
  simpa using ho
theorem clone_bd (A : Option Addr) (n c : Nat) (news : List Value) (w : World) (h : SrcAt w A n 3 news) (h1 : ∀ u ∈ news, u.oneCell' = true) (hn : n ≤ 1000000) :
  Calls prog 100 #[.slice A n c] w (GivesV 145 3 n news w) := by
 have hq := fun W => Lib.run_eql_slice_nil (P := prog) W 146 145 A n c 0 0 underlying146
 cases hA : A with
 | none =>
  subst hA
  obtain ⟨h2, h3⟩ := h
  have h0 : n = 0 := by
   rcases Nat.eq_zero_or_pos n with h0 | h0
   ·
    exact h0
   ·
    obtain ⟨b, off, h, _⟩ := h3 h0
    cases h
  subst h0
  have hl : news = [] := List.eq_nil_of_length_eq_zero (by simpa using h2)
  subst hl
  clear h3 h2 h1
  go_enter func100, ntmps100
  go_wp2
  go_ret
  exact ⟨⟨_, rfl, World.ownsRow_nil _ _ _ _⟩, Below.refl _ _⟩
 | some ad =>
  subst hA
  have HS := hid (h.below (below1 w (.cells #[] 145)))
  have H1 := hid h1
  clear h h1
  have HO := hid (World.ownsRow_lit (e := 145) (size := 3) (base := w.heap.size) w #[] 0 (Nat.le_refl _) (by decide) rfl)
  go_enter func100, ntmps100
  go_wp2_with (at_builtin; refine wn9 _ rfl _ _ 146 rfl 145 _ 3 24 underlying146 info_band rfl (by decide) rfl HO.out _ _ _ _ rfl HS.out H1.out (by omega) (by omega) (by simp) ?_; intro v' w1 ho hg)
  go_ret
  refine ⟨⟨_, rfl, ?_⟩, (below1 _ _).grown hg (by simp) (fun k hk => by injection hk with hk; exact Nat.le_of_eq hk)⟩
  simpa using ho
def chkE (kds : List Kd) (z : El) : Int := if kdE kds z.k ≠ 0 then kdE kds z.k else elE z.a z.u
def chkA (kds : List Kd) (L : List El) (n : Nat) : Int := if 32 < n then 2 else fz9 (fun i => chkE kds (L.getD i el0)) n
theorem echeck_c (kds : List Kd) (As Ac Ak : Option Addr) (ns cs nc cc nk ck : Nat) (lim rnd : Int) (k : ByteArray) (a u : Int) (w : World) (hs : KdSl w Ak nk kds) (re : Int) (he : Hid (re = chkE kds ⟨k, a, u⟩)) :
  Calls prog 107 #[.agg #[.slice As ns cs, .slice Ac nc cc, .slice Ak nk ck, .int .i64 lim, .int .i64 rnd], .agg #[.string k, .int .i64 a, .int .i64 u]] w fun e w' => e = .returned (.int .i64 re) ∧ Below w.heap.size w w' := by
 have hb0 := bA (below1 w (.cells #[.slice As ns cs, .slice Ac nc cc, .slice Ak nk ck, .int .i64 lim, .int .i64 rnd] 26)) (.cells #[.string k, .int .i64 a, .int .i64 u] 98)
 have yt := (Blk.mk w 26 #[.slice As ns cs, .slice Ac nc cc, .slice Ak nk ck, .int .i64 lim, .int .i64 rnd]).alloc (.cells #[.string k, .int .i64 a, .int .i64 u] 98)
 have y0 := Blk.mk (w.alloc (.cells #[.slice As ns cs, .slice Ac nc cc, .slice Ak nk ck, .int .i64 lim, .int .i64 rnd] 26)) 98 #[.string k, .int .i64 a, .int .i64 u]
 have y : Blk ((w.alloc (.cells #[.slice As ns cs, .slice Ac nc cc, .slice Ak nk ck, .int .i64 lim, .int .i64 rnd] 26)).alloc (.cells #[.string k, .int .i64 a, .int .i64 u] 98)) (w.heap.size + 1) 98 #[.string k, .int .i64 a, .int .i64 u] := by simpa using y0
 have HS := hid (KdSl.below hs hb0)
 have t0 := yt.cell 0
 have t1 := yt.cell 1
 have t2 := yt.cell 2
 have t3 := yt.cell 3
 have t4 := yt.cell 4
 have p0 := y.cell 0
 have HE : Hid (re = if kdE kds k ≠ 0 then kdE kds k else elE a u) := he
 have KK := hid (fun W h => kind_c kds As Ac Ak ns cs nc cc nk ck lim rnd k W h _ _ (hid rfl) (hid rfl))
 have KV := hid (fun W => evalue_c k a u W _ _ rfl rfl)
 have HV : Hid (elE a u = if mrB a = false then 10 else if u < 0 ∨ 100000 < u then 1 else if mrB (ro9 (a * u) 100 4) = true then 0 else 10) := rfl
 generalize kdE kds k = ke at *
 generalize kdX kds k = kx at *
 obtain ⟨xn, xc, xt, xs⟩ := kx
 dsimp only at KK
 clear hs he yt y0
 by_cases h0 : ke = 0
 case neg =>
  have e1 : re = ke := HE.out.trans (if_pos h0)
  have v1 : (ke != 0) = true := by simpa using h0
  subst e1
  clear h0 HE HV
  go_enter func107, ntmps107
  go_wp2_with fail; (refine (KK.out _ (HS.out)).mono ?_); (rintro e w1 ⟨rfl, hb1⟩); have hB1 := bA (bT hb0 hb1) (.cells #[.string xn, .int .i64 xc, .int .i64 xt, .int .i64 xs] 148); have y1 := (y.t hb1).alloc (.cells #[.string xn, .int .i64 xc, .int .i64 xt, .int .i64 xs] 148); have q0 := y1.cell 0; have q1 := y1.cell 1; have q2 := y1.cell 2; clear t0 t1 t2 t3 t4 p0
  go_wp2_with fail
  go_ret
  exact ⟨rfl, hB1⟩
 subst h0
 have HE2 : Hid (re = elE a u) := HE.out.trans (if_neg (by simp))
 generalize elE a u = ee at *
 generalize elV a u = ev at *
 obtain rfl : re = ee := HE2.out
 clear HE HE2
 by_cases h1 : mrB a = true
 case neg =>
  have h1' : mrB a = false := by simpa using h1
  have e1 : re = 10 := HV.out.trans (if_pos h1')
  subst e1
  clear h1 HV KV
  go_enter func107, ntmps107
  go_wp2_with fail; (refine (KK.out _ (HS.out)).mono ?_); (rintro e w1 ⟨rfl, hb1⟩); have hB1 := bA (bT hb0 hb1) (.cells #[.string xn, .int .i64 xc, .int .i64 xt, .int .i64 xs] 148); have y1 := (y.t hb1).alloc (.cells #[.string xn, .int .i64 xc, .int .i64 xt, .int .i64 xs] 148); have q0 := y1.cell 0; have q1 := y1.cell 1; have q2 := y1.cell 2; clear t0 t1 t2 t3 t4 p0
  have hB2 := bA hB1 (.cells #[.int .i64 a] 2)
  go_wp2_with fail
  refine (right1 _ _ _ a _ (by simp [ca9])).mono ?_
  rintro e w2 ⟨rfl, rfl⟩
  go_wp2_with fail
  go_ret
  exact ⟨rfl, hB2⟩
 by_cases h2 : u < 0
 ·
  have e1 : re = 1 := by rw [HV.out, if_neg (by simp [h1]), if_pos (Or.inl h2)]
  have v2 : decide (u < 0) = true := by simpa using h2
  subst e1
  clear h2 HV KV
  go_enter func107, ntmps107
  go_wp2_with fail; (refine (KK.out _ (HS.out)).mono ?_); (rintro e w1 ⟨rfl, hb1⟩); have hB1 := bA (bT hb0 hb1) (.cells #[.string xn, .int .i64 xc, .int .i64 xt, .int .i64 xs] 148); have y1 := (y.t hb1).alloc (.cells #[.string xn, .int .i64 xc, .int .i64 xt, .int .i64 xs] 148); have q0 := y1.cell 0; have q1 := y1.cell 1; have q2 := y1.cell 2; clear t0 t1 t2 t3 t4 p0
  have hB2 := bA hB1 (.cells #[.int .i64 a] 2)
  have y2 := y1.alloc (.cells #[.int .i64 a] 2)
  go_wp2_with fail
  refine (right1 _ _ _ a _ (by simp [ca9])).mono ?_
  rintro e w2 ⟨rfl, rfl⟩
  clear q0 q1 q2
  have q2 := y2.cell 2
  go_wp2_with fail
  go_ret
  exact ⟨rfl, hB2⟩
 have v2 : decide (u < 0) = false := by simpa using h2
 by_cases h3 : 100000 < u
 ·
  have e1 : re = 1 := by rw [HV.out, if_neg (by simp [h1]), if_pos (Or.inr h3)]
  have v3 : decide (100000 < u) = true := by simpa using h3
  subst e1
  clear h2 h3 HV KV
  go_enter func107, ntmps107
  go_wp2_with fail; (refine (KK.out _ (HS.out)).mono ?_); (rintro e w1 ⟨rfl, hb1⟩); have hB1 := bA (bT hb0 hb1) (.cells #[.string xn, .int .i64 xc, .int .i64 xt, .int .i64 xs] 148); have y1 := (y.t hb1).alloc (.cells #[.string xn, .int .i64 xc, .int .i64 xt, .int .i64 xs] 148); have q0 := y1.cell 0; have q1 := y1.cell 1; have q2 := y1.cell 2; clear t0 t1 t2 t3 t4 p0
  have hB2 := bA hB1 (.cells #[.int .i64 a] 2)
  have y2 := y1.alloc (.cells #[.int .i64 a] 2)
  go_wp2_with fail
  refine (right1 _ _ _ a _ (by simp [ca9])).mono ?_
  rintro e w2 ⟨rfl, rfl⟩
  clear q0 q1 q2
  have q2 := y2.cell 2
  go_wp2_with fail
  go_ret
  exact ⟨rfl, hB2⟩
 have v3 : decide (100000 < u) = false := by simpa using h3
 clear h2 h3 HV
 go_enter func107, ntmps107
 go_wp2_with fail; (refine (KK.out _ (HS.out)).mono ?_); (rintro e w1 ⟨rfl, hb1⟩); have hB1 := bA (bT hb0 hb1) (.cells #[.string xn, .int .i64 xc, .int .i64 xt, .int .i64 xs] 148); have y1 := (y.t hb1).alloc (.cells #[.string xn, .int .i64 xc, .int .i64 xt, .int .i64 xs] 148); have q0 := y1.cell 0; have q1 := y1.cell 1; have q2 := y1.cell 2; clear t0 t1 t2 t3 t4 p0
 have hB2 := bA hB1 (.cells #[.int .i64 a] 2)
 have y2 := y1.alloc (.cells #[.int .i64 a] 2)
 go_wp2_with fail
 refine (right1 _ _ _ a _ (by simp [ca9])).mono ?_
 rintro e w2 ⟨rfl, rfl⟩
 clear q0 q1 q2
 have q0 := y2.cell 0
 have q1 := y2.cell 1
 have q2 := y2.cell 2
 go_wp2_with fail
 refine (KV.out _).mono ?_
 rintro e w3 ⟨rfl, hb3⟩
 go_wp2_with fail
 go_ret
 exact ⟨rfl, bT hB2 hb3⟩
theorem eall_c (kds : List Kd) (As Ac Ak : Option Addr) (ns cs nc cc nk ck : Nat) (lim rnd : Int) (A : Option Addr) (n c : Nat) (L : List El) (w : World) (hs : KdSl w Ak nk kds) (hl : ElSl w A n L) (re : Int) (he : Hid (re = chkA kds L n)) :
  Calls prog 70 #[.agg #[.slice As ns cs, .slice Ac nc cc, .slice Ak nk ck, .int .i64 lim, .int .i64 rnd], .slice A n c] w fun e w' => e = .returned (.int .i64 re) ∧ Below w.heap.size w w' := by
 have hb0 := below1 w (.cells #[.slice As ns cs, .slice Ac nc cc, .slice Ak nk ck, .int .i64 lim, .int .i64 rnd] 26)
 have y := Blk.mk w 26 #[.slice As ns cs, .slice Ac nc cc, .slice Ak nk ck, .int .i64 lim, .int .i64 rnd]
 have HS := hid (KdSl.below hs hb0)
 have HL := hid (RowSl.below hl hb0)
 have hn9 := hl.2.1
 by_cases h32 : 32 < n
 ·
  have e1 : re = 2 := he.out.trans (if_pos h32)
  have v1 : decide ((32 : Int) < (n : Int)) = true := by simp; omega
  subst e1
  clear he hs hl
  go_enter func70, ntmps70
  go_wp2_with fail
  go_ret
  exact ⟨rfl, hb0⟩
 have v1 : decide ((32 : Int) < (n : Int)) = false := by simp; omega
 have HE : Hid (re = fz9 (fun i => chkE kds (L.getD i el0)) n) := he.out.trans (if_neg h32)
 clear he hs hl
 go_enter func70, ntmps70
 go_wp2_with fail
 go_loopw [13] (fun i wr => ∃ k : Nat, k ≤ n ∧ i = .int .i64 k ∧ Hid (fz9 (fun i => chkE kds (L.getD i el0)) k = 0) ∧ Below (w.alloc (.cells #[.slice As ns cs, .slice Ac nc cc, .slice Ak nk ck, .int .i64 lim, .int .i64 rnd] 26)).heap.size (w.alloc (.cells #[.slice As ns cs, .slice Ac nc cc, .slice Ak nk ck, .int .i64 lim, .int .i64 rnd] 26)) wr) (fun i _ => n - (intOf i).toNat)
 case atStart => exact ⟨0, Nat.zero_le _, rfl, rfl, b0 _⟩
 case round =>
  obtain ⟨k, hk', rfl, HA, hbl⟩ := hrel
  have hBl := bT hb0 hbl
  by_cases hk : k < n
  case neg =>
   obtain rfl : k = n := by omega
   obtain rfl : re = 0 := HE.out.trans HA.out
   go_wp2_with fail
   go_ret
   exact ⟨rfl, hBl⟩
  obtain ⟨b, off, rfl, hlt, hat⟩ := (HL.out.below hbl).2.2 (by omega)
  have hc := hat k hk
  have HN : Hid (chkE kds (L.getD k el0) ≠ 0 → re = chkE kds (L.getD k el0)) := fun h => HE.out.trans (fS9 _ k n HA.out h hk)
  have HY : Hid (chkE kds (L.getD k el0) = 0 → fz9 (fun i => chkE kds (L.getD i el0)) (k + 1) = 0) := fun h => ft9 _ k HA.out h
  have KC := hid (fun W h => echeck_c kds As Ac Ak ns cs nc cc nk ck lim rnd (L.getD k el0).k (L.getD k el0).a (L.getD k el0).u W h _ (hid rfl))
  have hcz : chkE kds ⟨(L.getD k el0).k, (L.getD k el0).a, (L.getD k el0).u⟩ = chkE kds (L.getD k el0) := rfl
  rw [hcz] at KC
  clear hcz
  generalize chkE kds (L.getD k el0) = ce at *
  generalize L.getD k el0 = zz at *
  obtain ⟨zk, za, zu⟩ := zz
  dsimp only at KC
  obtain ⟨c0, c1, c2⟩ : wr.cell? ⟨b, off + k * 3, none⟩ = some (.string zk) ∧ wr.cell? ⟨b, off + k * 3 + 1, none⟩ = some (.int .i64 za) ∧ wr.cell? ⟨b, off + k * 3 + 2, none⟩ = some (.int .i64 zu) := ⟨hc 0 _ rfl, hc 1 _ rfl, hc 2 _ rfl⟩
  have hbx := bA hbl (.cells #[.string zk, .int .i64 za, .int .i64 zu] 98)
  have yt := (y.t hbl).alloc (.cells #[.string zk, .int .i64 za, .int .i64 zu] 98)
  have t0 := yt.cell 0
  have t1 := yt.cell 1
  have t2 := yt.cell 2
  have t3 := yt.cell 3
  have t4 := yt.cell 4
  have HS2 := hid (KdSl.below HS.out hbx)
  clear hc hat
  by_cases h : ce = 0
  ·
   have HY2 := hid (HY.out h)
   subst h
   clear HN HY
   go_wp2_with fail
   refine (KC.out _ HS2.out).mono ?_
   rintro e w2 ⟨rfl, hb2⟩
   go_wp2_with fail
   go_roundw
   case rel => exact ⟨k + 1, by omega, by go_num, HY2.out, bT hbx hb2⟩
   case measure => simp [intOf]; omega
  ·
   obtain rfl : re = ce := HN.out h
   have v2 : (re != 0) = true := by simpa using h
   clear HN HY h HE
   go_wp2_with fail
   refine (KC.out _ HS2.out).mono ?_
   rintro e w2 ⟨rfl, hb2⟩
   go_wp2_with fail
   go_ret
   exact ⟨rfl, bT (bT hb0 hbx) hb2⟩
def IdsO (l : List Od) : Prop := l.Pairwise fun a b => a.id ≠ b.id
theorem ids_perm {l m : List Od} (h : l.Perm m) (hd : IdsO l) : IdsO m := h.pairwise hd (fun {a b} h => Ne.symm h)
theorem ids_get {l : List Od} (hd : IdsO l) {i j : Nat} (hi : i < l.length) (hj : j < l.length) (h : (l.getD i od0).id = (l.getD j od0).id) : i = j := by
 rw [getD_at l od0 hi, getD_at l od0 hj] at h
 have hp := List.pairwise_iff_getElem.1 hd
 rcases Nat.lt_trichotomy i j with h1 | h1 | h1
 ·
  exact absurd h (hp i j hi hj h1)
 ·
  exact h1
 ·
  exact absurd h.symm (hp j i hj hi h1)
theorem at_of_get {l : List Od} (hd : IdsO l) {i : Nat} (hi : i < l.length) {q : Int} (h : (l.getD i od0).id = q) : atO l q = i := by
 have hlt : atO l q < l.length := by
  rcases (by have := atO_le l q; omega : atO l q < l.length ∨ atO l q = l.length) with h1 | h1
  ·
   exact h1
  ·
   exact absurd h (atO_lt (by omega))
 exact ids_get hd hlt hi (by rw [atO_eq hlt, h])
theorem at_mem {l : List Od} {q : Int} : atO l q < l.length ↔ ∃ z ∈ l, z.id = q := by
 constructor
 ·
  intro h
  refine ⟨l.getD (atO l q) od0, ?_, atO_eq h⟩
  rw [getD_at l od0 h]
  exact List.getElem_mem h
 ·
  rintro ⟨z, hz, he⟩
  unfold atO
  exact List.findIdx_lt_length_of_exists ⟨z, hz, by simpa using he⟩
/-! ### What orders took -/
theorem tookA_id (l : List Od) (x : Tk) (h : atO l x.o < l.length) : (tookA l x).map Od.id = l.map Od.id := by
 unfold tookA
 rw [List.map_set]
 have : ({ l.getD (atO l x.o) od0 with tk := (l.getD (atO l x.o) od0).tk + x.ta, ar := x.ca } : Od).id = (l.map Od.id)[atO l x.o]'(by simpa using h) := by
  rw [List.getElem_map, ← getD_at l od0 h]
 rw [this]
 exact List.set_getElem_self _
theorem ids_map {l m : List Od} (h : l.map Od.id = m.map Od.id) (hd : IdsO l) : IdsO m := by
 have e : ∀ l : List Od, IdsO l ↔ (l.map Od.id).Pairwise (· ≠ ·) := fun l => by unfold IdsO; rw [List.pairwise_map]
 rw [e] at hd ⊢
 rw [← h]; exact hd
theorem tookX_at {l : List Od} {x : Tk} (h : tookX l x = 0) : atO l x.o < l.length := by
 unfold tookX at h
 by_cases h1 : atO l x.o < l.length
 ·
  exact h1
 ·
  rw [if_pos h1] at h; cases h
theorem tookT_id (l : List Od) (ts : List Tk) : ∀ k, (tookT l ts k).2.map Od.id = l.map Od.id := by
 intro k
 induction k with
 | zero => rfl
 | succ k ih =>
  rw [tookT]
  split
  ·
   exact ih
  ·
   split
   ·
    exact ih
   ·
    rename_i h
    rw [tookA_id _ _ (tookX_at (by simpa using h))]
    exact ih
theorem tookL_id (l : List Od) (ts : List Tk) : (tookL l ts).map Od.id = l.map Od.id := by
 unfold tookL
 split
 ·
  exact tookT_id l ts _
 ·
  rfl
/-! ### What is owed -/
/-! ### What is swept -/
theorem addE_zero {l : List Od} {z : Od} (h : addE l z = 0) : orE z.id z.pr z.am z.ra z.«to» = 0 ∧ ¬ atO l z.id < l.length ∧ ¬ l.length = 8 := by
 unfold addE at h
 split at h
 ·
  rename_i h1; exact absurd h h1
 ·
  rename_i h1
  split at h
  ·
   cases h
  ·
   rename_i h2
   split at h
   ·
    cases h
   ·
    rename_i h3
    exact ⟨by simpa using h1, h2, h3⟩
theorem tookL_len (l : List Od) (ts : List Tk) : (tookL l ts).length = l.length := by
 unfold tookL
 split
 ·
  exact tookT_len l ts _
 ·
  rfl
theorem tookL_ids {l : List Od} {ts : List Tk} (h : IdsO l) : IdsO (tookL l ts) := ids_map (tookL_id l ts).symm h
def updO (z : Od) (x : Tk) : Od := { z with tk := z.tk + x.ta, ar := x.ca }
def upTo (l : List Od) (ts : List Tk) (k : Nat) : List Od := (List.range l.length).map fun j => if j < k then updO (l.getD j od0) (ts.getD j tk0) else l.getD j od0
theorem upTo_len (l : List Od) (ts : List Tk) (k : Nat) : (upTo l ts k).length = l.length := by simp [upTo]
theorem upTo_get (l : List Od) (ts : List Tk) (k j : Nat) (hj : j < l.length) : (upTo l ts k).getD j od0 = if j < k then updO (l.getD j od0) (ts.getD j tk0) else l.getD j od0 := by
 unfold upTo
 rw [List.getD, List.getElem?_map, List.getElem?_range hj]; rfl
theorem upTo_zero (l : List Od) (ts : List Tk) : upTo l ts 0 = l := by
 unfold upTo
 refine List.ext_getElem (by simp) fun i h1 h2 => ?_
 simp [List.getD, h2]
theorem upTo_id (l : List Od) (ts : List Tk) (k : Nat) : (upTo l ts k).map Od.id = l.map Od.id := by
 unfold upTo
 rw [List.map_map]
 refine List.ext_getElem (by simp) fun i h1 h2 => ?_
 have h3 : i < l.length := by simpa using h2
 rw [List.getElem_map, List.getElem_range, List.getElem_map]
 simp only [Function.comp]
 split
 ·
  show (l.getD i od0).id = _
  rw [getD_at l od0 h3]
 ·
  rw [getD_at l od0 h3]
theorem upTo_step (l : List Od) (ts : List Tk) (k : Nat) (hk : k < l.length) : (upTo l ts k).set k (updO (l.getD k od0) (ts.getD k tk0)) = upTo l ts (k + 1) := by
 unfold upTo
 refine List.ext_getElem (by simp) fun i h1 h2 => ?_
 have h3 : i < l.length := by simpa using h2
 rw [List.getElem_set, List.getElem_map, List.getElem_map, List.getElem_range]
 by_cases h : k = i
 ·
  subst h
  rw [if_pos rfl, if_pos (by omega)]
 ·
  rw [if_neg h]
  by_cases h4 : i < k
  ·
   rw [if_pos h4, if_pos (by omega)]
  ·
   rw [if_neg h4, if_neg (by omega)]
def InTurn (l : List Od) (ts : List Tk) : Prop := ts.length = l.length ∧ ∀ k, k < l.length → (ts.getD k tk0).o = (l.getD k od0).id
def takeOK (z : Od) (x : Tk) : Prop := (mrB z.tk = true ∧ mrB x.ta = true ∧ mrB (z.tk + x.ta) = true) ∧ mrB x.ca = true
theorem took_turn {l : List Od} {ts : List Tk} (hd : IdsO l) (h : InTurn l ts) : ∀ k, k ≤ l.length → ((tookT l ts k).1 = 0 → (tookT l ts k).2 = upTo l ts k ∧ ∀ j, j < k → takeOK (l.getD j od0) (ts.getD j tk0)) ∧ ((tookT l ts k).1 ≠ 0 → (tookT l ts k).1 = 10) := by
 intro k
 induction k with
 | zero => exact fun _ => ⟨fun _ => ⟨(upTo_zero l ts).symm, fun j hj => absurd hj (by omega)⟩, fun h => absurd rfl h⟩
 | succ k ih =>
  intro hk
  obtain ⟨ih1, ih2⟩ := ih (by omega)
  rw [tookT]
  by_cases h0 : (tookT l ts k).1 = 0
  ·
   obtain ⟨e, hal⟩ := ih1 h0
   rw [if_neg (fun h => h h0), e]
   have hl : k < l.length := by omega
   have hlu : k < (upTo l ts k).length := by rw [upTo_len]; exact hl
   have hg : (upTo l ts k).getD k od0 = l.getD k od0 := by rw [upTo_get l ts k k hl, if_neg (by omega)]
   have hat : atO (upTo l ts k) (ts.getD k tk0).o = k := at_of_get (ids_map (upTo_id l ts k).symm hd) hlu (by rw [hg, h.2 k hl])
   have hX : tookX (upTo l ts k) (ts.getD k tk0) = if ¬ (mrB (l.getD k od0).tk = true ∧ mrB (ts.getD k tk0).ta = true ∧ mrB ((l.getD k od0).tk + (ts.getD k tk0).ta) = true) then 10 else if mrB (ts.getD k tk0).ca = false then 10 else 0 := by
    unfold tookX
    rw [hat, if_neg (fun h => h hlu), hg]
   have hA : tookA (upTo l ts k) (ts.getD k tk0) = upTo l ts (k + 1) := by
    unfold tookA
    rw [hat, hg]
    exact upTo_step l ts k hl
   by_cases h1 : mrB (l.getD k od0).tk = true ∧ mrB (ts.getD k tk0).ta = true ∧ mrB ((l.getD k od0).tk + (ts.getD k tk0).ta) = true
   ·
    rw [if_neg (fun h => h h1)] at hX
    cases h2 : mrB (ts.getD k tk0).ca with
    | false =>
     rw [if_pos h2] at hX
     rw [hX, if_pos (by decide)]
     exact ⟨fun h => by simp at h, fun _ => rfl⟩
    | true =>
     rw [if_neg (by rw [h2]; decide)] at hX
     rw [hX, if_neg (by decide), hA]
     refine ⟨fun _ => ⟨rfl, fun j hj => ?_⟩, fun h => absurd rfl h⟩
     rcases (by omega : j = k ∨ j < k) with rfl | hj
     ·
      exact ⟨h1, h2⟩
     ·
      exact hal j hj
   ·
    rw [if_pos h1] at hX
    rw [hX, if_pos (by decide)]
    exact ⟨fun h => by simp at h, fun _ => rfl⟩
  ·
   rw [if_pos h0]
   exact ⟨fun h => absurd h h0, ih2⟩
theorem took_turn_t {l : List Od} {ts : List Tk} (hd : IdsO l) (h : InTurn l ts) (he : tookE l ts = 0) : tookL l ts = upTo l ts l.length ∧ ∀ j, j < l.length → takeOK (l.getD j od0) (ts.getD j tk0) := by
 have h1 := (took_turn hd h l.length (Nat.le_refl _)).1
 unfold tookL
 rw [if_pos he]
 unfold tookE at he
 rw [h.1] at he ⊢
 exact h1 he
theorem took_turn_f {l : List Od} {ts : List Tk} (hd : IdsO l) (h : InTurn l ts) (he : tookE l ts ≠ 0) : tookE l ts = 10 ∧ tookL l ts = l := by
 have h1 := (took_turn hd h l.length (Nat.le_refl _)).2
 unfold tookL
 rw [if_neg he]
 refine ⟨?_, rfl⟩
 unfold tookE at he ⊢
 rw [h.1] at he ⊢
 exact h1 he
theorem turn_tk (l : List Od) (net prot : Int) : InTurn l (tkL l net prot l.length) := ⟨tkL_len _ _ _ _, fun k hk => by rw [tkL_get _ _ _ _ _ hk]; rfl⟩
structure GoodA (l : List Od) : Prop where
 len : l.length ≤ 8
 ids : IdsO l
 ok : ∀ z ∈ l, OdOK z
 tot : ∀ z ∈ l, 0 < z.«to» → z.tk + z.ar ≤ z.«to»
theorem GoodA.at {l : List Od} (h : GoodA l) {k : Nat} (hk : k < l.length) : OdOK (l.getD k od0) ∧ (0 < (l.getD k od0).«to» → (l.getD k od0).tk + (l.getD k od0).ar ≤ (l.getD k od0).«to») := by
 rw [getD_at l od0 hk]
 exact ⟨h.ok _ (List.getElem_mem hk), h.tot _ (List.getElem_mem hk)⟩
def serveE (l : List Od) (net prot : Int) : Int := if ¬ (mrB net = true ∧ mrB prot = true) then 10 else if prot < 0 then 1 else if (List.range l.length).all (fun k => decide (oneE (l.getD k od0) net = 0)) = true then 0 else 10
theorem serveE_zero {l : List Od} {net prot : Int} (h : serveE l net prot = 0) : (mrB net = true ∧ mrB prot = true) ∧ 0 ≤ prot ∧ ∀ k, k < l.length → oneE (l.getD k od0) net = 0 := by
 unfold serveE at h
 by_cases h1 : mrB net = true ∧ mrB prot = true
 ·
  rw [if_neg (fun h => h h1)] at h
  by_cases h2 : prot < 0
  ·
   rw [if_pos h2] at h; cases h
  ·
   rw [if_neg h2] at h
   by_cases h3 : (List.range l.length).all (fun k => decide (oneE (l.getD k od0) net = 0)) = true
   ·
    refine ⟨h1, by omega, fun k hk => ?_⟩
    have := List.all_eq_true.1 h3 k (List.mem_range.2 hk)
    simpa using this
   ·
    rw [if_neg h3] at h; cases h
 ·
  rw [if_pos h1] at h; cases h
theorem serveE_all {l : List Od} {net prot : Int} (h1 : mrB net = true ∧ mrB prot = true) (h2 : 0 ≤ prot) (h3 : ∀ k, k < l.length → oneE (l.getD k od0) net = 0) : serveE l net prot = 0 := by
 unfold serveE
 rw [if_neg (fun h => h h1), if_neg (by omega), if_pos]
 rw [List.all_eq_true]
 intro k hk
 simpa using h3 k (List.mem_range.1 hk)
theorem serveE_one {l : List Od} {net prot : Int} (h1 : mrB net = true ∧ mrB prot = true) (h2 : 0 ≤ prot) {k : Nat} (hk : k < l.length) (h3 : oneE (l.getD k od0) net ≠ 0) : serveE l net prot = 10 := by
 unfold serveE
 rw [if_neg (fun h => h h1), if_neg (by omega), if_neg]
 intro h
 have := List.all_eq_true.1 h k (List.mem_range.2 hk)
 exact h3 (by simpa using this)
theorem serveE_o {l : List Od} {net prot : Int} (h : ¬ (mrB net = true ∧ mrB prot = true)) : serveE l net prot = 10 := by unfold serveE; rw [if_pos h]
theorem serveE_r {l : List Od} {net prot : Int} (h : mrB net = true ∧ mrB prot = true) (hp : prot < 0) : serveE l net prot = 1 := by unfold serveE; rw [if_neg (fun g => g h), if_pos hp]
structure PerOd (z : Od) (x : Tk) (y : Od) : Prop where
 i : y.id = z.id ∧ y.pr = z.pr ∧ y.am = z.am ∧ y.ra = z.ra ∧ y.«to» = z.«to»
 tk : y.tk = z.tk + x.ta
 ar : y.ar = x.ca
 br : x.br = z.ar
 bd : 0 ≤ y.tk ∧ y.tk ≤ 100000000000
 ba : 0 ≤ y.ar ∧ y.ar ≤ 100000000000
 tot : 0 < y.«to» → y.tk + y.ar ≤ y.«to»
theorem per_od {l : List Od} {net prot : Int} (h : GoodA l) (hs : serveE l net prot = 0) (ht : tookE l (tkL l net prot l.length) = 0) {k : Nat} (hk : k < l.length) :
  PerOd (l.getD k od0) ((tkL l net prot l.length).getD k tk0) ((tookL l (tkL l net prot l.length)).getD k od0) := by
 obtain ⟨e, hal⟩ := took_turn_t h.ids (turn_tk l net prot) ht
 obtain ⟨h1, h2, h3⟩ := serveE_zero hs
 have hn := mr_iff.1 h1.1
 have hal := hal k hk
 obtain ⟨hok, htot⟩ := h.at hk
 have hd := oneD_bd hok hn (h3 k hk)
 have he := oneE_zero (h3 k hk)
 have hv := ordV_bd hok hn he.1
 rw [e, upTo_get _ _ _ _ hk, if_pos hk]
 rw [tkL_get _ _ _ _ _ hk] at hal ⊢
 have hb := mr_iff.1 hal.1.2.2
 have htk := hok.tk
 have har := hok.ar
 have hta : 0 ≤ (tkA l net prot k).ta ∧ (tkA l net prot k).ta ≤ oneD (l.getD k od0) net := by
  show 0 ≤ oneT _ _ _ ∧ oneT _ _ _ ≤ _
  unfold oneT; omega
 have hca : (tkA l net prot k).ca = oneD (l.getD k od0) net - (tkA l net prot k).ta := rfl
 have hcl : ordV (l.getD k od0) net ≤ leftI (l.getD k od0) := by unfold ordV; omega
 refine ⟨⟨rfl, rfl, rfl, rfl, rfl⟩, rfl, rfl, rfl, ?_, ?_, ?_⟩
 ·
  show 0 ≤ (l.getD k od0).tk + (tkA l net prot k).ta ∧ (l.getD k od0).tk + (tkA l net prot k).ta ≤ _
  omega
 ·
  show 0 ≤ (tkA l net prot k).ca ∧ (tkA l net prot k).ca ≤ _
  rw [hca]; omega
 ·
  intro hto
  have hto' : 0 < (l.getD k od0).«to» := hto
  have := htot hto'
  show (l.getD k od0).tk + (tkA l net prot k).ta + (tkA l net prot k).ca ≤ (l.getD k od0).«to»
  have hle : leftI (l.getD k od0) = (l.getD k od0).«to» - (l.getD k od0).tk - (l.getD k od0).ar := by
   unfold leftI
   rw [if_neg (by omega)]; omega
  have hoD : oneD (l.getD k od0) net = ordV (l.getD k od0) net + (l.getD k od0).ar := rfl
  rw [hca]; omega
theorem GoodA.per {l : List Od} {net prot : Int} (h : GoodA l) (hs : serveE l net prot = 0) (ht : tookE l (tkL l net prot l.length) = 0) : GoodA (tookL l (tkL l net prot l.length)) := by
 have hl := tookL_len l (tkL l net prot l.length)
 have key : ∀ z ∈ tookL l (tkL l net prot l.length), OdOK z ∧ (0 < z.«to» → z.tk + z.ar ≤ z.«to») := fun z hz => by
  obtain ⟨k, hk, rfl⟩ := List.getElem_of_mem hz
  have hk' : k < l.length := by rw [hl] at hk; exact hk
  have P := per_od h hs ht hk'
  rw [getD_at (tookL l (tkL l net prot l.length)) od0 hk] at P
  obtain ⟨i1, i2, i3, i4, i5⟩ := P.i
  have ho := (h.at hk').1.o
  rw [← i1, ← i2, ← i3, ← i4, ← i5] at ho
  exact ⟨⟨ho, P.bd, P.ba⟩, P.tot⟩
 exact ⟨by rw [hl]; exact h.len, tookL_ids h.ids, fun z hz => (key z hz).1, fun z hz => (key z hz).2⟩
def OwnOd (w : World) (base : Nat) (v : Value) (n : Nat) (l : List Od) : Prop := n = l.length ∧ w.ownsRow base 213 7 v n (l.flatMap odC)
theorem info_state : (prog.info? 213).map (fun i => (i.zero, i.size, i.bytes)) = some (some (.agg #[.int .i64 0, .int .i64 0, .int .i64 0, .int .i64 0, .int .i64 0, .int .i64 0, .int .i64 0]), 7, 56) := by kernel_rfl
theorem od_one {l : List Od} : ∀ u ∈ l.flatMap odC, u.oneCell' = true := fun u hu => by
 obtain ⟨z, _, hz⟩ := List.mem_flatMap.1 hu
 simp only [odC, List.mem_cons, List.not_mem_nil, or_false] at hz
 rcases hz with rfl | rfl | rfl | rfl | rfl | rfl | rfl <;> rfl
theorem OwnOd.sl {w : World} {base : Nat} {v : Value} {n : Nat} {l : List Od} (h : OwnOd w base v n l) : ∃ A c, v = .slice A n c ∧ n ≤ c ∧ OdSl w A n l := by
 obtain ⟨A, c, rfl, hc, hs⟩ := own_sl odC 7 od0 odC_len h.2 h.1 (by decide)
 exact ⟨A, c, rfl, hc, hs⟩
theorem OwnOd.below {w w' : World} {base : Nat} {v : Value} {n : Nat} {l : List Od} (h : OwnOd w base v n l) (hb : Below w.heap.size w w') : OwnOd w' base v n l := ⟨h.1, oB9 h.2 hb⟩
theorem OwnOd.more {w : World} {base base' : Nat} {v : Value} {n : Nat} {l : List Od} (h : OwnOd w base v n l) (hb : base' ≤ base) : OwnOd w base' v n l := ⟨h.1, oM9 h.2 hb⟩
def GivesOd (n : Nat) (l : List Od) (w : World) (e : Ending) (w' : World) : Prop := (∃ v, e = .returned v ∧ OwnOd w' w.heap.size v n l) ∧ Below w.heap.size w w'
theorem sclone_c (A : Option Addr) (n c : Nat) (l : List Od) (w : World) (h : OdSl w A n l) (hn : n ≤ 1000000) :
  Calls prog 136 #[.slice A n c] w (GivesOd n l w) := by
 have hq := fun W => Lib.run_eql_slice_nil (P := prog) W 141 213 A n c 0 0 underlying141
 cases hA : A with
 | none =>
  subst hA
  obtain ⟨h1, h2, h3⟩ := h
  have h0 : n = 0 := by
   rcases Nat.eq_zero_or_pos n with h0 | h0
   ·
    exact h0
   ·
    obtain ⟨b, off, h, _⟩ := h3 h0
    cases h
  subst h0
  have hl : l = [] := List.eq_nil_of_length_eq_zero h1.symm
  subst hl
  clear h3 h1
  go_enter func136, ntmps136
  go_wp2
  go_ret
  exact ⟨⟨_, rfl, rfl, World.ownsRow_nil _ _ _ _⟩, Below.refl _ _⟩
 | some ad =>
  subst hA
  have HS := hid ((h.below (below1 w (.cells #[] 213))).src odC_len)
  have HN := hid h.1
  clear h
  have HO := hid (World.ownsRow_lit (e := 213) (size := 7) (base := w.heap.size) w #[] 0 (Nat.le_refl _) (by decide) rfl)
  go_enter func136, ntmps136
  go_wp2_with (at_builtin; refine wn9 _ rfl _ _ 141 rfl 213 _ 7 56 underlying141 info_state rfl (by decide) rfl HO.out _ _ _ _ rfl HS.out od_one (by omega) (by omega) (by simp) ?_; intro v' w1 ho hg)
  go_ret
  refine ⟨⟨_, rfl, HN.out, ?_⟩, (below1 _ _).grown hg (by simp) (fun k hk => by injection hk with hk; exact Nat.le_of_eq hk)⟩
  simpa using ho
theorem osame_g (F : Nat) (hF : F = 113 ∨ F = 119 ∨ F = 171) (id pr am ra tt tk ar : Int) (g : Nat) (q : Int) (W : World) (hz : W.cell? ⟨g, 0, none⟩ = some (.int .i64 q)) (hg : g < W.heap.size) (r : Bool) (hr : (id == q) = r) :
  Calls prog F #[.agg #[.int .i64 id, .int .i64 pr, .int .i64 am, .int .i64 ra, .int .i64 tt, .int .i64 tk, .int .i64 ar], .pointer (some ⟨g, 0, none⟩)] W fun e w' => e = .returned (.bool r) ∧ Below W.heap.size W w' := by
 have hb0 := below1 W (.cells #[.int .i64 id, .int .i64 pr, .int .i64 am, .int .i64 ra, .int .i64 tt, .int .i64 tk, .int .i64 ar] 213)
 have d0 := (hb0.cell (p := ⟨g, _, none⟩) hg).trans hz
 rcases hF with rfl | rfl | rfl
 all_goals
  (first | go_enter func113, ntmps113 | go_enter func119, ntmps119 | go_enter func171, ntmps171)
  go_wp2_with fail
  go_ret
  exact ⟨rb9 (by simp), hb0⟩
def IdxO (l : List Od) (n : Nat) (q : Int) (W : World) (e : Ending) (w' : World) : Prop :=
 ((atO l q < n ∧ e = .returned (.int .i64 (atO l q : Nat))) ∨ (atO l q = n ∧ e = .returned (.int .i64 (-1)))) ∧ Below W.heap.size W w'
theorem oidx_g (F : Nat) (hF : F = 113 ∨ F = 119 ∨ F = 171) (B : Option Addr) (n c : Nat) (l : List Od) (g : Nat) (q : Int) (W : World) (hs : OdSl W B n l) (hz : W.cell? ⟨g, 0, none⟩ = some (.int .i64 q)) (hg : g < W.heap.size) :
  Calls prog 118 #[.slice B n c, .func (Fn.func F) #[] #[.pointer (some ⟨g, 0, none⟩)]] W (IdxO l n q W) := by
 have KSG := @osame_g F hF
 rcases hF with rfl | rfl | rfl
 all_goals
  have HS := hid hs
  have HZ := hid hz
  have HL := hid hs.1
  have hm9 := hs.2.1
  clear hs hz
  go_enter func118, ntmps118
  go_wp2_with fail
  go_loopw [5, 8] (fun _ i wr => ∃ k : Nat, k ≤ n ∧ i = .int .i64 k ∧ Hid (∀ j, j < k → (l.getD j od0).id ≠ q) ∧ Below W.heap.size W wr) (fun _ i _ => n - (intOf i).toNat)
  case atStart => exact ⟨0, Nat.zero_le _, rfl, fun j hj => absurd hj (by omega), b0 _⟩
  case round =>
   obtain ⟨k, hk', rfl, HN, hbl⟩ := hrel
   by_cases hk : k < n
   case neg =>
    obtain rfl : k = n := by omega
    go_wp2_with fail
    go_ret
    exact ⟨Or.inr ⟨(atO_none (fun j hj => HN.out j (by rw [HL.out]; exact hj))).trans HL.out.symm, rfl⟩, hbl⟩
   obtain ⟨b, off, rfl, hlt, hat⟩ := (HS.out.below hbl).2.2 (by omega)
   have hcl := hat k hk
   have hgz := (hbl.cell (p := ⟨g, _, none⟩) hg).trans HZ.out
   have hsz := hbl.size
   have HNX : Hid ((l.getD k od0).id ≠ q → ∀ j, j < k + 1 → (l.getD j od0).id ≠ q) := fun h j hj => by
    rcases (by omega : j = k ∨ j < k) with rfl | hj
    ·
     exact h
    ·
     exact HN.out j hj
   have HYX : Hid ((l.getD k od0).id = q → atO l q = k) := fun h => atO_of (by rw [← HL.out]; exact hk) h HN.out
   generalize l.getD k od0 = zz at *
   obtain ⟨id, pr, am, ra, tt, tk, ar⟩ := zz
   obtain ⟨c0, c1, c2, c3, c4, c5, c6⟩ : wr.cell? ⟨b, off + k * 7, none⟩ = some (.int .i64 id) ∧ wr.cell? ⟨b, off + k * 7 + 1, none⟩ = some (.int .i64 pr) ∧ wr.cell? ⟨b, off + k * 7 + 2, none⟩ = some (.int .i64 am) ∧ wr.cell? ⟨b, off + k * 7 + 3, none⟩ = some (.int .i64 ra) ∧ wr.cell? ⟨b, off + k * 7 + 4, none⟩ = some (.int .i64 tt) ∧ wr.cell? ⟨b, off + k * 7 + 5, none⟩ = some (.int .i64 tk) ∧ wr.cell? ⟨b, off + k * 7 + 6, none⟩ = some (.int .i64 ar) := ⟨hcl 0 _ rfl, hcl 1 _ rfl, hcl 2 _ rfl, hcl 3 _ rfl, hcl 4 _ rfl, hcl 5 _ rfl, hcl 6 _ rfl⟩
   dsimp only at HNX HYX
   clear hcl hat
   by_cases he : id = q
   ·
    have KS := hid (KSG id pr am ra tt tk ar g q wr hgz (by omega) true (by rw [he]; simp))
    have HE := hid (HYX.out he)
    clear hgz he
    go_wp2_with fail
    refine KS.out.mono ?_
    rintro e w2 ⟨rfl, hb2⟩
    go_wp2_with fail
    go_ret
    exact ⟨Or.inl ⟨by rw [HE.out]; exact hk, by rw [HE.out]; rfl⟩, bT hbl hb2⟩
   ·
    have KS := hid (KSG id pr am ra tt tk ar g q wr hgz (by omega) false (by simpa using he))
    have HN2 := hid (HNX.out he)
    clear hgz he
    go_wp2_with fail
    refine KS.out.mono ?_
    rintro e w2 ⟨rfl, hb2⟩
    go_wp2_with fail
    go_roundw
    case rel => exact ⟨k + 1, by omega, by go_num, HN2.out, bT hbl hb2⟩
    case measure => simp [intOf]; omega
theorem oidx1_c (B : Option Addr) (n c : Nat) (l : List Od) (g : Nat) (q : Int) (W : World) (hs : OdSl W B n l) (hz : W.cell? ⟨g, 0, none⟩ = some (.int .i64 q)) (hg : g < W.heap.size) :
  Calls prog 118 #[.slice B n c, .func (Fn.func 113) #[] #[.pointer (some ⟨g, 0, none⟩)]] W (IdxO l n q W) := oidx_g _ (by decide) B n c l g q W hs hz hg
theorem oidx2_c (B : Option Addr) (n c : Nat) (l : List Od) (g : Nat) (q : Int) (W : World) (hs : OdSl W B n l) (hz : W.cell? ⟨g, 0, none⟩ = some (.int .i64 q)) (hg : g < W.heap.size) :
  Calls prog 118 #[.slice B n c, .func (Fn.func 119) #[] #[.pointer (some ⟨g, 0, none⟩)]] W (IdxO l n q W) := oidx_g _ (by decide) B n c l g q W hs hz hg
theorem oidx3_c (B : Option Addr) (n c : Nat) (l : List Od) (g : Nat) (q : Int) (W : World) (hs : OdSl W B n l) (hz : W.cell? ⟨g, 0, none⟩ = some (.int .i64 q)) (hg : g < W.heap.size) :
  Calls prog 118 #[.slice B n c, .func (Fn.func 171) #[] #[.pointer (some ⟨g, 0, none⟩)]] W (IdxO l n q W) := oidx_g _ (by decide) B n c l g q W hs hz hg
def HasO (l : List Od) (n : Nat) (q : Int) (W : World) (e : Ending) (w' : World) : Prop :=
 ((atO l q < n ∧ e = .returned (.bool true)) ∨ (atO l q = n ∧ e = .returned (.bool false))) ∧ Below W.heap.size W w'
theorem ohas_c (B : Option Addr) (n c : Nat) (l : List Od) (g : Nat) (q : Int) (W : World) (hs : OdSl W B n l) (hz : W.cell? ⟨g, 0, none⟩ = some (.int .i64 q)) (hg : g < W.heap.size) :
  Calls prog 112 #[.slice B n c, .func (Fn.func 113) #[] #[.pointer (some ⟨g, 0, none⟩)]] W (HasO l n q W) := by
 have K := hid (oidx1_c B n c l g q W hs hz hg)
 clear hs hz
 go_enter func112, ntmps112
 go_wp2_with fail
 refine K.out.mono ?_
 rintro e w1 ⟨⟨h1, rfl⟩ | ⟨h1, rfl⟩, hb1⟩
 ·
  have HA := hid h1
  clear h1
  go_wp2_with fail
  go_ret
  exact ⟨Or.inl ⟨HA.out, rfl⟩, hb1⟩
 ·
  have HA := hid h1
  clear h1
  go_wp2_with fail
  go_ret
  exact ⟨Or.inr ⟨HA.out, rfl⟩, hb1⟩
theorem cor_c (g : Nat) (x y : Int) (w : World) (h0 : w.cell? ⟨g, 0, none⟩ = some (.int .i64 x)) (h1 : w.cell? ⟨g, 1, none⟩ = some (.int .i64 y)) (r : Int) (hr : Hid (r = if x ≠ 0 then x else y)) :
  Calls prog 152 #[.slice (some ⟨g, 0, none⟩) 2 2] w fun e w' => e = .returned (.int .i64 r) ∧ w = w' := by
 by_cases hx : x = 0
 ·
  have e : r = y := by rw [hr.out]; simp [hx]
  subst e
  subst hx
  by_cases hy : r = 0
  ·
   subst hy
   clear hr
   go_enter func152, ntmps152
   go_wp2_with fail
   go_loop [8] (fun i => ∃ k : Nat, k ≤ 2 ∧ i = .int .i64 k) (fun i => 2 - (intOf i).toNat)
   case atStart => exact ⟨0, by decide, rfl⟩
   case round =>
    obtain ⟨k, hk, rfl⟩ := hrel
    rcases (by omega : k = 0 ∨ k = 1 ∨ k = 2) with rfl | rfl | rfl
    ·
     go_wp2_with fail
     go_round
     case rel => exact ⟨1, by decide, rfl⟩
     case measure => simp [intOf]
    ·
     go_wp2_with fail
     go_round
     case rel => exact ⟨2, by decide, rfl⟩
     case measure => simp [intOf]
    ·
     go_wp2_with fail
     go_ret
     exact ⟨rfl, rfl⟩
  ·
   have v : (r != 0) = true := by simpa using hy
   clear hr hy
   go_enter func152, ntmps152
   go_wp2_with fail
   go_loop [8] (fun i => ∃ k : Nat, k ≤ 1 ∧ i = .int .i64 k) (fun i => 2 - (intOf i).toNat)
   case atStart => exact ⟨0, by decide, rfl⟩
   case round =>
    obtain ⟨k, hk, rfl⟩ := hrel
    rcases (by omega : k = 0 ∨ k = 1) with rfl | rfl
    ·
     go_wp2_with fail
     go_round
     case rel => exact ⟨1, by decide, rfl⟩
     case measure => simp [intOf]
    ·
     go_wp2_with fail
     go_ret
     exact ⟨rfl, rfl⟩
 ·
  have e : r = x := by rw [hr.out, if_pos hx]
  subst e
  have v : (r != 0) = true := by simpa using hx
  clear hr hx
  go_enter func152, ntmps152
  go_wp2_with fail
  go_loop [8] (fun i => i = .int .i64 0) (fun _ => 0)
  case atStart => rfl
  case round =>
   subst hrel
   go_wp2_with fail
   go_ret
   exact ⟨rfl, rfl⟩
end Go.Proofs.YtiaabmhjkoohmaaGreat
