/-
  Tables in memory. No conditions beyond those named.
-/
import Derived.Test.YtankoappneglcaaBand
import Derived.Test.YtankoappneglcaaOpen2
namespace Go.Proofs.Ytankoappneglcaa
set_option linter.unusedVariables false
open Go.RowKit
/-- a contribution -/
structure Ct where
  nm : ByteArray
  base : Int
  bands : List Bd
  pc : Int
  yc : Int
  rd : Int
def ct0 : Ct := ⟨ByteArray.empty, 0, [], 0, 0, 0⟩
/-- a kind of elements -/
structure Kd where
  nm : ByteArray
  c : Int
  t : Int
  s : Int
def kd0 : Kd := ⟨ByteArray.empty, 0, 0, 0⟩
/-- a table -/
structure Tb where
  sch : List (List Bd)
  cts : List Ct
  kds : List Kd
  lim : Int
  rnd : Int
def CtAt (w : World) (b off : Nat) (x : Ct) : Prop :=
  w.cell? ⟨b, off, none⟩ = some (.string x.nm) ∧ x.nm.size ≤ 9223372036854775807 ∧ w.cell? ⟨b, off + 1, none⟩ = some (.int .i64 x.base) ∧
  (∃ A n c, w.cell? ⟨b, off + 2, none⟩ = some (.slice A n c) ∧ BandSl w A n x.bands) ∧
  w.cell? ⟨b, off + 3, none⟩ = some (.int .i64 x.pc) ∧ w.cell? ⟨b, off + 4, none⟩ = some (.int .i64 x.yc) ∧ w.cell? ⟨b, off + 5, none⟩ = some (.int .i64 x.rd)
def KdAt (w : World) (b off : Nat) (x : Kd) : Prop :=
  w.cell? ⟨b, off, none⟩ = some (.string x.nm) ∧ x.nm.size ≤ 9223372036854775807 ∧ w.cell? ⟨b, off + 1, none⟩ = some (.int .i64 x.c) ∧ w.cell? ⟨b, off + 2, none⟩ = some (.int .i64 x.t) ∧ w.cell? ⟨b, off + 3, none⟩ = some (.int .i64 x.s)
def ScAt (w : World) (b off : Nat) (x : List Bd) : Prop := ∃ A n c, w.cell? ⟨b, off, none⟩ = some (.slice A n c) ∧ BandSl w A n x
def CtSl := SlOf CtAt 6 ct0
def KdSl := SlOf KdAt 4 kd0
def ScSl := SlOf ScAt 1 []
theorem CtAt.below {w w' : World} {b off : Nat} {x : Ct} (h : CtAt w b off x) (hlt : b < w.heap.size) (hb : Below w.heap.size w w') : CtAt w' b off x := by
  obtain ⟨h0, hs, h1, ⟨A, n, c, h2, h2'⟩, h3, h4, h5⟩ := h
  have e : ∀ o, w'.cell? ⟨b, o, none⟩ = w.cell? ⟨b, o, none⟩ := fun o => hb.cell (p := ⟨b, o, none⟩) hlt
  exact ⟨(e _).trans h0, hs, (e _).trans h1, ⟨A, n, c, (e _).trans h2, h2'.below hb⟩, (e _).trans h3, (e _).trans h4, (e _).trans h5⟩
theorem KdAt.below {w w' : World} {b off : Nat} {x : Kd} (h : KdAt w b off x) (hlt : b < w.heap.size) (hb : Below w.heap.size w w') : KdAt w' b off x := by
  obtain ⟨h0, hs, h1, h2, h3⟩ := h
  have e : ∀ o, w'.cell? ⟨b, o, none⟩ = w.cell? ⟨b, o, none⟩ := fun o => hb.cell (p := ⟨b, o, none⟩) hlt
  exact ⟨(e _).trans h0, hs, (e _).trans h1, (e _).trans h2, (e _).trans h3⟩
theorem ScAt.below {w w' : World} {b off : Nat} {x : List Bd} (h : ScAt w b off x) (hlt : b < w.heap.size) (hb : Below w.heap.size w w') : ScAt w' b off x := by
  obtain ⟨A, n, c, h0, h1⟩ := h
  exact ⟨A, n, c, (hb.cell (p := ⟨b, _, none⟩) hlt).trans h0, h1.below hb⟩
theorem CtSl.below {w w' : World} {A : Option Addr} {n : Nat} {l : List Ct} (h : CtSl w A n l) (hb : Below w.heap.size w w') : CtSl w' A n l := SlOf.below h (fun b off x hx hlt => hx.below hlt hb) hb
theorem KdSl.below {w w' : World} {A : Option Addr} {n : Nat} {l : List Kd} (h : KdSl w A n l) (hb : Below w.heap.size w w') : KdSl w' A n l := SlOf.below h (fun b off x hx hlt => hx.below hlt hb) hb
theorem ScSl.below {w w' : World} {A : Option Addr} {n : Nat} {l : List (List Bd)} (h : ScSl w A n l) (hb : Below w.heap.size w w') : ScSl w' A n l := SlOf.below h (fun b off x hx hlt => hx.below hlt hb) hb
/-- some bool; nothing that was there has turned -/
def SomeB (w : World) (e : Ending) (w' : World) : Prop := ∃ b : Bool, e = .returned (.bool b) ∧ Below w.heap.size w w'
def SomeI (w : World) (e : Ending) (w' : World) : Prop := ∃ i : Int, (e = .returned (.int .i64 i) ∧ -1 ≤ i) ∧ Below w.heap.size w w'
end Go.Proofs.Ytankoappneglcaa
