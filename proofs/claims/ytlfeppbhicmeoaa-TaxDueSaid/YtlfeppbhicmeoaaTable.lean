/-
  Tables in memory; contracts of the closures and searches that table.Check uses. Conditions as named.
-/
import Derived.Test.YtlfeppbhicmeoaaWord
import Derived.Test.YtlfeppbhicmeoaaBand
import Derived.Test.YtlfeppbhicmeoaaOpen2
namespace Go.Proofs.Ytlfeppbhicmeoaa
set_option linter.unusedVariables false
open Go.RowKit
/-- a contribution -/
structure Ct where
  nm : ByteArray
  base : Int
  bands : List Bd
  pc : Int
  yc : Int
  rd : Int
def ct0 : Ct := ⟨ByteArray.empty, 0, [], 0, 0, 0⟩
/-- a kind of elements -/
structure Kd where
  nm : ByteArray
  c : Int
  t : Int
  s : Int
def kd0 : Kd := ⟨ByteArray.empty, 0, 0, 0⟩
/-- a table -/
structure Tb where
  sch : List (List Bd)
  cts : List Ct
  kds : List Kd
  lim : Int
  rnd : Int
def CtAt (w : World) (b off : Nat) (x : Ct) : Prop :=
  w.cell? ⟨b, off, none⟩ = some (.string x.nm) ∧ x.nm.size ≤ 9223372036854775807 ∧ w.cell? ⟨b, off + 1, none⟩ = some (.int .i64 x.base) ∧
  (∃ A n c, w.cell? ⟨b, off + 2, none⟩ = some (.slice A n c) ∧ BandSl w A n x.bands) ∧
  w.cell? ⟨b, off + 3, none⟩ = some (.int .i64 x.pc) ∧ w.cell? ⟨b, off + 4, none⟩ = some (.int .i64 x.yc) ∧ w.cell? ⟨b, off + 5, none⟩ = some (.int .i64 x.rd)
def KdAt (w : World) (b off : Nat) (x : Kd) : Prop :=
  w.cell? ⟨b, off, none⟩ = some (.string x.nm) ∧ x.nm.size ≤ 9223372036854775807 ∧ w.cell? ⟨b, off + 1, none⟩ = some (.int .i64 x.c) ∧ w.cell? ⟨b, off + 2, none⟩ = some (.int .i64 x.t) ∧ w.cell? ⟨b, off + 3, none⟩ = some (.int .i64 x.s)
def ScAt (w : World) (b off : Nat) (x : List Bd) : Prop := ∃ A n c, w.cell? ⟨b, off, none⟩ = some (.slice A n c) ∧ BandSl w A n x
def CtSl := SlOf CtAt 6 ct0
def KdSl := SlOf KdAt 4 kd0
def ScSl := SlOf ScAt 1 []
theorem CtAt.below {w w' : World} {b off : Nat} {x : Ct} (h : CtAt w b off x) (hlt : b < w.heap.size) (hb : Below w.heap.size w w') : CtAt w' b off x := by
  obtain ⟨h0, hs, h1, ⟨A, n, c, h2, h2'⟩, h3, h4, h5⟩ := h
  have e : ∀ o, w'.cell? ⟨b, o, none⟩ = w.cell? ⟨b, o, none⟩ := fun o => hb.cell (p := ⟨b, o, none⟩) hlt
  exact ⟨(e _).trans h0, hs, (e _).trans h1, ⟨A, n, c, (e _).trans h2, h2'.below hb⟩, (e _).trans h3, (e _).trans h4, (e _).trans h5⟩
theorem KdAt.below {w w' : World} {b off : Nat} {x : Kd} (h : KdAt w b off x) (hlt : b < w.heap.size) (hb : Below w.heap.size w w') : KdAt w' b off x := by
  obtain ⟨h0, hs, h1, h2, h3⟩ := h
  have e : ∀ o, w'.cell? ⟨b, o, none⟩ = w.cell? ⟨b, o, none⟩ := fun o => hb.cell (p := ⟨b, o, none⟩) hlt
  exact ⟨(e _).trans h0, hs, (e _).trans h1, (e _).trans h2, (e _).trans h3⟩
theorem ScAt.below {w w' : World} {b off : Nat} {x : List Bd} (h : ScAt w b off x) (hlt : b < w.heap.size) (hb : Below w.heap.size w w') : ScAt w' b off x := by
  obtain ⟨A, n, c, h0, h1⟩ := h
  exact ⟨A, n, c, (hb.cell (p := ⟨b, _, none⟩) hlt).trans h0, h1.below hb⟩
theorem CtSl.below {w w' : World} {A : Option Addr} {n : Nat} {l : List Ct} (h : CtSl w A n l) (hb : Below w.heap.size w w') : CtSl w' A n l := SlOf.below h (fun b off x hx hlt => hx.below hlt hb) hb
theorem KdSl.below {w w' : World} {A : Option Addr} {n : Nat} {l : List Kd} (h : KdSl w A n l) (hb : Below w.heap.size w w') : KdSl w' A n l := SlOf.below h (fun b off x hx hlt => hx.below hlt hb) hb
theorem ScSl.below {w w' : World} {A : Option Addr} {n : Nat} {l : List (List Bd)} (h : ScSl w A n l) (hb : Below w.heap.size w w') : ScSl w' A n l := SlOf.below h (fun b off x hx hlt => hx.below hlt hb) hb
/-- some bool; nothing that was there has turned -/
def SomeB (w : World) (e : Ending) (w' : World) : Prop := ∃ b : Bool, e = .returned (.bool b) ∧ Below w.heap.size w w'
def SomeI (w : World) (e : Ending) (w' : World) : Prop := ∃ i : Int, (e = .returned (.int .i64 i) ∧ -1 ≤ i) ∧ Below w.heap.size w w'
--%%
theorem cclos_c (x : Ct) (B : Nat) (A : Option Addr) (n c : Nat) (nm : ByteArray) (w : World) (hB : B < w.heap.size) (h : w.cell? ⟨B, 0, none⟩ = some (.string nm)) :
    Calls Try.prog 71 #[.agg #[.string x.nm, .int .i64 x.base, .slice A n c, .int .i64 x.pc, .int .i64 x.yc, .int .i64 x.rd], .pointer (some ⟨B, 0, none⟩)] w (SomeB w) := by
  have h' : ∀ o, (w.alloc o).cell? ⟨B, 0, none⟩ = some (.string nm) := fun o => by rw [World.cell?_alloc_lt _ _ _ hB]; exact h
  go_enter Try.func71, Try.ntmps71
  go_wp2
  go_ret
  exact ⟨_, rfl, below1 _ _⟩
--%%
theorem kclos_c (x : Kd) (B : Nat) (nm : ByteArray) (w : World) (hB : B < w.heap.size) (h : w.cell? ⟨B, 0, none⟩ = some (.string nm)) :
    Calls Try.prog 73 #[.agg #[.string x.nm, .int .i64 x.c, .int .i64 x.t, .int .i64 x.s], .pointer (some ⟨B, 0, none⟩)] w (SomeB w) := by
  have h' : ∀ o, (w.alloc o).cell? ⟨B, 0, none⟩ = some (.string nm) := fun o => by rw [World.cell?_alloc_lt _ _ _ hB]; exact h
  go_enter Try.func73, Try.ntmps73
  go_wp2
  go_ret
  exact ⟨_, rfl, below1 _ _⟩
--%%
theorem cindex_c (l : List Ct) (A : Option Addr) (n c B : Nat) (nm : ByteArray) (w : World) (hs : CtSl w A n l) (hB : B < w.heap.size) (h : w.cell? ⟨B, 0, none⟩ = some (.string nm)) :
    Calls Try.prog 82 #[.slice A n c, .func (.func 71) #[] #[.pointer (some ⟨B, 0, none⟩)]] w (SomeI w) := by
  obtain ⟨hn, hm, hc⟩ := hs
  have HC := Lib.hid hc
  clear hc hn
  go_enter Try.func82, Try.ntmps82
  go_wp2_with fail
  go_loopw [8] (fun i wr => ∃ k : Nat, k ≤ n ∧ i = .int .i64 k ∧ Below w.heap.size w wr) (fun i _ => n - (intOf i).toNat)
  case atStart => exact ⟨0, Nat.zero_le _, rfl, Below.refl _ _⟩
  case round =>
    obtain ⟨k, hk', rfl, hbl⟩ := hrel
    by_cases hk : k < n
    case neg =>
      go_wp2_with fail
      go_ret
      exact ⟨_, ⟨rfl, by decide⟩, hbl⟩
    obtain ⟨b, off, rfl, hlt, hat⟩ := HC.out (by omega)
    obtain ⟨c0, _, c1, ⟨A', n', c', c2, _⟩, c3, c4, c5⟩ := (hat k hk).below hlt hbl
    have hB' : B < wr.heap.size := Nat.lt_of_lt_of_le hB hbl.size
    have hcap := (hbl.cell (p := ⟨B, 0, none⟩) hB).trans h
    have K := Lib.hid (cclos_c (l.getD k ct0) B A' n' c' nm · )
    generalize l.getD k ct0 = x at *
    clear hat
    go_wp2_with fail
    refine (K.out _ hB' hcap).mono ?_
    rintro e w1 ⟨bb, rfl, hb1⟩
    have b1 : Below w.heap.size w w1 := hbl.trans (hb1.mono hbl.size)
    cases bb
    · go_wp2_with fail
      go_roundw
      case rel => exact ⟨k + 1, by omega, by go_num, b1⟩
      case measure => simp [intOf]; omega
    · go_wp2_with fail
      go_ret
      exact ⟨_, ⟨rfl, by omega⟩, b1⟩
--%%
theorem kindex_c (l : List Kd) (A : Option Addr) (n c B : Nat) (nm : ByteArray) (w : World) (hs : KdSl w A n l) (hB : B < w.heap.size) (h : w.cell? ⟨B, 0, none⟩ = some (.string nm)) :
    Calls Try.prog 83 #[.slice A n c, .func (.func 73) #[] #[.pointer (some ⟨B, 0, none⟩)]] w (SomeI w) := by
  obtain ⟨hn, hm, hc⟩ := hs
  have HC := Lib.hid hc
  clear hc hn
  go_enter Try.func83, Try.ntmps83
  go_wp2_with fail
  go_loopw [8] (fun i wr => ∃ k : Nat, k ≤ n ∧ i = .int .i64 k ∧ Below w.heap.size w wr) (fun i _ => n - (intOf i).toNat)
  case atStart => exact ⟨0, Nat.zero_le _, rfl, Below.refl _ _⟩
  case round =>
    obtain ⟨k, hk', rfl, hbl⟩ := hrel
    by_cases hk : k < n
    case neg =>
      go_wp2_with fail
      go_ret
      exact ⟨_, ⟨rfl, by decide⟩, hbl⟩
    obtain ⟨b, off, rfl, hlt, hat⟩ := HC.out (by omega)
    obtain ⟨c0, _, c1, c2, c3⟩ := (hat k hk).below hlt hbl
    have hB' : B < wr.heap.size := Nat.lt_of_lt_of_le hB hbl.size
    have hcap := (hbl.cell (p := ⟨B, 0, none⟩) hB).trans h
    have K := Lib.hid (kclos_c (l.getD k kd0) B nm · )
    generalize l.getD k kd0 = x at *
    clear hat
    go_wp2_with fail
    refine (K.out _ hB' hcap).mono ?_
    rintro e w1 ⟨bb, rfl, hb1⟩
    have b1 : Below w.heap.size w w1 := hbl.trans (hb1.mono hbl.size)
    cases bb
    · go_wp2_with fail
      go_roundw
      case rel => exact ⟨k + 1, by omega, by go_num, b1⟩
      case measure => simp [intOf]; omega
    · go_wp2_with fail
      go_ret
      exact ⟨_, ⟨rfl, by omega⟩, b1⟩
--%%
theorem ccontains_c (l : List Ct) (A : Option Addr) (n c B : Nat) (nm : ByteArray) (w : World) (hs : CtSl w A n l) (hB : B < w.heap.size) (h : w.cell? ⟨B, 0, none⟩ = some (.string nm)) :
    Calls Try.prog 70 #[.slice A n c, .func (.func 71) #[] #[.pointer (some ⟨B, 0, none⟩)]] w (SomeB w) := by
  go_enter Try.func70, Try.ntmps70
  go_wp2_with fail
  refine (cindex_c l A n c B nm _ hs hB h).mono ?_
  rintro e w1 ⟨i, ⟨rfl, hi⟩, hb1⟩
  go_wp2_with fail
  go_ret
  exact ⟨_, rfl, hb1⟩
--%%
theorem kcontains_c (l : List Kd) (A : Option Addr) (n c B : Nat) (nm : ByteArray) (w : World) (hs : KdSl w A n l) (hB : B < w.heap.size) (h : w.cell? ⟨B, 0, none⟩ = some (.string nm)) :
    Calls Try.prog 72 #[.slice A n c, .func (.func 73) #[] #[.pointer (some ⟨B, 0, none⟩)]] w (SomeB w) := by
  go_enter Try.func72, Try.ntmps72
  go_wp2_with fail
  refine (kindex_c l A n c B nm _ hs hB h).mono ?_
  rintro e w1 ⟨i, ⟨rfl, hi⟩, hb1⟩
  go_wp2_with fail
  go_ret
  exact ⟨_, rfl, hb1⟩
--%%
end Go.Proofs.Ytlfeppbhicmeoaa
