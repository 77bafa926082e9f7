/-
  Tables in memory. No conditions beyond those named.
  Rows of bands of the call's own. Conditions as named.
  Tables in memory whose slices the call owns; slices.Clone at their types. Conditions as named.
  What lies listed of the library: its tables, its bound. No conditions beyond those named.
  Contracts of strconv.FormatUint at base 10 and of money.Text. Conditions as named.
  Contract of money.Text. Conditions as named.
  Contracts of table.Mode, ModeName and number. Conditions as named.
  Plain: whole numbers of digits, and an amount of words. No program.
  Whole numbers of words. No program, no conditions beyond those named.
  Plain: bands read of words. No program.
  Contracts of money.digit, whole and digits. Conditions as named.
  Contracts of word.Int and of the document's Int. Conditions as named.
  An argument that is a table, opened. No conditions.
  Plain: an amount as it is written is read as it. No program.
  Plain: a whole number as it is written is read as it. No program.
  Contracts of word.plain, shown, Quote, and of the document's Plain and Shown. Conditions as named.
-/
import Derived.Test.YtcngmajkkhipoaaGreatDoorBand
import Derived.Test.YtcngmajkkhipoaaGreatDoorM0
import Derived.Lib.SliceRun
import Derived.Test.YtcngmajkkhipoaaGreatDoorShelf
import Derived.Lib.LaidTab
import Derived.Lib.Walk
import Derived.Lib.ItoaMem
import Derived.BigCall
import Derived.BigGuard
import Derived.Lib.AppendIntMem
import Derived.Laws.Concat
import Derived.Lib.Fields
import Derived.Lib.Strings
import Derived.Lib.Atoi
import Derived.Lib.SplitLaws
import Derived.Deep.QuietTactic
import Derived.BigQuiet
import Derived.Lib.AtoiErrMem
import Derived.Lib.ItoaNum
namespace Go.Proofs.YtcngmajkkhipoaaGreatDoor
set_option linter.unusedVariables false
open Go.RowKit
/-- a contribution -/
structure Ct where
  nm : ByteArray
  base : Int
  bands : List Bd
  pc : Int
  yc : Int
  rd : Int
def ct0 : Ct := ⟨ByteArray.empty, 0, [], 0, 0, 0⟩
/-- a kind of elements -/
structure Kd where
  nm : ByteArray
  c : Int
  t : Int
  s : Int
def kd0 : Kd := ⟨ByteArray.empty, 0, 0, 0⟩
/-- a table -/
structure Tb where
  sch : List (List Bd)
  cts : List Ct
  kds : List Kd
  lim : Int
  rnd : Int
def CtAt (w : World) (b off : Nat) (x : Ct) : Prop :=
  w.cell? ⟨b, off, none⟩ = some (.string x.nm) ∧ x.nm.size ≤ 9223372036854775807 ∧ w.cell? ⟨b, off + 1, none⟩ = some (.int .i64 x.base) ∧
  (∃ A n c, w.cell? ⟨b, off + 2, none⟩ = some (.slice A n c) ∧ BandSl w A n x.bands) ∧
  w.cell? ⟨b, off + 3, none⟩ = some (.int .i64 x.pc) ∧ w.cell? ⟨b, off + 4, none⟩ = some (.int .i64 x.yc) ∧ w.cell? ⟨b, off + 5, none⟩ = some (.int .i64 x.rd)
def KdAt (w : World) (b off : Nat) (x : Kd) : Prop :=
  w.cell? ⟨b, off, none⟩ = some (.string x.nm) ∧ x.nm.size ≤ 9223372036854775807 ∧ w.cell? ⟨b, off + 1, none⟩ = some (.int .i64 x.c) ∧ w.cell? ⟨b, off + 2, none⟩ = some (.int .i64 x.t) ∧ w.cell? ⟨b, off + 3, none⟩ = some (.int .i64 x.s)
def ScAt (w : World) (b off : Nat) (x : List Bd) : Prop := ∃ A n c, w.cell? ⟨b, off, none⟩ = some (.slice A n c) ∧ BandSl w A n x
def CtSl := SlOf CtAt 6 ct0
def KdSl := SlOf KdAt 4 kd0
def ScSl := SlOf ScAt 1 []
theorem CtAt.below {w w' : World} {b off : Nat} {x : Ct} (h : CtAt w b off x) (hlt : b < w.heap.size) (hb : Below w.heap.size w w') : CtAt w' b off x := by
  obtain ⟨h0, hs, h1, ⟨A, n, c, h2, h2'⟩, h3, h4, h5⟩ := h
  have e : ∀ o, w'.cell? ⟨b, o, none⟩ = w.cell? ⟨b, o, none⟩ := fun o => hb.cell (p := ⟨b, o, none⟩) hlt
  exact ⟨(e _).trans h0, hs, (e _).trans h1, ⟨A, n, c, (e _).trans h2, h2'.below hb⟩, (e _).trans h3, (e _).trans h4, (e _).trans h5⟩
theorem KdAt.below {w w' : World} {b off : Nat} {x : Kd} (h : KdAt w b off x) (hlt : b < w.heap.size) (hb : Below w.heap.size w w') : KdAt w' b off x := by
  obtain ⟨h0, hs, h1, h2, h3⟩ := h
  have e : ∀ o, w'.cell? ⟨b, o, none⟩ = w.cell? ⟨b, o, none⟩ := fun o => hb.cell (p := ⟨b, o, none⟩) hlt
  exact ⟨(e _).trans h0, hs, (e _).trans h1, (e _).trans h2, (e _).trans h3⟩
theorem ScAt.below {w w' : World} {b off : Nat} {x : List Bd} (h : ScAt w b off x) (hlt : b < w.heap.size) (hb : Below w.heap.size w w') : ScAt w' b off x := by
  obtain ⟨A, n, c, h0, h1⟩ := h
  exact ⟨A, n, c, (hb.cell (p := ⟨b, _, none⟩) hlt).trans h0, h1.below hb⟩
theorem CtSl.below {w w' : World} {A : Option Addr} {n : Nat} {l : List Ct} (h : CtSl w A n l) (hb : Below w.heap.size w w') : CtSl w' A n l := SlOf.below h (fun b off x hx hlt => hx.below hlt hb) hb
theorem KdSl.below {w w' : World} {A : Option Addr} {n : Nat} {l : List Kd} (h : KdSl w A n l) (hb : Below w.heap.size w w') : KdSl w' A n l := SlOf.below h (fun b off x hx hlt => hx.below hlt hb) hb
theorem ScSl.below {w w' : World} {A : Option Addr} {n : Nat} {l : List (List Bd)} (h : ScSl w A n l) (hb : Below w.heap.size w w') : ScSl w' A n l := SlOf.below h (fun b off x hx hlt => hx.below hlt hb) hb
/-- some bool; nothing that was there has turned -/
def SomeB (w : World) (e : Ending) (w' : World) : Prop := ∃ b : Bool, e = .returned (.bool b) ∧ Below w.heap.size w w'
def SomeI (w : World) (e : Ending) (w' : World) : Prop := ∃ i : Int, (e = .returned (.int .i64 i) ∧ -1 ≤ i) ∧ Below w.heap.size w w'
def kdC (z : Kd) : List Value := [.string z.nm, .int .i64 z.c, .int .i64 z.t, .int .i64 z.s]
end Go.Proofs.YtcngmajkkhipoaaGreatDoor
namespace Go.Proofs.YtcngmajkkhipoaaGreatDoor
set_option linter.unusedVariables false
open Go.RowKit
def bdC (b : Bd) : List Value := [.int .i64 b.f, .int .i64 b.r, .int .i64 b.e]
def OwnB (w : World) (base : Nat) (v : Value) (n : Nat) (l : List Bd) : Prop := n = l.length ∧ w.ownsRow base 44 3 v n (l.flatMap bdC)
theorem bdC_len (x : Bd) : (bdC x).length = 3 := rfl
theorem OwnB.sl {w : World} {base : Nat} {v : Value} {n : Nat} {l : List Bd} (h : OwnB w base v n l) : ∃ A c, v = .slice A n c ∧ n ≤ c ∧ BandSl w A n l := by
  obtain ⟨hn, h⟩ := h
  obtain ⟨A, c, rfl, hc, h1, h2, h3⟩ := own_sl bdC 3 bd0 bdC_len h hn (by decide)
  refine ⟨A, c, rfl, hc, h1, h2, fun h0 => ?_⟩
  obtain ⟨b, off, hA, hlt, hat⟩ := h3 h0
  refine ⟨b, off, hA, hlt, fun k hk => ⟨?_, ?_, ?_⟩⟩
  · exact hat k (by omega) 0 _ rfl
  · exact hat k (by omega) 1 _ rfl
  · exact hat k (by omega) 2 _ rfl
theorem info_band : (Tryz.prog.info? 44).map (fun i => (i.zero, i.size, i.bytes)) = some (some (.agg #[.int .i64 0, .int .i64 0, .int .i64 0]), 3, 24) := by kernel_rfl
end Go.Proofs.YtcngmajkkhipoaaGreatDoor
namespace Go.Proofs.YtcngmajkkhipoaaGreatDoor
set_option linter.unusedVariables false
open Go.RowKit
/-- a contribution, with where its bands lie -/
structure CtP where
  x : Ct
  A : Option Addr
  m : Nat
  c : Nat
def ctp0 : CtP := ⟨ct0, none, 0, 0⟩
def ctPC (p : CtP) : List Value := [.string p.x.nm, .int .i64 p.x.base, .slice p.A p.m p.c, .int .i64 p.x.pc, .int .i64 p.x.yc, .int .i64 p.x.rd]
theorem ctPC_len (p : CtP) : (ctPC p).length = 6 := rfl
/-- a scheme, with where its bands lie -/
structure ScP where
  x : List Bd
  A : Option Addr
  m : Nat
  c : Nat
def scp0 : ScP := ⟨[], none, 0, 0⟩
def scPC (p : ScP) : List Value := [.slice p.A p.m p.c]
theorem scPC_len (p : ScP) : (scPC p).length = 1 := rfl
theorem kdC_len (p : Kd) : (kdC p).length = 4 := rfl
/-! ### out of what is read, and back -/
theorem ct_rows {w : World} {A : Option Addr} {n : Nat} {l : List Ct} (h : CtSl w A n l) : ∃ lp : List CtP, lp.map CtP.x = l ∧ RowSl ctPC 6 ctp0 w A n lp ∧ (∀ p ∈ lp, BandSl w p.A p.m p.x.bands ∧ p.x.nm.size ≤ 9223372036854775807) := by
  obtain ⟨h1, h2, h3⟩ := h
  rcases Nat.eq_zero_or_pos n with h0 | h0
  · subst h0
    have : l = [] := List.eq_nil_of_length_eq_zero h1.symm
    subst this
    exact ⟨[], rfl, ⟨rfl, by decide, fun h => absurd h (by decide)⟩, fun p hp => by simp at hp⟩
  obtain ⟨b, off, hA, hlt, hat⟩ := h3 h0
  have key : ∀ m, m ≤ n → ∃ lp : List CtP, lp.map CtP.x = l.take m ∧ (∀ k, k < m → RowAt ctPC w b (off + k * 6) (lp.getD k ctp0)) ∧ (∀ p ∈ lp, BandSl w p.A p.m p.x.bands ∧ p.x.nm.size ≤ 9223372036854775807) := by
    intro m
    induction m with
    | zero => exact fun _ => ⟨[], by simp, fun k hk => absurd hk (by omega), fun p hp => by simp at hp⟩
    | succ m ih =>
      intro hm
      obtain ⟨lp, e, hr, hb⟩ := ih (by omega)
      obtain ⟨c0, cz, c1, ⟨A', m', c', c2, hl'⟩, c3, c4, c5⟩ := hat m (by omega)
      have hlp : lp.length = m := by
        have := congrArg List.length e
        simp at this; omega
      refine ⟨lp ++ [⟨l.getD m ct0, A', m', c'⟩], ?_, fun k hk => ?_, fun p hp => ?_⟩
      · rw [List.map_append, e, List.take_add_one, List.getElem?_eq_getElem (show m < l.length by omega)]
        simp [List.getD, List.getElem?_eq_getElem (show m < l.length by omega)]
      · rcases (by omega : k < m ∨ k = m) with hk' | rfl
        · have : (lp ++ [(⟨l.getD m ct0, A', m', c'⟩ : CtP)]).getD k ctp0 = lp.getD k ctp0 := by simp [List.getD, List.getElem?_append_left (show k < lp.length by omega)]
          rw [this]; exact hr k hk'
        · have : (lp ++ [(⟨l.getD k ct0, A', m', c'⟩ : CtP)]).getD k ctp0 = ⟨l.getD k ct0, A', m', c'⟩ := by
            generalize l.getD k ct0 = zz
            simp [List.getD, ← hlp]
          rw [this]
          intro i u hu
          have hi : i < 6 := (List.getElem?_eq_some_iff.1 hu).1
          rcases (by omega : i = 0 ∨ i = 1 ∨ i = 2 ∨ i = 3 ∨ i = 4 ∨ i = 5) with rfl | rfl | rfl | rfl | rfl | rfl <;> (injection hu with hu; subst hu; assumption)
      · rcases List.mem_append.1 hp with hp | hp
        · exact hb p hp
        · simp at hp; subst hp; exact ⟨hl', cz⟩
  obtain ⟨lp, e, hr, hb⟩ := key n (Nat.le_refl _)
  have e' : lp.map CtP.x = l := by rw [e, h1, List.take_length]
  have hlp : lp.length = n := by rw [← List.length_map (f := CtP.x), e', h1]
  exact ⟨lp, e', ⟨hlp.symm, h2, fun _ => ⟨b, off, hA, hlt, hr⟩⟩, hb⟩
theorem sc_rows {w : World} {A : Option Addr} {n : Nat} {l : List (List Bd)} (h : ScSl w A n l) : ∃ lp : List ScP, lp.map ScP.x = l ∧ RowSl scPC 1 scp0 w A n lp ∧ (∀ p ∈ lp, BandSl w p.A p.m p.x) := by
  obtain ⟨h1, h2, h3⟩ := h
  rcases Nat.eq_zero_or_pos n with h0 | h0
  · subst h0
    have : l = [] := List.eq_nil_of_length_eq_zero h1.symm
    subst this
    exact ⟨[], rfl, ⟨rfl, by decide, fun h => absurd h (by decide)⟩, fun p hp => by simp at hp⟩
  obtain ⟨b, off, hA, hlt, hat⟩ := h3 h0
  have key : ∀ m, m ≤ n → ∃ lp : List ScP, lp.map ScP.x = l.take m ∧ (∀ k, k < m → RowAt scPC w b (off + k * 1) (lp.getD k scp0)) ∧ (∀ p ∈ lp, BandSl w p.A p.m p.x) := by
    intro m
    induction m with
    | zero => exact fun _ => ⟨[], by simp, fun k hk => absurd hk (by omega), fun p hp => by simp at hp⟩
    | succ m ih =>
      intro hm
      obtain ⟨lp, e, hr, hb⟩ := ih (by omega)
      obtain ⟨A', m', c', c2, hl'⟩ := hat m (by omega)
      have hlp : lp.length = m := by
        have := congrArg List.length e
        simp at this; omega
      refine ⟨lp ++ [⟨l.getD m [], A', m', c'⟩], ?_, fun k hk => ?_, fun p hp => ?_⟩
      · rw [List.map_append, e, List.take_add_one, List.getElem?_eq_getElem (show m < l.length by omega)]
        simp [List.getD, List.getElem?_eq_getElem (show m < l.length by omega)]
      · rcases (by omega : k < m ∨ k = m) with hk' | rfl
        · have : (lp ++ [(⟨l.getD m [], A', m', c'⟩ : ScP)]).getD k scp0 = lp.getD k scp0 := by simp [List.getD, List.getElem?_append_left (show k < lp.length by omega)]
          rw [this]; exact hr k hk'
        · have : (lp ++ [(⟨l.getD k [], A', m', c'⟩ : ScP)]).getD k scp0 = ⟨l.getD k [], A', m', c'⟩ := by
            generalize l.getD k [] = zz
            simp [List.getD, ← hlp]
          rw [this]
          intro i u hu
          have hi : i < 1 := (List.getElem?_eq_some_iff.1 hu).1
          obtain rfl : i = 0 := by omega
          injection hu with hu; subst hu; exact c2
      · rcases List.mem_append.1 hp with hp | hp
        · exact hb p hp
        · simp at hp; subst hp; exact hl'
  obtain ⟨lp, e, hr, hb⟩ := key n (Nat.le_refl _)
  have e' : lp.map ScP.x = l := by rw [e, h1, List.take_length]
  have hlp : lp.length = n := by rw [← List.length_map (f := ScP.x), e', h1]
  exact ⟨lp, e', ⟨hlp.symm, h2, fun _ => ⟨b, off, hA, hlt, hr⟩⟩, hb⟩
theorem kd_rows {w : World} {A : Option Addr} {n : Nat} {l : List Kd} (h : KdSl w A n l) : RowSl kdC 4 kd0 w A n l ∧ (∀ p ∈ l, p.nm.size ≤ 9223372036854775807) := by
  obtain ⟨h1, h2, h3⟩ := h
  refine ⟨⟨h1, h2, fun h0 => ?_⟩, fun p hp => ?_⟩
  · obtain ⟨b, off, hA, hlt, hat⟩ := h3 h0
    refine ⟨b, off, hA, hlt, fun k hk i u hu => ?_⟩
    obtain ⟨c0, cz, c1, c2, c3⟩ := hat k hk
    have hi : i < 4 := (List.getElem?_eq_some_iff.1 hu).1
    rcases (by omega : i = 0 ∨ i = 1 ∨ i = 2 ∨ i = 3) with rfl | rfl | rfl | rfl <;> (injection hu with hu; subst hu; assumption)
  · obtain ⟨k, hk, rfl⟩ := List.getElem_of_mem hp
    obtain ⟨b, off, hA, hlt, hat⟩ := h3 (by omega)
    obtain ⟨c0, cz, _⟩ := hat k (by omega)
    have : l.getD k kd0 = l[k] := by simp [List.getD, List.getElem?_eq_getElem hk]
    rwa [this] at cz
theorem getD_mem {α : Type} {l : List α} {d : α} {k : Nat} (h : k < l.length) : l.getD k d ∈ l := by
  simp [List.getD, List.getElem?_eq_getElem h]
theorem rows_ct {w : World} {A : Option Addr} {n : Nat} {lp : List CtP} (h : RowSl ctPC 6 ctp0 w A n lp) (hb : ∀ p ∈ lp, BandSl w p.A p.m p.x.bands ∧ p.x.nm.size ≤ 9223372036854775807) : CtSl w A n (lp.map CtP.x) := by
  obtain ⟨h1, h2, h3⟩ := h
  refine ⟨by rw [List.length_map]; exact h1, h2, fun h0 => ?_⟩
  obtain ⟨b, off, hA, hlt, hat⟩ := h3 h0
  refine ⟨b, off, hA, hlt, fun k hk => ?_⟩
  have e : (lp.map CtP.x).getD k ct0 = (lp.getD k ctp0).x := by
    have hk' : k < lp.length := by omega
    simp [List.getD, List.getElem?_eq_getElem hk']
  rw [e]
  obtain ⟨hb1, hb2⟩ := hb _ (getD_mem (d := ctp0) (show k < lp.length by omega))
  have hr := hat k hk
  exact ⟨hr 0 _ rfl, hb2, hr 1 _ rfl, ⟨_, _, _, hr 2 _ rfl, hb1⟩, hr 3 _ rfl, hr 4 _ rfl, hr 5 _ rfl⟩
theorem rows_sc {w : World} {A : Option Addr} {n : Nat} {lp : List ScP} (h : RowSl scPC 1 scp0 w A n lp) (hb : ∀ p ∈ lp, BandSl w p.A p.m p.x) : ScSl w A n (lp.map ScP.x) := by
  obtain ⟨h1, h2, h3⟩ := h
  refine ⟨by rw [List.length_map]; exact h1, h2, fun h0 => ?_⟩
  obtain ⟨b, off, hA, hlt, hat⟩ := h3 h0
  refine ⟨b, off, hA, hlt, fun k hk => ?_⟩
  have e : (lp.map ScP.x).getD k [] = (lp.getD k scp0).x := by
    have hk' : k < lp.length := by omega
    simp [List.getD, List.getElem?_eq_getElem hk']
  rw [e]
  exact ⟨_, _, _, hat k hk 0 _ rfl, hb _ (getD_mem (d := scp0) (show k < lp.length by omega))⟩
theorem rows_kd {w : World} {A : Option Addr} {n : Nat} {l : List Kd} (h : RowSl kdC 4 kd0 w A n l) (hb : ∀ p ∈ l, p.nm.size ≤ 9223372036854775807) : KdSl w A n l := by
  obtain ⟨h1, h2, h3⟩ := h
  refine ⟨h1, h2, fun h0 => ?_⟩
  obtain ⟨b, off, hA, hlt, hat⟩ := h3 h0
  refine ⟨b, off, hA, hlt, fun k hk => ?_⟩
  have hr := hat k hk
  exact ⟨hr 0 _ rfl, hb _ (getD_mem (d := kd0) (show k < l.length by omega)), hr 1 _ rfl, hr 2 _ rfl, hr 3 _ rfl⟩
theorem ct_one {l : List CtP} : ∀ u ∈ l.flatMap ctPC, u.oneCell' = true := fun u hu => by
  obtain ⟨z, _, hz⟩ := List.mem_flatMap.1 hu
  simp only [ctPC, List.mem_cons, List.not_mem_nil, or_false] at hz
  rcases hz with rfl | rfl | rfl | rfl | rfl | rfl <;> rfl
theorem kd_one {l : List Kd} : ∀ u ∈ l.flatMap kdC, u.oneCell' = true := fun u hu => by
  obtain ⟨z, _, hz⟩ := List.mem_flatMap.1 hu
  simp only [kdC, List.mem_cons, List.not_mem_nil, or_false] at hz
  rcases hz with rfl | rfl | rfl | rfl <;> rfl
theorem bd_one {l : List Bd} : ∀ u ∈ l.flatMap bdC, u.oneCell' = true := fun u hu => by
  obtain ⟨z, _, hz⟩ := List.mem_flatMap.1 hu
  simp only [bdC, List.mem_cons, List.not_mem_nil, or_false] at hz
  rcases hz with rfl | rfl | rfl <;> rfl
theorem band_src {w : World} {A : Option Addr} {n : Nat} {l : List Bd} (h : BandSl w A n l) : SrcAt w A n 3 (l.flatMap bdC) := by
  obtain ⟨h1, h2, h3⟩ := h
  have : RowSl bdC 3 bd0 w A n l := ⟨h1, h2, fun h0 => by
    obtain ⟨b, off, hA, hlt, hat⟩ := h3 h0
    refine ⟨b, off, hA, hlt, fun k hk i u hu => ?_⟩
    obtain ⟨c0, c1, c2⟩ := hat k (by omega)
    have hi : i < 3 := (List.getElem?_eq_some_iff.1 hu).1
    rcases (by omega : i = 0 ∨ i = 1 ∨ i = 2) with rfl | rfl | rfl <;> (injection hu with hu; subst hu; assumption)⟩
  exact this.src bdC_len
def GivesV (E : TypeId) (K n : Nat) (news : List Value) (w : World) (e : Ending) (w' : World) : Prop := (∃ v, e = .returned v ∧ w'.ownsRow w.heap.size E K v n news) ∧ Below w.heap.size w w'
theorem info_contrib : (Tryz.prog.info? 46).map (fun i => (i.zero, i.size, i.bytes)) = some (some (.agg #[.string ⟨#[]⟩, .int .i64 0, .slice none 0 0, .int .i64 0, .int .i64 0, .int .i64 0]), 6, 72) := by kernel_rfl
theorem info_kind : (Tryz.prog.info? 56).map (fun i => (i.zero, i.size, i.bytes)) = some (some (.agg #[.string ⟨#[]⟩, .int .i64 0, .int .i64 0, .int .i64 0]), 4, 40) := by kernel_rfl
theorem info_bands : (Tryz.prog.info? 42).map (fun i => (i.zero, i.size, i.bytes)) = some (some (.slice none 0 0), 1, 24) := by kernel_rfl
--%%
theorem clone_ct (A : Option Addr) (n c : Nat) (news : List Value) (w : World) (h : SrcAt w A n 6 news) (h1 : ∀ u ∈ news, u.oneCell' = true) (hn : n ≤ 1000000) :
    Calls Tryz.prog 32 #[.slice A n c] w (GivesV 46 6 n news w) := by
  have hq := fun W => Lib.run_eql_slice_nil (P := Tryz.prog) W 23 46 A n c 0 0 Tryz.underlying23
  cases hA : A with
  | none =>
    subst hA
    obtain ⟨h2, h3⟩ := h
    have h0 : n = 0 := by
      rcases Nat.eq_zero_or_pos n with h0 | h0
      · exact h0
      · obtain ⟨b, off, h, _⟩ := h3 h0
        cases h
    subst h0
    have hl : news = [] := List.eq_nil_of_length_eq_zero (by simpa using h2)
    subst hl
    clear h3 h2 h1
    go_enter Tryz.func32, Tryz.ntmps32
    go_wp2
    go_ret
    exact ⟨⟨_, rfl, World.ownsRow_nil _ _ _ _⟩, Below.refl _ _⟩
  | some ad =>
    subst hA
    have HS := Lib.hid (h.below (below1 w (.cells #[] 46)))
    have H1 := Lib.hid h1
    clear h h1
    have HO := Lib.hid (World.ownsRow_lit (e := 46) (size := 6) (base := w.heap.size) w #[] 0 (Nat.le_refl _) (by decide) rfl)
    go_enter Tryz.func32, Tryz.ntmps32
    go_wp2_with (at_builtin; refine wpList_appN _ rfl _ _ 23 rfl 46 _ 6 72 Tryz.underlying23 info_contrib rfl (by decide) rfl HO.out _ _ _ _ rfl HS.out H1.out (by omega) (by omega) (by simp) ?_; intro v' w1 ho hg)
    go_ret
    refine ⟨⟨_, rfl, ?_⟩, (below1 _ _).grown hg (by simp) (fun k hk => by injection hk with hk; exact Nat.le_of_eq hk)⟩
    simpa using ho
--%%
theorem clone_kd (A : Option Addr) (n c : Nat) (news : List Value) (w : World) (h : SrcAt w A n 4 news) (h1 : ∀ u ∈ news, u.oneCell' = true) (hn : n ≤ 1000000) :
    Calls Tryz.prog 33 #[.slice A n c] w (GivesV 56 4 n news w) := by
  have hq := fun W => Lib.run_eql_slice_nil (P := Tryz.prog) W 24 56 A n c 0 0 Tryz.underlying24
  cases hA : A with
  | none =>
    subst hA
    obtain ⟨h2, h3⟩ := h
    have h0 : n = 0 := by
      rcases Nat.eq_zero_or_pos n with h0 | h0
      · exact h0
      · obtain ⟨b, off, h, _⟩ := h3 h0
        cases h
    subst h0
    have hl : news = [] := List.eq_nil_of_length_eq_zero (by simpa using h2)
    subst hl
    clear h3 h2 h1
    go_enter Tryz.func33, Tryz.ntmps33
    go_wp2
    go_ret
    exact ⟨⟨_, rfl, World.ownsRow_nil _ _ _ _⟩, Below.refl _ _⟩
  | some ad =>
    subst hA
    have HS := Lib.hid (h.below (below1 w (.cells #[] 56)))
    have H1 := Lib.hid h1
    clear h h1
    have HO := Lib.hid (World.ownsRow_lit (e := 56) (size := 4) (base := w.heap.size) w #[] 0 (Nat.le_refl _) (by decide) rfl)
    go_enter Tryz.func33, Tryz.ntmps33
    go_wp2_with (at_builtin; refine wpList_appN _ rfl _ _ 24 rfl 56 _ 4 40 Tryz.underlying24 info_kind rfl (by decide) rfl HO.out _ _ _ _ rfl HS.out H1.out (by omega) (by omega) (by simp) ?_; intro v' w1 ho hg)
    go_ret
    refine ⟨⟨_, rfl, ?_⟩, (below1 _ _).grown hg (by simp) (fun k hk => by injection hk with hk; exact Nat.le_of_eq hk)⟩
    simpa using ho
--%%
theorem clone_bd (A : Option Addr) (n c : Nat) (news : List Value) (w : World) (h : SrcAt w A n 3 news) (h1 : ∀ u ∈ news, u.oneCell' = true) (hn : n ≤ 1000000) :
    Calls Tryz.prog 34 #[.slice A n c] w (GivesV 44 3 n news w) := by
  have hq := fun W => Lib.run_eql_slice_nil (P := Tryz.prog) W 42 44 A n c 0 0 Tryz.underlying42
  cases hA : A with
  | none =>
    subst hA
    obtain ⟨h2, h3⟩ := h
    have h0 : n = 0 := by
      rcases Nat.eq_zero_or_pos n with h0 | h0
      · exact h0
      · obtain ⟨b, off, h, _⟩ := h3 h0
        cases h
    subst h0
    have hl : news = [] := List.eq_nil_of_length_eq_zero (by simpa using h2)
    subst hl
    clear h3 h2 h1
    go_enter Tryz.func34, Tryz.ntmps34
    go_wp2
    go_ret
    exact ⟨⟨_, rfl, World.ownsRow_nil _ _ _ _⟩, Below.refl _ _⟩
  | some ad =>
    subst hA
    have HS := Lib.hid (h.below (below1 w (.cells #[] 44)))
    have H1 := Lib.hid h1
    clear h h1
    have HO := Lib.hid (World.ownsRow_lit (e := 44) (size := 3) (base := w.heap.size) w #[] 0 (Nat.le_refl _) (by decide) rfl)
    go_enter Tryz.func34, Tryz.ntmps34
    go_wp2_with (at_builtin; refine wpList_appN _ rfl _ _ 42 rfl 44 _ 3 24 Tryz.underlying42 info_band rfl (by decide) rfl HO.out _ _ _ _ rfl HS.out H1.out (by omega) (by omega) (by simp) ?_; intro v' w1 ho hg)
    go_ret
    refine ⟨⟨_, rfl, ?_⟩, (below1 _ _).grown hg (by simp) (fun k hk => by injection hk with hk; exact Nat.le_of_eq hk)⟩
    simpa using ho
--%%
end Go.Proofs.YtcngmajkkhipoaaGreatDoor
namespace Go.Proofs.YtcngmajkkhipoaaGreatDoor
set_option linter.unusedVariables false
open Go.RowKit
--%%
/-- the library's bound on short needles holds some number -/
def ML (w : World) : Prop := ∃ m, w.cell? ⟨2, 0, none⟩ = some (.int .i64 m)
theorem ML.t {w w' : World} (h : ML w) (hb : Below w.heap.size w w') : ML w' := by
  obtain ⟨m, hm⟩ := h
  exact ⟨m, (hb.cell (p := ⟨_, _, none⟩) (World.block_lt_of_cell? w _ hm)).trans hm⟩
theorem ML_of {w : World} (h : w.ShapedOpen Tryz.prog) : ML w := Tryz.laysM143.s1_3 w h
--%%
/-- the library's table of blanks, as the program lays it -/
def TabS (w : World) : Prop := Lib.TabIs Tryz.prog w "strings.asciiSpace" .u8 Lib.asciiSpaceTab
theorem TabS.t {w w' : World} (h : TabS w) (hb : Below w.heap.size w w') : TabS w' := by
  unfold TabS Lib.TabIs World.var? at *
  cases hg : Tryz.prog.globalNamed "strings.asciiSpace" with
  | none => simp [hg] at h
  | some g =>
    simp only [hg, Option.bind_some] at h ⊢
    have hlt : g < w.heap.size := by
      rcases Nat.lt_or_ge g w.heap.size with h' | h'
      · exact h'
      · rw [Array.getElem?_eq_none h'] at h; simp at h
    rw [hb.block g hlt]
    exact h
--%%
end Go.Proofs.YtcngmajkkhipoaaGreatDoor
namespace Go.Proofs.YtcngmajkkhipoaaGreatDoor
set_option linter.unusedVariables false
open Go.RowKit
/-- the library's table of powers of ten lies in the world -/
def Tab (w : World) : Prop := Lib.TabIs Tryz.prog w "internal/strconv.uint64pow10" .u64 Lib.pow10Tab
theorem Tab.t {w w' : World} (h : Tab w) (hb : Below w.heap.size w w') : Tab w' := by
  unfold Tab Lib.TabIs World.var? at *
  cases hg : Tryz.prog.globalNamed "internal/strconv.uint64pow10" with
  | none => simp [hg] at h
  | some g =>
    simp only [hg, Option.bind_some] at h ⊢
    have hlt : g < w.heap.size := by
      rcases Nat.lt_or_ge g w.heap.size with h' | h'
      · exact h'
      · rw [Array.getElem?_eq_none h'] at h; simp at h
    rw [hb.block g hlt]
    exact h
theorem holds_zero0 (w : World) (T : TypeId) (nd : Nat) (hs : nd ≤ 24) : Go.Sort.Holds (fun (b : UInt8) => Value.int .u8 (b.toNat : Int)) (w.alloc (.cells Lib.zeros24 T)) w.heap.size 0 (Array.replicate nd (0 : UInt8)) := fun j hj => by
  have hj' : j < nd := by simpa using hj
  refine ⟨?_, World.frozen?_alloc_new _ _ _ _⟩
  rw [World.cell?_alloc_new, Lib.zeros24_at _ (by omega), getElem!_pos _ j hj]
  simp
theorem fin_pos0 (w : World) (o : Obj) (dk : Array UInt8) (k : Nat) : Below w.heap.size w ((Go.Sort.putRow (fun (b : UInt8) => Value.int .u8 (b.toNat : Int)) (w.alloc o) w.heap.size 0 dk).drewN k) := by
  rw [Go.Sort.alloc_eq_grow]
  obtain ⟨os', _, e⟩ := Go.Sort.putRow_grow_new (fun (b : UInt8) => Value.int .u8 (b.toNat : Int)) w #[o] w.heap.size 0 dk (Nat.le_refl _)
  rw [e]
  exact Lib.below_grow _ w (Nat.le_refl _) k os'
--%%
set_option maxHeartbeats 3200000 in
set_option maxRecDepth 100000 in
theorem ifmt_c (u : Nat) (hu64 : u < 18446744073709551616) (w : World) (htab : Tab w) :
    Calls Tryz.prog 71 #[.int .u64 u, .int .i64 10] w fun e w' => e = .returned (.string ⟨(Lib.decDigits u).toArray⟩) ∧ Below w.heap.size w w' := by
  by_cases hi : u < 100
  · have hi2 : decide ((u : Int) < 100) = true := by simp; omega
    go_enter Tryz.func71, Tryz.ntmps71
    go_wp2_with fail
    refine (Tryz.internal_strconv_small u hi _).mono ?_
    rintro e w' ⟨rfl, rfl⟩
    go_wp2_with fail
    go_ret
    exact ⟨rfl, b0 _⟩
  have hu1 : 1 ≤ u := by omega
  have hnd20 : Lib.nDigits u ≤ 20 := by have := Lib.numDigits_eq u hu1 hu64; split at this <;> omega
  have hb3 : Lib.nDigits u ≤ 24 := by omega
  have hal : Tryz.prog.arrayLen 132 = 24 := by kernel_rfl
  have hsl1 : ∀ W, (Instr.sliceAt 132 (.pointer (some ⟨w.heap.size, 0, none⟩)) none (some (.int .i64 (Lib.nDigits u : Int))) none).run Tryz.prog W = .ok (.slice (some ⟨w.heap.size, 0, none⟩) (Lib.nDigits u) 24) W := fun W => by
    rw [run_sliceAt_array_h W 132 ⟨w.heap.size, 0, none⟩ (by kernel_rfl) .i64 (Lib.nDigits u : Int) (by omega) (by rw [hal]; omega)]
    go_simp
  have hH0 := holds_zero0 w 132 (Lib.nDigits u) (by omega)
  have hfmt := Tryz.internal_strconv_formatBase10 w.heap.size 0 24 u (Array.replicate (Lib.nDigits u) 0) (w.alloc (.cells Lib.zeros24 132)) hH0 (by rw [Array.size_replicate]; exact Lib.lt_pow_nDigits u) hu64 (by rw [Array.size_replicate]; omega)
  rw [Array.size_replicate] at hfmt
  have HH0 := Lib.hid hH0
  have HT := Lib.hid htab
  have hi2 : decide ((u : Int) < 100) = false := by simp; omega
  clear hH0 hal htab hi
  go_enter Tryz.func71, Tryz.ntmps71
  go_wp2_with fail
  refine (Tryz.internal_strconv_numDigits u hu1 hu64 _ (Lib.tabIs_alloc HT.out _)).mono ?_
  rintro e w' ⟨rfl, rfl⟩
  go_wp2_with fail
  refine hfmt.mono ?_
  rintro e w' ⟨rfl, k, v', dk, rfl, hF⟩
  have hcv : (convert 91 9 (.slice (some ⟨w.heap.size, 0, none⟩) (Lib.nDigits u) 24)).run Tryz.prog ((Go.Sort.putRow (fun (b : UInt8) => Value.int .u8 (b.toNat : Int)) (w.alloc (.cells Lib.zeros24 132)) w.heap.size 0 dk).drewN k) = .ok (.string ⟨(Lib.decDigits u).toArray⟩) ((Go.Sort.putRow (fun (b : UInt8) => Value.int .u8 (b.toNat : Int)) (w.alloc (.cells Lib.zeros24 132)) w.heap.size 0 dk).drewN k) := by
    have h := run_convert_bytes_back (P := Tryz.prog) ((Go.Sort.putRow (fun (b : UInt8) => Value.int .u8 (b.toNat : Int)) (w.alloc (.cells Lib.zeros24 132)) w.heap.size 0 dk).drewN k) 91 9 5 ⟨w.heap.size, 0, none⟩ 24 (Lib.decDigits u) Tryz.underlying91 Tryz.underlying5 Tryz.underlying9 (fun j hj => by
      rw [Lib.row_is_numeral hF j hj, Lib.add_plain, World.cell?_drewN]
      exact Go.Sort.cell?_putRow (fun (b : UInt8) => Value.int .u8 (b.toNat : Int)) _ w.heap.size 0 _ dk HH0.out (by rw [hF.size, Array.size_replicate]) j (by rw [hF.size]; rw [Lib.decDigits_length] at hj; exact hj))
    rw [Lib.decDigits_length] at h
    exact h
  go_wp2
  go_ret
  exact ⟨rfl, fin_pos0 _ _ _ _⟩
theorem fmt_c (z : Int) (h0 : 0 ≤ z) (h1 : z ≤ 18446744073709551615) (w : World) (htab : Tab w) :
    Calls Tryz.prog 54 #[.int .u64 z, .int .i64 10] w fun e w' => e = .returned (.string ⟨(Lib.decDigits z.toNat).toArray⟩) ∧ Below w.heap.size w w' := by
  obtain ⟨u, rfl⟩ := Int.eq_ofNat_of_zero_le h0
  rw [Int.toNat_natCast]
  have K := Lib.hid (ifmt_c u (by omega) w htab)
  clear htab
  go_enter Tryz.func54, Tryz.ntmps54
  go_wp2_with fail
  refine K.out.mono ?_
  rintro e w' ⟨rfl, hb⟩
  go_wp2_with fail
  go_ret
  exact ⟨rfl, hb⟩
--%%
end Go.Proofs.YtcngmajkkhipoaaGreatDoor
namespace Go.Proofs.YtcngmajkkhipoaaGreatDoor
set_option linter.unusedVariables false
open Go.RowKit
/-- an amount as it is written: its size, and whether it is negative -/
def textI (a : Int) (neg : Bool) : List UInt8 := (if neg then [45] else []) ++ (Lib.decDigits (a / 100).toNat ++ [46] ++ (if a % 100 < 10 then [48] else []) ++ Lib.decDigits (a % 100).toNat)
theorem dec_len (u : Nat) (hu : u < 18446744073709551616) : (Lib.decDigits u).length ≤ 20 := by
  by_cases h0 : u = 0
  · subst h0; rw [Lib.decDigits_one (by decide)]; decide
  · rw [Lib.decDigits_length]
    have := Lib.numDigits_eq u (by omega) hu
    split at this <;> omega
theorem str_eq {a : ByteArray} {l : List UInt8} (h : a.data.toList = l) : Ending.returned (.string a) = .returned (.string ⟨l.toArray⟩) := by
  subst h
  rfl
def textB (x : Int) : List UInt8 := textI x.natAbs (decide (x < 0))
--%%
set_option maxRecDepth 100000 in
set_option maxHeartbeats 1600000 in
theorem text_c (x : Int) (w : World) (h1 : -9223372036854775807 ≤ x) (h2 : x ≤ 9223372036854775807) (htab : Tab w) :
    Calls Tryz.prog 27 #[.int .i64 x] w fun e w' => e = .returned (.string ⟨(textB x).toArray⟩) ∧ Below w.heap.size w w' := by
  have KA := Lib.hid (abs_c x · h1 h2)
  obtain ⟨a, ha⟩ : ∃ a : Int, a = x.natAbs := ⟨_, rfl⟩
  rw [← ha] at KA
  have a0 : 0 ≤ a := by omega
  have a1 : a ≤ 9223372036854775807 := by omega
  have HB : Hid (textB x = textI a (decide (x < 0))) := by unfold Hid textB; rw [ha]
  have HT := Lib.hid htab
  have K1 := Lib.hid (fun W h => fmt_c (a / 100) (by omega) (by omega) W h)
  have K2 := Lib.hid (fun W h => fmt_c (a % 100) (by omega) (by omega) W h)
  have d0 : 0 ≤ a % 100 := by omega
  have d1 : a % 100 < 100 := by omega
  obtain ⟨s1, hs1⟩ : ∃ s1 : List UInt8, s1 = Lib.decDigits (a / 100).toNat := ⟨_, rfl⟩
  obtain ⟨s2, hs2⟩ : ∃ s2 : List UInt8, s2 = Lib.decDigits (a % 100).toNat := ⟨_, rfl⟩
  rw [← hs1] at K1
  rw [← hs2] at K2
  have l1 : s1.length ≤ 20 := by rw [hs1]; exact dec_len _ (by omega)
  have l2 : s2.length ≤ 20 := by rw [hs2]; exact dec_len _ (by omega)
  have H1 := Lib.hid hs1
  have H2 := Lib.hid hs2
  clear ha htab hs1 hs2
  by_cases hn : x < 0
  · have vn : decide (x < 0) = true := by simpa using hn
    by_cases h10 : a % 100 < 10
    · have v10 : decide (a % 100 < 10) = true := by simpa using h10
      have HB2 : Hid (textB x = 45 :: (s1 ++ 46 :: 48 :: s2)) := by unfold Hid; rw [HB.out, H1.out, H2.out]; unfold textI; simp [vn, h10]
      clear HB H1 H2 hn h10
      go_enter Tryz.func27, Tryz.ntmps27
      go_wp2_with fail
      refine (KA.out _).mono ?_
      rintro e w1 ⟨rfl, rfl⟩
      go_wp2_with fail
      refine (K1.out _ HT.out).mono ?_
      rintro e w1 ⟨rfl, hb1⟩
      go_wp2_with fail
      refine (K2.out _ (HT.out.t hb1)).mono ?_
      rintro e w2 ⟨rfl, hb2⟩
      go_wp2_with fail
      go_ret
      exact ⟨str_eq (by rw [HB2.out]; simp), bT hb1 hb2⟩
    · have v10 : decide (a % 100 < 10) = false := by simpa using h10
      have HB2 : Hid (textB x = 45 :: (s1 ++ 46 :: s2)) := by unfold Hid; rw [HB.out, H1.out, H2.out]; unfold textI; simp [vn, h10]
      clear HB H1 H2 hn h10
      go_enter Tryz.func27, Tryz.ntmps27
      go_wp2_with fail
      refine (KA.out _).mono ?_
      rintro e w1 ⟨rfl, rfl⟩
      go_wp2_with fail
      refine (K1.out _ HT.out).mono ?_
      rintro e w1 ⟨rfl, hb1⟩
      go_wp2_with fail
      refine (K2.out _ (HT.out.t hb1)).mono ?_
      rintro e w2 ⟨rfl, hb2⟩
      go_wp2_with fail
      go_ret
      exact ⟨str_eq (by rw [HB2.out]; simp), bT hb1 hb2⟩
  · have vn : decide (x < 0) = false := by simpa using hn
    by_cases h10 : a % 100 < 10
    · have v10 : decide (a % 100 < 10) = true := by simpa using h10
      have HB2 : Hid (textB x = (s1 ++ 46 :: 48 :: s2)) := by unfold Hid; rw [HB.out, H1.out, H2.out]; unfold textI; simp [vn, h10]
      clear HB H1 H2 hn h10
      go_enter Tryz.func27, Tryz.ntmps27
      go_wp2_with fail
      refine (KA.out _).mono ?_
      rintro e w1 ⟨rfl, rfl⟩
      go_wp2_with fail
      refine (K1.out _ HT.out).mono ?_
      rintro e w1 ⟨rfl, hb1⟩
      go_wp2_with fail
      refine (K2.out _ (HT.out.t hb1)).mono ?_
      rintro e w2 ⟨rfl, hb2⟩
      go_wp2_with fail
      go_ret
      exact ⟨str_eq (by rw [HB2.out]; simp), bT hb1 hb2⟩
    · have v10 : decide (a % 100 < 10) = false := by simpa using h10
      have HB2 : Hid (textB x = (s1 ++ 46 :: s2)) := by unfold Hid; rw [HB.out, H1.out, H2.out]; unfold textI; simp [vn, h10]
      clear HB H1 H2 hn h10
      go_enter Tryz.func27, Tryz.ntmps27
      go_wp2_with fail
      refine (KA.out _).mono ?_
      rintro e w1 ⟨rfl, rfl⟩
      go_wp2_with fail
      refine (K1.out _ HT.out).mono ?_
      rintro e w1 ⟨rfl, hb1⟩
      go_wp2_with fail
      refine (K2.out _ (HT.out.t hb1)).mono ?_
      rintro e w2 ⟨rfl, hb2⟩
      go_wp2_with fail
      go_ret
      exact ⟨str_eq (by rw [HB2.out]; simp), bT hb1 hb2⟩
--%%
end Go.Proofs.YtcngmajkkhipoaaGreatDoor
namespace Go.Proofs.YtcngmajkkhipoaaGreatDoor
set_option linter.unusedVariables false
open Go.RowKit
/-- the ways' names, in order -/
def modesS : List ByteArray := [⟨#[100, 111, 119, 110]⟩, ⟨#[117, 112]⟩, ⟨#[105, 110, 119, 97, 114, 100]⟩, ⟨#[104, 97, 108, 102, 117, 112]⟩, ⟨#[104, 97, 108, 102, 101, 118, 101, 110]⟩, ⟨#[104, 97, 108, 102, 100, 111, 119, 110]⟩]
theorem modes_fields : (Lib.fields (⟨#[100, 111, 119, 110, 32, 117, 112, 32, 105, 110, 119, 97, 114, 100, 32, 104, 97, 108, 102, 117, 112, 32, 104, 97, 108, 102, 101, 118, 101, 110, 32, 104, 97, 108, 102, 100, 111, 119, 110]⟩ : ByteArray).data.toList).map (fun l => (⟨l.toArray⟩ : ByteArray)) = modesS := by decide +kernel
theorem modes_ascii : ∀ (j : Nat) b, (⟨#[100, 111, 119, 110, 32, 117, 112, 32, 105, 110, 119, 97, 114, 100, 32, 104, 97, 108, 102, 117, 112, 32, 104, 97, 108, 102, 101, 118, 101, 110, 32, 104, 97, 108, 102, 100, 111, 119, 110]⟩ : ByteArray).data.toList[j]? = some b → b.toNat < 128 := by
  have h : ((⟨#[100, 111, 119, 110, 32, 117, 112, 32, 105, 110, 119, 97, 114, 100, 32, 104, 97, 108, 102, 117, 112, 32, 104, 97, 108, 102, 101, 118, 101, 110, 32, 104, 97, 108, 102, 100, 111, 119, 110]⟩ : ByteArray).data.toList).all (fun b => decide (b.toNat < 128)) = true := by decide +kernel
  intro j b hb
  have := List.all_eq_true.1 h b (List.mem_of_getElem? hb)
  simpa using this
/-- the place of a name among the ways -/
def modeI (nm : ByteArray) : Int := Lib.idxOfS modesS nm
def modeV (nm : ByteArray) : Int := if modeI nm < 0 then 0 else modeI nm + 1
def modeE (nm : ByteArray) : Int := if modeI nm < 0 then 5 else 0
def modeN (m : Int) : ByteArray := if modeB m = true then modesS.getD (m - 1).toNat st0 else st0
theorem idxFromS_bd (x : ByteArray) : ∀ (zs : List ByteArray) (i : Nat), -1 ≤ Lib.idxFromS zs x i ∧ Lib.idxFromS zs x i < ((i + zs.length : Nat) : Int) ∨ Lib.idxFromS zs x i = -1 := by
  intro zs
  induction zs with
  | nil => intro i; right; simp [Lib.idxFromS]
  | cons z zs ih =>
    intro i
    rw [Lib.idxFromS]
    split
    · left; simp; omega
    · rcases ih (i + 1) with h | h
      · left; simp at h ⊢; omega
      · right; exact h
theorem modeI_bd (nm : ByteArray) : -1 ≤ modeI nm ∧ modeI nm ≤ 5 := by
  have h := idxFromS_bd nm modesS 0
  have e : modesS.length = 6 := rfl
  unfold modeI Lib.idxOfS
  rw [e] at h
  omega
--%%
theorem fields_c (w : World) (ht : TabS w) : Calls Tryz.prog 38 #[.string (⟨#[100, 111, 119, 110, 32, 117, 112, 32, 105, 110, 119, 97, 114, 100, 32, 104, 97, 108, 102, 117, 112, 32, 104, 97, 108, 102, 101, 118, 101, 110, 32, 104, 97, 108, 102, 100, 111, 119, 110]⟩ : ByteArray)] w fun e w' => e = .returned (.slice (some ⟨w.heap.size, 0, none⟩) 6 6) ∧ w' = w.alloc (.cells (modesS.map Value.string).toArray 9) := by
  have h := Tryz.strings_Fields_laid (⟨#[100, 111, 119, 110, 32, 117, 112, 32, 105, 110, 119, 97, 114, 100, 32, 104, 97, 108, 102, 117, 112, 32, 104, 97, 108, 102, 101, 118, 101, 110, 32, 104, 97, 108, 102, 100, 111, 119, 110]⟩ : ByteArray) w (by decide) modes_ascii ht
  have e : (Lib.fields (⟨#[100, 111, 119, 110, 32, 117, 112, 32, 105, 110, 119, 97, 114, 100, 32, 104, 97, 108, 102, 117, 112, 32, 104, 97, 108, 102, 101, 118, 101, 110, 32, 104, 97, 108, 102, 100, 111, 119, 110]⟩ : ByteArray).data.toList).map (fun l => Value.string ⟨l.toArray⟩) = modesS.map Value.string := by
    rw [← modes_fields, List.map_map]; rfl
  have e2 : (Lib.fields (⟨#[100, 111, 119, 110, 32, 117, 112, 32, 105, 110, 119, 97, 114, 100, 32, 104, 97, 108, 102, 117, 112, 32, 104, 97, 108, 102, 101, 118, 101, 110, 32, 104, 97, 108, 102, 100, 111, 119, 110]⟩ : ByteArray).data.toList).length = 6 := by
    have := congrArg List.length modes_fields
    rw [List.length_map] at this
    exact this
  rw [e, e2] at h
  exact h
theorem fields_cell (w : World) (j : Nat) (hj : j < 6) : (w.alloc (.cells (modesS.map Value.string).toArray 9)).cell? ⟨w.heap.size, j, none⟩ = some (.string (modesS.getD j st0)) := by
  rw [cell_alloc, if_pos rfl]
  rcases (by omega : j = 0 ∨ j = 1 ∨ j = 2 ∨ j = 3 ∨ j = 4 ∨ j = 5) with rfl | rfl | rfl | rfl | rfl | rfl <;> rfl
--%%
theorem tmode_c (nm : ByteArray) (w : World) (ht : TabS w) : Calls Tryz.prog 14 #[.string nm] w fun e w' => e = .returned (.tuple #[.int .i64 (modeV nm), .int .i64 (modeE nm)]) ∧ Below w.heap.size w w' := by
  have KF := Lib.hid (fields_c w ht)
  have KI : Hid (Calls Tryz.prog 37 #[.slice (some ⟨w.heap.size, 0, none⟩) 6 6, .string nm] (w.alloc (.cells (modesS.map Value.string).toArray 9)) fun e w' => e = .returned (.int .i64 (modeI nm)) ∧ w' = w.alloc (.cells (modesS.map Value.string).toArray 9)) := by
    have h := Tryz.slices_Index_string w.heap.size 0 6 6 modesS nm (w.alloc (.cells (modesS.map Value.string).toArray 9)) (by decide) (by decide) (fun j hj => by rw [Nat.zero_add]; exact fields_cell w j hj)
    exact h
  have hbd := modeI_bd nm
  obtain ⟨rv, hrv⟩ : ∃ r, r = modeV nm := ⟨_, rfl⟩
  obtain ⟨re, hre⟩ : ∃ r, r = modeE nm := ⟨_, rfl⟩
  rw [← hrv, ← hre]
  unfold modeV at hrv
  unfold modeE at hre
  generalize modeI nm = q at *
  obtain ⟨b1, b2⟩ := hbd
  have HB := Lib.hid (below1 w (.cells (modesS.map Value.string).toArray 9))
  generalize (modesS.map Value.string).toArray = MA at *
  clear ht
  by_cases hq : q < 0
  · rw [if_pos hq] at hrv hre
    subst hrv; subst hre
    have v : decide (0 ≤ q) = false := by simp; omega
    go_enter Tryz.func14, Tryz.ntmps14
    go_wp2_with fail
    refine KF.out.mono ?_
    rintro e w1 ⟨rfl, rfl⟩
    go_wp2_with fail
    refine KI.out.mono ?_
    rintro e w1 ⟨rfl, rfl⟩
    clear hq
    go_wp2_with fail
    go_ret2
    exact ⟨rfl, HB.out⟩
  · rw [if_neg hq] at hrv hre
    subst hrv; subst hre
    have v : decide (0 ≤ q) = true := by simp; omega
    have v0 : 0 ≤ q := by omega
    clear hq
    go_enter Tryz.func14, Tryz.ntmps14
    go_wp2_with fail
    refine KF.out.mono ?_
    rintro e w1 ⟨rfl, rfl⟩
    go_wp2_with fail
    refine KI.out.mono ?_
    rintro e w1 ⟨rfl, rfl⟩
    go_wp2_with fail
    go_ret2
    exact ⟨rfl, HB.out⟩
--%%
theorem tmodeName_c (m : Int) (w : World) (ht : TabS w) : Calls Tryz.prog 24 #[.int .i64 m] w fun e w' => e = .returned (.string (modeN m)) ∧ Below w.heap.size w w' := by
  have KF := Lib.hid (fields_c w ht)
  obtain ⟨rv, hrv⟩ : ∃ r, r = modeN m := ⟨_, rfl⟩
  rw [← hrv]
  unfold modeN at hrv
  have HB := Lib.hid (below1 w (.cells (modesS.map Value.string).toArray 9))
  clear ht
  cases hm : modeB m with
  | false =>
    rw [if_neg (by rw [hm]; decide)] at hrv
    subst hrv
    have KM := Lib.hid (mode_f m hm w)
    clear hm
    go_enter Tryz.func24, Tryz.ntmps24
    go_wp2_with fail
    refine KM.out.mono ?_
    rintro e w1 ⟨rfl, rfl⟩
    go_wp2_with fail
    go_ret
    exact ⟨rfl, b0 _⟩
  | true =>
    rw [if_pos hm] at hrv
    have KM := Lib.hid (mode_t m hm w)
    unfold modeB at hm
    have hm' : 1 ≤ m ∧ m ≤ 6 := by simpa using hm
    obtain ⟨m1, m2⟩ := hm'
    have hc := fields_cell w (m - 1).toNat (by omega)
    rw [← hrv] at hc
    rw [cell_alloc, if_pos rfl, show (m - 1).toNat = m.toNat - 1 by omega] at hc
    have hc' : (modesS.map Value.string).toArray[m.toNat - 1]? = some (.string rv) := hc
    generalize (modesS.map Value.string).toArray = MA at *
    have kk0 : 0 ≤ m - 1 := by omega
    have kk1 : m - 1 < 6 := by omega
    have kk2 : IntKind.i64.wrap (m - 1) = m - 1 := IntWalk.i64_in _ (by omega)
    clear hm hrv hc
    go_enter Tryz.func24, Tryz.ntmps24
    go_wp2_with fail
    refine KM.out.mono ?_
    rintro e w1 ⟨rfl, rfl⟩
    go_wp2_with fail
    refine KF.out.mono ?_
    rintro e w1 ⟨rfl, rfl⟩
    go_wp2_with fail
    go_ret
    exact ⟨rfl, HB.out⟩
--%%
theorem tnumber_c (n : Int) (h0 : -9223372036854775808 ≤ n) (h1 : n ≤ 9223372036854775807) (w : World) (htab : Tab w) :
    Calls Tryz.prog 23 #[.int .i64 n] w fun e w' => e = .returned (.string ⟨(Lib.itoa n).toArray⟩) ∧ Below w.heap.size w w' := by
  have K : Hid (Calls Tryz.prog 49 #[.int .i64 n] w fun e w' => e = .returned (.string ⟨(Lib.itoa n).toArray⟩) ∧ Below w.heap.size w w') :=
    (Tryz.strconv_Itoa n h0 h1 w htab).mono fun e w' ⟨h, k, os, hw⟩ => ⟨h, by subst hw; exact Lib.below_grow _ w (Nat.le_refl _) k os⟩
  generalize Lib.itoa n = L at *
  clear h0 h1
  go_enter Tryz.func23, Tryz.ntmps23
  go_wp2_with fail
  refine K.out.mono ?_
  rintro e w1 ⟨rfl, hb1⟩
  go_wp2_with fail
  go_ret
  exact ⟨rfl, hb1⟩
--%%
end Go.Proofs.YtcngmajkkhipoaaGreatDoor
namespace Go.Proofs.YtcngmajkkhipoaaGreatDoor
set_option linter.unusedVariables false
open Go.RowKit
def dI (c : Int) : Bool := decide (48 ≤ c ∧ c ≤ 57)
def gB (l : List UInt8) (i : Nat) : Int := ((l.getD i 0).toNat : Int)
theorem gB_bd (l : List UInt8) (i : Nat) : 0 ≤ gB l i ∧ gB l i ≤ 255 := by
  unfold gB
  have := (l.getD i 0).toNat_lt
  omega
/-- the number of the first k digits -/
def wV (l : List UInt8) : Nat → Int
  | 0 => 0
  | k + 1 => 10 * wV l k + (gB l k - 48)
/-- are the first n bytes digits? -/
def dTo (l : List UInt8) (n : Nat) : Bool := (List.range n).all fun i => dI (gB l i)
theorem dTo_iff {l : List UInt8} {n : Nat} : dTo l n = true ↔ ∀ i, i < n → dI (gB l i) = true := by
  unfold dTo
  rw [List.all_eq_true]
  exact ⟨fun h i hi => h i (List.mem_range.2 hi), fun h i hi => h i (List.mem_range.1 hi)⟩
theorem dTo_no {l : List UInt8} {n k : Nat} (hk : k < n) (h : dI (gB l k) = false) : dTo l n = false := by
  cases hh : dTo l n with
  | false => rfl
  | true => rw [dTo_iff.1 hh k hk] at h; cases h
theorem dTo_step {l : List UInt8} {k : Nat} (h : dTo l k = true) (h2 : dI (gB l k) = true) : dTo l (k + 1) = true := by
  rw [dTo_iff] at *
  intro i hi
  rcases (by omega : i = k ∨ i < k) with rfl | hi
  · exact h2
  · exact h i hi
theorem wV_bd (l : List UInt8) : ∀ k, dTo l k = true → 0 ≤ wV l k ∧ wV l k < 10 ^ k := by
  intro k
  induction k with
  | zero => intro _; simp [wV]
  | succ k ih =>
    intro h
    have h1 := ih (dTo_iff.2 fun i hi => dTo_iff.1 h i (by omega))
    have h2 := dTo_iff.1 h k (by omega)
    unfold dI at h2
    simp only [decide_eq_true_eq] at h2
    rw [wV, Int.pow_succ]
    omega
theorem pow_le18 (k : Nat) (h : k ≤ 18) : (10 : Int) ^ k ≤ 1000000000000000000 := by
  have : (10 : Nat) ^ k ≤ 10 ^ 18 := Nat.pow_le_pow_right (by decide) h
  have h2 : ((10 ^ k : Nat) : Int) ≤ ((10 ^ 18 : Nat) : Int) := by exact_mod_cast this
  rw [Int.natCast_pow] at h2
  simpa using h2
theorem pow_le12 (k : Nat) (h : k ≤ 12) : (10 : Int) ^ k ≤ 1000000000000 := by
  have : (10 : Nat) ^ k ≤ 10 ^ 12 := Nat.pow_le_pow_right (by decide) h
  have h2 : ((10 ^ k : Nat) : Int) ≤ ((10 ^ 12 : Nat) : Int) := by exact_mod_cast this
  rw [Int.natCast_pow] at h2
  simpa using h2
/-- money.whole -/
def whO (l : List UInt8) : Bool := dTo l l.length && decide (l.length ≠ 0) && (decide (l.length = 1) || decide (gB l 0 ≠ 48))
def whV (l : List UInt8) : Int := if dTo l l.length = true then wV l l.length else 0
/-- money.Parse of what is behind the sign -/
def pCut (l : List UInt8) : Bool := decide (3 < l.length) && decide (gB l (l.length - 3) = 46)
def pCoins (l : List UInt8) : Int := if pCut l = true then (gB l (l.length - 2) - 48) * 10 + (gB l (l.length - 1) - 48) else 0
def pRest (l : List UInt8) : List UInt8 := if pCut l = true then l.take (l.length - 3) else l
def pE (neg : Bool) (l : List UInt8) : Int :=
  if 20 < l.length then 5
  else if pCut l = true ∧ ¬ (dI (gB l (l.length - 2)) = true ∧ dI (gB l (l.length - 1)) = true) then 5
  else if 12 < (pRest l).length then (if whO ((pRest l).take 12) = true ∧ dTo (pRest l) (pRest l).length = true then 10 else 5)
  else if ¬ (whO (pRest l) = true) ∨ (neg = true ∧ whV (pRest l) = 0 ∧ pCoins l = 0) then 5
  else if mrB ((if neg then -1 else 1) * (whV (pRest l) * 100 + pCoins l)) = true then 0 else 10
def pV (neg : Bool) (l : List UInt8) : Int := if pE neg l = 0 then (if neg then -1 else 1) * (whV (pRest l) * 100 + pCoins l) else 0
def pNeg (l : List UInt8) : Bool := decide (0 < l.length) && decide (gB l 0 = 45)
def pBody (l : List UInt8) : List UInt8 := if pNeg l = true then l.drop 1 else l
def parseE (l : List UInt8) : Int := pE (pNeg l) (pBody l)
def parseV (l : List UInt8) : Int := pV (pNeg l) (pBody l)
end Go.Proofs.YtcngmajkkhipoaaGreatDoor
namespace Go.Proofs.YtcngmajkkhipoaaGreatDoor
set_option linter.unusedVariables false
/-- a minus ahead; what is behind it -/
def inM (l : List UInt8) : Bool := decide (l ≠ []) && decide (gB l 0 = 45)
def inN (l : List UInt8) : List UInt8 := if inM l = true then l.drop 1 else l
/-- why a word is no whole number; the number that it is -/
def inE (l : List UInt8) : Int :=
  if inN l = [] then 5 else if (1 < (inN l).length ∨ inM l = true) ∧ gB (inN l) 0 = 48 then 5 else if dTo (inN l) (inN l).length = false then 5 else if 9 < (inN l).length then 1 else 0
def inV (l : List UInt8) : Int := if inE l = 0 then (if inM l = true then - wV (inN l) (inN l).length else wV (inN l) (inN l).length) else 0
theorem inN_trim (l : List UInt8) : Lib.trimPrefix l [45] = inN l := by
  unfold inN inM Lib.trimPrefix Lib.hasPrefix
  cases l with
  | nil => rfl
  | cons c r =>
    by_cases h : c = 45
    · subst h; simp [List.isPrefixOf, gB, List.getD]
    · have h2 : ¬ (gB (c :: r) 0 = 45) := by
        unfold gB
        intro e
        apply h
        apply UInt8.toNat_inj.1
        simp [List.getD] at e
        show c.toNat = 45
        omega
      have h3 : ((45 : UInt8) == c) = false := by simp; exact fun e => h e.symm
      simp [List.isPrefixOf, h2, h3]
theorem minus0 (l : List UInt8) : (l == [45, 48]) = (inM l && (decide ((inN l).length = 1) && decide (gB (inN l) 0 = 48))) := by
  rw [Bool.eq_iff_iff]
  simp only [Bool.and_eq_true, decide_eq_true_eq, beq_iff_eq]
  constructor
  · rintro rfl
    refine ⟨by decide, by decide, by decide⟩
  · rintro ⟨h1, h2, h3⟩
    cases l with
    | nil => simp [inM] at h1
    | cons c r =>
      have hn : inN (c :: r) = r := by unfold inN; rw [h1]; rfl
      rw [hn] at h2 h3
      have hc : c = 45 := by
        unfold inM gB at h1
        simp [List.getD] at h1
        exact UInt8.toNat_inj.1 (by show c.toNat = 45; omega)
      match r, h2, h3 with
      | [x], _, h3 =>
        have hx : x = 48 := by
          unfold gB at h3
          simp [List.getD] at h3
          exact UInt8.toNat_inj.1 (by show x.toNat = 48; omega)
        rw [hc, hx]
theorem digitVal_gB {l : List UInt8} {k : Nat} (hk : k < l.length) (h : dI (gB l k) = true) : Lib.digitVal (l[k]'hk) = some (gB l k - 48).toNat := by
  have e : gB l k = (l[k].toNat : Int) := by unfold gB; simp [List.getD, List.getElem?_eq_getElem hk]
  unfold dI at h
  simp at h
  unfold Lib.digitVal
  rw [if_pos (by omega), e]
  congr 1
  omega
theorem decFrom_wV (l : List UInt8) : ∀ k, k ≤ l.length → dTo l k = true → Lib.decFrom 0 (l.take k) = some (wV l k).toNat := by
  intro k
  induction k with
  | zero => intro _ _; rfl
  | succ k ih =>
    intro hk h
    have h1 : dTo l k = true := dTo_iff.2 fun i hi => dTo_iff.1 h i (by omega)
    have h2 := dTo_iff.1 h k (by omega)
    have := Lib.decFrom_take l k 0 _ (l[k]'(by omega)) _ (ih (by omega) h1) (List.getElem?_eq_getElem (by omega)) (digitVal_gB (by omega) h2)
    rw [this, wV]
    congr 1
    have b := (wV_bd l k h1).1
    unfold dI at h2
    simp at h2
    omega
theorem decNat_wV {l : List UInt8} (h0 : l ≠ []) (h : dTo l l.length = true) : Lib.decNat l = some (wV l l.length).toNat := by
  have := decFrom_wV l l.length (Nat.le_refl _) h
  rw [List.take_length] at this
  unfold Lib.decNat
  cases l with
  | nil => exact absurd rfl h0
  | cons c r => exact this
/-- the library reads it so -/
theorem atoi_in {l : List UInt8} (h : inE l = 0) : Lib.atoi l = some (inV l) := by
  have hv : inV l = if inM l = true then - wV (inN l) (inN l).length else wV (inN l) (inN l).length := by unfold inV; rw [if_pos h]
  unfold inE at h
  by_cases h1 : inN l = []
  · rw [if_pos h1] at h; cases h
  rw [if_neg h1] at h
  by_cases h2 : (1 < (inN l).length ∨ inM l = true) ∧ gB (inN l) 0 = 48
  · rw [if_pos h2] at h; cases h
  rw [if_neg h2] at h
  by_cases h3 : dTo (inN l) (inN l).length = false
  · rw [if_pos h3] at h; cases h
  have h3' : dTo (inN l) (inN l).length = true := by simpa using h3
  have hd := decNat_wV h1 h3'
  have hb := (wV_bd (inN l) (inN l).length h3').1
  rw [hv]
  cases hm : inM l
  · have hn : inN l = l := by unfold inN; rw [hm]; rfl
    rw [hn] at hd hb h3' h1 ⊢
    cases l with
    | nil => exact absurd rfl h1
    | cons c r =>
      have hc : dI (gB (c :: r) 0) = true := dTo_iff.1 h3' 0 (by simp)
      have hc' : 48 ≤ c.toNat ∧ c.toNat ≤ 57 := by
        unfold dI gB at hc; simp [List.getD] at hc; omega
      have n1 : (c == 45) = false := by simp; rintro rfl; revert hc'; decide
      have n2 : (c == 43) = false := by simp; rintro rfl; revert hc'; decide
      have ht := Int.toNat_of_nonneg hb
      simp only [Lib.atoi, n1, n2, hd, Option.map_some, ht]
      simp
  · have hn : inN l = l.drop 1 := by unfold inN; rw [hm]; rfl
    cases l with
    | nil => simp [inM] at hm
    | cons c r =>
      have hc : c = 45 := by
        unfold inM gB at hm
        simp [List.getD] at hm
        exact UInt8.toNat_inj.1 (by show c.toNat = 45; omega)
      subst hc
      rw [hn] at hd hb ⊢
      rw [show (List.drop 1 (45 :: r)) = r from rfl] at hd hb ⊢
      have ht := Int.toNat_of_nonneg hb
      simp only [Lib.atoi, hd, Option.map_some, ht]
      simp
end Go.Proofs.YtcngmajkkhipoaaGreatDoor
namespace Go.Proofs.YtcngmajkkhipoaaGreatDoor
set_option linter.unusedVariables false
open Go.RowKit
/-- a word's parts -/
def ptS (s : ByteArray) : List ByteArray := Lib.splitB ⟨#[58]⟩ 0 (Lib.countB s ⟨#[58]⟩) s
theorem split_size (sep : ByteArray) : ∀ (k : Nat) (s : ByteArray), ∀ x ∈ Lib.splitB sep 0 k s, x.size ≤ s.size := by
  intro k
  induction k with
  | zero => intro s x hx; simp [Lib.splitB] at hx; subst hx; exact Nat.le_refl _
  | succ k ih =>
    intro s x hx
    rw [Lib.splitB] at hx
    split at hx
    · simp at hx; subst hx; exact Nat.le_refl _
    · rcases List.mem_cons.1 hx with rfl | hx
      · rw [ByteArray.size_extract]; omega
      · have := ih _ x hx
        rw [ByteArray.size_extract] at this
        omega
theorem ptS_size (s : ByteArray) : ∀ x ∈ ptS s, x.size ≤ s.size := split_size _ _ s
theorem ptS_len (s : ByteArray) : (ptS s).length = Lib.countB s ⟨#[58]⟩ + 1 := Lib.splitB_all ⟨#[58]⟩ (by decide) 0 _ s rfl
/-- one word: its error, and its band -/
def rdE1 (both : Bool) (P : List ByteArray) : Int :=
  if P.length ≠ (if both = true then 3 else 2) then 5
  else if parseE (P.getD 0 st0).data.toList ≠ 0 then parseE (P.getD 0 st0).data.toList
  else if inE (P.getD 1 st0).data.toList ≠ 0 then inE (P.getD 1 st0).data.toList
  else if both = true then inE (P.getD 2 st0).data.toList else 0
def rdV1 (both : Bool) (P : List ByteArray) : Bd := ⟨parseV (P.getD 0 st0).data.toList, inV (P.getD 1 st0).data.toList, if both = true then inV (P.getD 2 st0).data.toList else 0⟩
def rdF (both : Bool) (L : List ByteArray) (k : Nat) : Int := rdE1 both (ptS (L.getD k st0))
def rdE (both : Bool) (L : List ByteArray) : Int := firstNZ (rdF both L) L.length
def rdL (both : Bool) (L : List ByteArray) : List Bd := L.map fun s => rdV1 both (ptS s)
theorem rdL_snoc (both : Bool) (L : List ByteArray) (k : Nat) (hk : k < L.length) : rdL both (L.take (k + 1)) = rdL both (L.take k) ++ [rdV1 both (ptS (L.getD k st0))] := by
  unfold rdL
  rw [List.take_add_one, List.getElem?_eq_getElem hk, List.map_append]
  simp [List.getD, List.getElem?_eq_getElem hk]
theorem two_of {P : List ByteArray} (h : P.length = 2) : ∃ a b, P = [a, b] := by
  match P, h with
  | [a, b], _ => exact ⟨a, b, rfl⟩
theorem three_of {P : List ByteArray} (h : P.length = 3) : ∃ a b c, P = [a, b, c] := by
  match P, h with
  | [a, b, c], _ => exact ⟨a, b, c, rfl⟩
theorem rd2 (a b : ByteArray) : rdE1 false [a, b] = (if parseE a.data.toList ≠ 0 then parseE a.data.toList else inE b.data.toList) ∧ rdV1 false [a, b] = ⟨parseV a.data.toList, inV b.data.toList, 0⟩ := by
  refine ⟨?_, rfl⟩
  unfold rdE1
  rw [if_neg (by simp)]
  show (if parseE a.data.toList ≠ 0 then _ else if inE b.data.toList ≠ 0 then inE b.data.toList else if false = true then _ else 0) = _
  split
  · rfl
  · split
    · rfl
    · rename_i h; simp at h; rw [h]; rfl
theorem rd3 (a b c : ByteArray) : rdE1 true [a, b, c] = (if parseE a.data.toList ≠ 0 then parseE a.data.toList else if inE b.data.toList ≠ 0 then inE b.data.toList else inE c.data.toList) ∧ rdV1 true [a, b, c] = ⟨parseV a.data.toList, inV b.data.toList, inV c.data.toList⟩ := by
  refine ⟨?_, rfl⟩
  unfold rdE1
  rw [if_neg (by simp)]
  rfl
theorem rd_wrong {both : Bool} {P : List ByteArray} (h : P.length ≠ (if both = true then 3 else 2)) : rdE1 both P = 5 := by unfold rdE1; rw [if_pos h]
/-- what the first wrong word tells is told of all -/
theorem rdE_stop {both : Bool} {L : List ByteArray} {k : Nat} (h0 : firstNZ (rdF both L) k = 0) (hk : k < L.length) (h : rdF both L k ≠ 0) : rdE both L = rdF both L k := firstNZ_stop _ k _ h0 h hk
def ReadR (both : Bool) (L : List ByteArray) (n : Nat) (w : World) (e : Ending) (w' : World) : Prop :=
  ((rdE both L = 0 ∧ ∃ v, e = .returned (.tuple #[v, .int .i64 0]) ∧ OwnB w' w.heap.size v n (rdL both L)) ∨ (rdE both L ≠ 0 ∧ e = .returned (.tuple #[.slice none 0 0, .int .i64 (rdE both L)]))) ∧ Below w.heap.size w w'
end Go.Proofs.YtcngmajkkhipoaaGreatDoor
namespace Go.Proofs.YtcngmajkkhipoaaGreatDoor
set_option linter.unusedVariables false
open Go.RowKit
theorem byte_gB (s : ByteArray) (k : Nat) (hk : k < s.size) : ((s[k]).toNat : Int) = gB s.data.toList k := by
  unfold gB
  have : k < s.data.toList.length := by simpa using hk
  simp [List.getD, List.getElem?_eq_getElem this]
  rfl
theorem str_facts (s : ByteArray) (h : s.size ≠ 0) : ¬ s.toList = [] ∧ s.toList.isEmpty = false := by
  have hsl : s.toList = s.data.toList := ByteArray.toList_eq s
  have hsz : s.data.toList.length = s.size := by simp
  have e1 : ¬ s.toList = [] := by rw [hsl]; intro e; rw [e] at hsz; simp at hsz; omega
  refine ⟨e1, ?_⟩
  cases hh : s.toList with
  | nil => exact absurd hh e1
  | cons a l => rfl
theorem str_none (s : ByteArray) (h : s.size = 0) : s.toList = [] ∧ s.toList.isEmpty = true := by
  have hsl : s.toList = s.data.toList := ByteArray.toList_eq s
  have hsz : s.data.toList.length = s.size := by simp
  have e1 : s.toList = [] := by rw [hsl]; exact List.eq_nil_of_length_eq_zero (by omega)
  exact ⟨e1, by rw [e1]; rfl⟩
--%%
theorem digit_c (c : Int) (w : World) : Calls Tryz.prog 61 #[.int .u8 c] w fun e w' => e = .returned (.bool (dI c)) ∧ w = w' := by
  by_cases h1 : 48 ≤ c
  · by_cases h2 : c ≤ 57
    · go_enter Tryz.func61, Tryz.ntmps61
      go_wp2
      go_ret
      exact ⟨ret_bool (by simp [dI]; omega), rfl⟩
    · go_enter Tryz.func61, Tryz.ntmps61
      go_wp2
      go_ret
      exact ⟨ret_bool (by simp [dI]; omega), rfl⟩
  · go_enter Tryz.func61, Tryz.ntmps61
    go_wp2
    go_ret
    exact ⟨ret_bool (by simp [dI]; omega), rfl⟩
--%%
theorem digits_c (s : ByteArray) (w : World) (hs : s.size ≤ 9223372036854775807) : Calls Tryz.prog 63 #[.string s] w fun e w' => e = .returned (.bool (dTo s.data.toList s.size)) ∧ w = w' := by
  obtain ⟨r, hr⟩ : ∃ r, r = dTo s.data.toList s.size := ⟨_, rfl⟩
  rw [← hr]
  have HR := Lib.hid hr
  clear hr
  go_enter Tryz.func63, Tryz.ntmps63
  go_wp2_with fail
  go_loop [6] (fun i => ∃ k : Nat, k ≤ s.size ∧ i = .int .i64 k ∧ Hid (dTo s.data.toList k = true)) (fun i => s.size - (intOf i).toNat)
  case atStart => exact ⟨0, Nat.zero_le _, rfl, rfl⟩
  case round =>
    obtain ⟨k, hk', rfl, HA⟩ := hrel
    by_cases hk : k < s.size
    case neg =>
      obtain rfl : k = s.size := by omega
      have e : r = true := HR.out.trans HA.out
      subst e
      go_wp2_with fail
      go_ret
      exact ⟨rfl, rfl⟩
    have hbg := byte_gB s k hk
    have HN : Hid (dI (gB s.data.toList k) = false → r = false) := fun h => HR.out.trans (dTo_no hk h)
    have HY : Hid (dI (gB s.data.toList k) = true → dTo s.data.toList (k + 1) = true) := fun h => dTo_step HA.out h
    generalize gB s.data.toList k = c at *
    have KD := Lib.hid (digit_c c)
    cases hd : dI c
    · have e : r = false := HN.out hd
      subst e
      rw [hd] at KD
      clear hd
      go_wp2_with fail
      refine (KD.out _).mono ?_
      rintro e w1 ⟨rfl, rfl⟩
      go_wp2_with fail
      go_ret
      exact ⟨rfl, rfl⟩
    · have HY2 := Lib.hid (HY.out hd)
      rw [hd] at KD
      clear hd
      go_wp2_with fail
      refine (KD.out _).mono ?_
      rintro e w1 ⟨rfl, rfl⟩
      go_wp2_with fail
      go_round
      case rel => exact ⟨k + 1, by omega, by go_num, HY2.out⟩
      case measure => simp [intOf]; omega
--%%
set_option maxRecDepth 100000 in
set_option maxHeartbeats 3200000 in
theorem whole_c (s : ByteArray) (w : World) (hs : s.size ≤ 18) (ov : Int) (ob : Bool) (h1 : Hid (ov = whV s.data.toList)) (h2 : Hid (ob = whO s.data.toList)) : Calls Tryz.prog 62 #[.string s] w fun e w' => e = .returned (.tuple #[.int .i64 ov, .bool ob]) ∧ Below w.heap.size w w' := by
  have hlen : s.data.toList.length = s.size := by simp
  have H1 : Hid (ov = if dTo s.data.toList s.size = true then wV s.data.toList s.size else 0) := by
    have := h1.out; unfold whV at this; rw [hlen] at this; exact this
  have H2 : Hid (ob = (dTo s.data.toList s.size && decide (s.size ≠ 0) && (decide (s.size = 1) || decide (gB s.data.toList 0 ≠ 48)))) := by
    have := h2.out; unfold whO at this; rw [hlen] at this; exact this
  have HW0 : Hid (wV s.data.toList 0 = 0) := rfl
  clear h1 h2 hlen
  go_enter Tryz.func62, Tryz.ntmps62
  go_wp2_with fail
  go_loop [4, 8] (fun nv i => ∃ k : Nat, k ≤ s.size ∧ i = .int .i64 k ∧ nv = .int .i64 (wV s.data.toList k) ∧ Hid (dTo s.data.toList k = true)) (fun _ i => s.size - (intOf i).toNat)
  case atStart => exact ⟨0, Nat.zero_le _, rfl, by rw [HW0.out], rfl⟩
  case round =>
    obtain ⟨k, hk', rfl, rfl, HA⟩ := hrel
    by_cases hk : k < s.size
    case neg =>
      obtain rfl : k = s.size := by omega
      have e1 : ov = wV s.data.toList s.size := H1.out.trans (if_pos HA.out)
      have e2 : ob = (decide (s.size ≠ 0) && (decide (s.size = 1) || decide (gB s.data.toList 0 ≠ 48))) := by rw [H2.out, HA.out]; simp
      rw [← e1]
      have E2 := Lib.hid e2
      clear e1 e2 H1 H2
      by_cases h0 : s.size = 0
      · have e : ob = false := by rw [E2.out]; simp [h0]
        subst e
        obtain ⟨f1, f2⟩ := str_none s h0
        clear E2 HA
        go_wp2_with fail
        go_quiet (fail)
        go_wp2_with fail
        go_ret2
        exact ⟨rfl, bD (b0 _) _⟩
      obtain ⟨f1, f2⟩ := str_facts s h0
      by_cases h1 : s.size = 1
      · have e : ob = true := by rw [E2.out]; simp [h1]
        subst e
        have v1 : ((s.size : Int) == 1) = true := by simp; omega
        clear E2 HA h0 h1
        go_wp2_with fail
        go_quiet (fail)
        go_wp2_with fail
        go_ret2
        exact ⟨rfl, bD (b0 _) _⟩
      have v1 : ((s.size : Int) == 1) = false := by simp; omega
      have hpos : 0 < s.size := by omega
      have hbg := byte_gB s 0 hpos
      have e : ob = (decide (gB s.data.toList 0 ≠ 48)) := by rw [E2.out]; simp [h0, h1]
      generalize gB s.data.toList 0 = c at *
      by_cases hc : c = 48
      · have e' : ob = false := by rw [e]; simp [hc]
        have v2 : (c != 48) = false := by simpa using hc
        subst e'
        clear E2 HA h0 h1 e hc
        go_wp2_with fail
        go_quiet (fail)
        go_wp2_with fail
        go_ret2
        exact ⟨rfl, bD (b0 _) _⟩
      · have e' : ob = true := by rw [e]; simp [hc]
        have v2 : (c != 48) = true := by simpa using hc
        subst e'
        clear E2 HA h0 h1 e hc
        go_wp2_with fail
        go_quiet (fail)
        go_wp2_with fail
        go_ret2
        exact ⟨rfl, bD (b0 _) _⟩
    have hbg := byte_gB s k hk
    have hgb := gB_bd s.data.toList k
    have hwv := wV_bd s.data.toList k HA.out
    have hp := pow_le18 k (by omega)
    have HWS : Hid (wV s.data.toList (k + 1) = 10 * wV s.data.toList k + (gB s.data.toList k - 48)) := rfl
    have HN : Hid (dI (gB s.data.toList k) = false → dTo s.data.toList s.size = false) := fun h => dTo_no hk h
    have HY : Hid (dI (gB s.data.toList k) = true → dTo s.data.toList (k + 1) = true) := fun h => dTo_step HA.out h
    have HWN : Hid (dI (gB s.data.toList k) = true → wV s.data.toList (k + 1) ≤ 1000000000000000000) := fun h => by
      have h1 := (wV_bd s.data.toList (k + 1) (HY.out h)).2
      have h2 := pow_le18 (k + 1) (by omega)
      omega
    rw [HWS.out] at HWN
    generalize wV s.data.toList k = wk at *
    generalize gB s.data.toList k = c at *
    obtain ⟨w0', w1'⟩ := hwv
    obtain ⟨c0, c1⟩ := hgb
    have KD := Lib.hid (digit_c c)
    cases hd : dI c
    · have e1 : ov = 0 := H1.out.trans (if_neg (by rw [HN.out hd]; decide))
      have e2 : ob = false := by rw [H2.out, HN.out hd]; simp
      subst e1
      subst e2
      rw [hd] at KD
      clear hd w1' hp
      go_wp2_with fail
      refine (KD.out _).mono ?_
      rintro e w1 ⟨rfl, rfl⟩
      go_wp2_with fail
      go_ret2
      exact ⟨rfl, b0 _⟩
    · have HY2 := Lib.hid (HY.out hd)
      have hw2 := HWN.out hd
      have hdd : 48 ≤ c ∧ c ≤ 57 := by unfold dI at hd; simpa using hd
      obtain ⟨d0, d1⟩ := hdd
      have wk1 : wk ≤ 100000000000000000 := by omega
      rw [hd] at KD
      clear hd w1' hp hw2
      go_wp2_with fail
      refine (KD.out _).mono ?_
      rintro e w1 ⟨rfl, rfl⟩
      go_wp2_with fail
      go_round
      case rel => exact ⟨k + 1, by omega, by go_num, by rw [HWS.out], HY2.out⟩
      case measure => simp [intOf]; omega
--%%
end Go.Proofs.YtcngmajkkhipoaaGreatDoor
namespace Go.Proofs.YtcngmajkkhipoaaGreatDoor
set_option linter.unusedVariables false
open Go.RowKit
theorem sl_nil2 {s : ByteArray} (h : s.size ≠ 0) : s.data.toList ≠ [] := fun e => h (by
  have : s.data.toList.length = s.size := by simp
  rw [← this, e]; rfl)
theorem str_lit {s : ByteArray} {l : List UInt8} (h : s.data.toList = l) : s = ⟨l.toArray⟩ := by subst h; rfl
set_option maxRecDepth 100000 in
set_option maxHeartbeats 3200000 in
theorem int_c (s : ByteArray) (w : World) (hs : s.size ≤ 1000000) (rv re : Int) (hv : Hid (rv = inV s.data.toList)) (he : Hid (re = inE s.data.toList)) :
    Calls Tryz.prog 13 #[.string s] w fun e w' => e = .returned (.tuple #[.int .i64 rv, .int .i64 re]) ∧ Below w.heap.size w w' := by
  obtain ⟨m, hm⟩ : ∃ m : ByteArray, m = ⟨(Lib.trimPrefix s.data.toList [45]).toArray⟩ := ⟨_, rfl⟩
  have KT : Hid (∀ W, Calls Tryz.prog 35 #[.string s, .string ⟨#[45]⟩] W fun e w' => e = .returned (.string m) ∧ W = w') := fun W => by
    rw [hm]
    exact (Tryz.strings_TrimPrefix s ⟨#[45]⟩ W).mono fun e w' ⟨h1, h2⟩ => ⟨h1, h2.symm⟩
  have hml : m.data.toList = inN s.data.toList := by rw [hm, ← inN_trim]
  have hms : m.data.toList.length = m.size := by simp
  have hsl : s.data.toList.length = s.size := by simp
  have HE : Hid (re = if inN s.data.toList = [] then 5 else if (1 < (inN s.data.toList).length ∨ inM s.data.toList = true) ∧ gB (inN s.data.toList) 0 = 48 then 5 else if dTo (inN s.data.toList) (inN s.data.toList).length = false then 5 else if 9 < (inN s.data.toList).length then 1 else 0) := he
  rw [← hml, hms] at HE
  have HV0 : Hid (re ≠ 0 → rv = 0) := fun h => by rw [hv.out]; unfold inV; rw [if_neg (by rw [← he.out]; exact h)]
  have HMS : Hid (m.size ≤ s.size) := by
    unfold Hid
    rw [← hms, hml, ← hsl]
    unfold inN
    split
    · simp
    · exact Nat.le_refl _
  have HSM : Hid (m.size = s.size ∨ (m.size + 1 = s.size ∧ inM s.data.toList = true)) := by
    unfold Hid
    rw [← hms, hml, ← hsl]
    unfold inN
    split
    · rename_i h
      right
      have : s.data.toList ≠ [] := by
        unfold inM at h; simp at h; exact fun e => h.1 (by simpa using e)
      have := List.length_pos_iff.2 this
      simp [h]; omega
    · left; rfl
  have KA : Hid (re = 0 → ∀ W, s.size ≤ 18 → Calls Tryz.prog 36 #[.string s] W fun e w' => e = .returned (.tuple #[.int .i64 rv, .nilIface]) ∧ Below W.heap.size W w') := fun h W h18 => by
    refine (Tryz.strconv_Atoi s rv h18 (by rw [hv.out]; exact atoi_in (by rw [← he.out]; exact h)) W).mono ?_
    rintro e w' ⟨h1, t, rfl⟩
    exact ⟨h1, Lib.bytesWorld_below W _ t⟩
  have hms1 := HMS.out
  have HMN : Hid ((inN s.data.toList).length = m.size ∧ gB (inN s.data.toList) 0 = gB m.data.toList 0) := ⟨by rw [← hml, hms], by rw [← hml]⟩
  clear hv he hm hml hms
  by_cases h0 : m.size = 0
  · obtain ⟨f1, f2⟩ := str_none m h0
    have e1 : re = 5 := by
      rw [HE.out, if_pos]
      have : m.data.toList.length = m.size := by simp
      exact List.length_eq_zero_iff.1 (by omega)
    obtain rfl : rv = 0 := HV0.out (by rw [e1]; decide)
    subst e1
    clear HE HV0 KA HMS HSM
    go_enter Tryz.func13, Tryz.ntmps13
    go_wp2_with fail
    refine (KT.out _).mono ?_
    rintro e w1 ⟨rfl, rfl⟩
    go_wp2_with fail
    go_ret2
    exact ⟨rfl, b0 _⟩
  obtain ⟨f1, f2⟩ := str_facts m h0
  have hne : m.data.toList ≠ [] := by
    intro e
    have : m.data.toList.length = m.size := by simp
    rw [e] at this; simp at this; omega
  have HE1 : Hid (re = if (1 < m.size ∨ inM s.data.toList = true) ∧ gB m.data.toList 0 = 48 then 5 else if dTo m.data.toList m.size = false then 5 else if 9 < m.size then 1 else 0) := HE.out.trans (if_neg hne)
  have hbg := byte_gB m 0 (by omega)
  have h0i : 0 < m.size := by omega
  clear HE hne
  generalize hg0 : gB m.data.toList 0 = g0 at *
  have HG0 := Lib.hid hg0
  clear hg0
  obtain ⟨bz, hbz⟩ : ∃ b : Bool, decide (1 < m.size) = b := ⟨_, rfl⟩
  by_cases hA : 1 < m.size ∧ g0 = 48
  · obtain ⟨hA1, hA2⟩ := hA
    have v1 : decide ((1 : Int) < (m.size : Int)) = true := by simp; omega
    have e1 : re = 5 := HE1.out.trans (if_pos ⟨Or.inl hA1, hA2⟩)
    obtain rfl : rv = 0 := HV0.out (by rw [e1]; decide)
    subst hA2
    subst e1
    clear HE1 HV0 KA HMS HSM hbz HG0
    go_enter Tryz.func13, Tryz.ntmps13
    go_wp2_with fail
    refine (KT.out _).mono ?_
    rintro e w1 ⟨rfl, rfl⟩
    go_wp2_with fail
    go_ret2
    exact ⟨rfl, b0 _⟩
  obtain ⟨bm, hbm⟩ : ∃ b, b = inM s.data.toList := ⟨_, rfl⟩
  have HBD : Hid ((s.toList == [45, 48]) = (bm && (decide (m.size = 1) && decide (g0 = 48)))) := by
    unfold Hid
    rw [ByteArray.toList_eq, minus0, hbm, HMN.out.1, HMN.out.2]
  rw [← hbm] at HE1
  clear hbm HMN
  by_cases hB : 1 < m.size
  · have v1 : decide ((1 : Int) < (m.size : Int)) = true := by simp; omega
    have v2 : (g0 == 48) = false := by simpa using (fun h => hA ⟨hB, h⟩)
    have v3 : (s.toList == [45, 48]) = false := by rw [HBD.out]; simp; omega
    have HE2 : Hid (re = if dTo m.data.toList m.size = false then 5 else if 9 < m.size then 1 else 0) := HE1.out.trans (if_neg (fun h => hA ⟨hB, h.2⟩))
    clear HE1 hA hB HBD hbz
    go_enter Tryz.func13, Tryz.ntmps13
    go_wp2_with fail
    refine (KT.out _).mono ?_
    rintro e w1 ⟨rfl, rfl⟩
    go_wp2_with fail
    clear hbg
    go_loop [28] (fun i => ∃ k : Nat, k ≤ m.size ∧ i = .int .i64 k ∧ Hid (dTo m.data.toList k = true)) (fun i => m.size - (intOf i).toNat)
    case atStart => exact ⟨0, Nat.zero_le _, rfl, rfl⟩
    case round =>
      obtain ⟨k, hk', rfl, HA⟩ := hrel
      by_cases hk : k < m.size
      · have hbk := byte_gB m k hk
        have HN : Hid (dI (gB m.data.toList k) = false → re = 5 ∧ rv = 0) := fun h => by
          have e : re = 5 := HE2.out.trans (if_pos (dTo_no hk h))
          exact ⟨e, HV0.out (by rw [e]; decide)⟩
        have HY : Hid (dI (gB m.data.toList k) = true → dTo m.data.toList (k + 1) = true) := fun h => dTo_step HA.out h
        generalize gB m.data.toList k = c at *
        clear HA HE2
        by_cases c1 : c < 48
        · obtain ⟨rfl, rfl⟩ := HN.out (by unfold dI; simp; omega)
          have v5 : decide (c < 48) = true := by simpa using c1
          clear HN HY c1
          go_wp2_with fail
          go_ret2
          exact ⟨rfl, b0 _⟩
        have v5 : decide (c < 48) = false := by simpa using c1
        by_cases c2 : 57 < c
        · obtain ⟨rfl, rfl⟩ := HN.out (by unfold dI; simp; omega)
          have v6 : decide (57 < c) = true := by simpa using c2
          clear HN HY c1 c2
          go_wp2_with fail
          go_ret2
          exact ⟨rfl, b0 _⟩
        have v6 : decide (57 < c) = false := by simpa using c2
        have HY2 := Lib.hid (HY.out (by unfold dI; simp; omega))
        clear HN HY c1 c2
        go_wp2_with fail
        go_round
        case rel => exact ⟨k + 1, by omega, by go_num, HY2.out⟩
        case measure => simp [intOf]; omega
      obtain rfl : k = m.size := by omega
      have HE3 : Hid (re = if 9 < m.size then 1 else 0) := HE2.out.trans (if_neg (by simp [HA.out]))
      clear HE2
      by_cases h9 : 9 < m.size
      · have v5 : decide ((9 : Int) < (m.size : Int)) = true := by simp; omega
        have e : re = 1 := HE3.out.trans (if_pos h9)
        obtain rfl : rv = 0 := HV0.out (by rw [e]; decide)
        subst e
        clear HE3 HV0 KA h9
        go_wp2_with fail
        go_ret2
        exact ⟨rfl, b0 _⟩
      have v5 : decide ((9 : Int) < (m.size : Int)) = false := by simp; omega
      have e : re = 0 := HE3.out.trans (if_neg h9)
      subst e
      have KAA := Lib.hid (KA.out rfl)
      have hs18 : s.size ≤ 18 := by have := HSM.out; omega
      clear HE3 HV0 KA h9
      go_wp2_with fail
      refine (KAA.out _ hs18).mono ?_
      rintro e w2 ⟨rfl, hb2⟩
      go_wp2_with fail
      go_ret2
      exact ⟨rfl, hb2⟩
  have hm1 : m.size = 1 := by omega
  have v1 : decide ((1 : Int) < (m.size : Int)) = false := by simp; omega
  by_cases hC : bm = true ∧ g0 = 48
  · have v3 : (s.toList == [45, 48]) = true := by rw [HBD.out]; simp [hC.1, hC.2, hm1]
    have e1 : re = 5 := HE1.out.trans (if_pos ⟨Or.inr hC.1, hC.2⟩)
    obtain rfl : rv = 0 := HV0.out (by rw [e1]; decide)
    subst e1
    clear HE1 HV0 KA HMS HSM hbz hC hA HBD
    go_enter Tryz.func13, Tryz.ntmps13
    go_wp2_with fail
    refine (KT.out _).mono ?_
    rintro e w1 ⟨rfl, rfl⟩
    go_wp2_with fail
    go_ret2
    exact ⟨rfl, b0 _⟩
  · have v3 : (s.toList == [45, 48]) = false := by
      rw [HBD.out]; simp; intro h1 _ h2; exact hC ⟨h1, h2⟩
    have HE2 : Hid (re = if dTo m.data.toList m.size = false then 5 else if 9 < m.size then 1 else 0) := HE1.out.trans (if_neg (fun h => by rcases h.1 with h1 | h1; exact hB h1; exact hC ⟨h1, h.2⟩))
    clear HE1 hA hB hC HBD hbz hm1
    go_enter Tryz.func13, Tryz.ntmps13
    go_wp2_with fail
    refine (KT.out _).mono ?_
    rintro e w1 ⟨rfl, rfl⟩
    go_wp2_with fail
    clear hbg
    go_loop [28] (fun i => ∃ k : Nat, k ≤ m.size ∧ i = .int .i64 k ∧ Hid (dTo m.data.toList k = true)) (fun i => m.size - (intOf i).toNat)
    case atStart => exact ⟨0, Nat.zero_le _, rfl, rfl⟩
    case round =>
      obtain ⟨k, hk', rfl, HA⟩ := hrel
      by_cases hk : k < m.size
      · have hbk := byte_gB m k hk
        have HN : Hid (dI (gB m.data.toList k) = false → re = 5 ∧ rv = 0) := fun h => by
          have e : re = 5 := HE2.out.trans (if_pos (dTo_no hk h))
          exact ⟨e, HV0.out (by rw [e]; decide)⟩
        have HY : Hid (dI (gB m.data.toList k) = true → dTo m.data.toList (k + 1) = true) := fun h => dTo_step HA.out h
        generalize gB m.data.toList k = c at *
        clear HA HE2
        by_cases c1 : c < 48
        · obtain ⟨rfl, rfl⟩ := HN.out (by unfold dI; simp; omega)
          have v5 : decide (c < 48) = true := by simpa using c1
          clear HN HY c1
          go_wp2_with fail
          go_ret2
          exact ⟨rfl, b0 _⟩
        have v5 : decide (c < 48) = false := by simpa using c1
        by_cases c2 : 57 < c
        · obtain ⟨rfl, rfl⟩ := HN.out (by unfold dI; simp; omega)
          have v6 : decide (57 < c) = true := by simpa using c2
          clear HN HY c1 c2
          go_wp2_with fail
          go_ret2
          exact ⟨rfl, b0 _⟩
        have v6 : decide (57 < c) = false := by simpa using c2
        have HY2 := Lib.hid (HY.out (by unfold dI; simp; omega))
        clear HN HY c1 c2
        go_wp2_with fail
        go_round
        case rel => exact ⟨k + 1, by omega, by go_num, HY2.out⟩
        case measure => simp [intOf]; omega
      obtain rfl : k = m.size := by omega
      have HE3 : Hid (re = if 9 < m.size then 1 else 0) := HE2.out.trans (if_neg (by simp [HA.out]))
      clear HE2
      by_cases h9 : 9 < m.size
      · have v5 : decide ((9 : Int) < (m.size : Int)) = true := by simp; omega
        have e : re = 1 := HE3.out.trans (if_pos h9)
        obtain rfl : rv = 0 := HV0.out (by rw [e]; decide)
        subst e
        clear HE3 HV0 KA h9
        go_wp2_with fail
        go_ret2
        exact ⟨rfl, b0 _⟩
      have v5 : decide ((9 : Int) < (m.size : Int)) = false := by simp; omega
      have e : re = 0 := HE3.out.trans (if_neg h9)
      subst e
      have KAA := Lib.hid (KA.out rfl)
      have hs18 : s.size ≤ 18 := by have := HSM.out; omega
      clear HE3 HV0 KA h9
      go_wp2_with fail
      refine (KAA.out _ hs18).mono ?_
      rintro e w2 ⟨rfl, hb2⟩
      go_wp2_with fail
      go_ret2
      exact ⟨rfl, hb2⟩
--%%
end Go.Proofs.YtcngmajkkhipoaaGreatDoor
namespace Go.Proofs.YtcngmajkkhipoaaGreatDoor
set_option linter.unusedVariables false
open Go.ChangeShapes Go.WideShapes Go.Deep Go.RowKit
/-- a table that came in -/
structure TbIn (w : World) (sch : List (List Bd)) (cts : List Ct) (kds : List Kd) (As Ac Ak : Option Addr) (ns cs nc cc nk ck : Nat) : Prop where
  s : ScSl w As ns sch
  c : CtSl w Ac nc cts
  k : KdSl w Ak nk kds
  cs : ns ≤ cs
  cc : nc ≤ cc
  ck : nk ≤ ck
section
variable {H : Type} {enc : TypeId × Value → H} {w : World}
set_option maxRecDepth 100000
theorem open_band_t {b off : Nat} {cs : List Value} {m : Nat} {x : DataW H × List MemPlace} (hl : cs.length = 3) (hc : CellsAt w b off cs) (h : DataW.trod enc Tryz.prog w 0 (fun _ => true) true m 44 cs = some x) :
    ∃ a : Bd, w.cell? ⟨b, off, none⟩ = some (.int .i64 a.f) ∧ w.cell? ⟨b, off + 1, none⟩ = some (.int .i64 a.r) ∧ w.cell? ⟨b, off + 2, none⟩ = some (.int .i64 a.e) := by
  have hf := struct_cells Tryz.underlying44 (by kernel_rfl) hl h
  obtain ⟨u0, n0, y0, e0, t0⟩ := hf 0 _ rfl
  obtain ⟨u1, n1, y1, e1, t1⟩ := hf 1 _ rfl
  obtain ⟨u2, n2, y2, e2, t2⟩ := hf 2 _ rfl
  obtain ⟨q0, rfl, _⟩ := cell_int Tryz.underlying2 t0
  obtain ⟨q1, rfl, _⟩ := cell_int Tryz.underlying3 t1
  obtain ⟨q2, rfl, _⟩ := cell_int Tryz.underlying3 t2
  exact ⟨⟨q0, q1, q2⟩, hc 0 _ e0, hc 1 _ e1, hc 2 _ e2⟩
theorem open_bands_t {m : Nat} {u : Value} {x : DataW H × List MemPlace} (h : DataW.trod enc Tryz.prog w 0 (fun _ => true) true m 42 [u] = some x) : ∃ A n c l, u = .slice A n c ∧ n ≤ c ∧ BandSl w A n l := by
  obtain ⟨A, n, c, l, rfl, h1, h2, h3, h4, h5⟩ := open_sl (fun w b off (a : Bd) => w.cell? ⟨b, off, none⟩ = some (.int .i64 a.f) ∧ w.cell? ⟨b, off + 1, none⟩ = some (.int .i64 a.r) ∧ w.cell? ⟨b, off + 2, none⟩ = some (.int .i64 a.e)) 3 bd0 (by decide) Tryz.underlying42 (by kernel_rfl)
    (fun b off cs m x hb hl hc hx => open_band_t hl hc hx) h
  refine ⟨A, n, c, l, rfl, h1, h3, h4, fun h0 => ?_⟩
  obtain ⟨b, off, hA, hlt, hat⟩ := h5 h0
  exact ⟨b, off, hA, hlt, fun k hk => hat k (by omega)⟩
theorem open_contrib_t {b off : Nat} {cs : List Value} {m : Nat} {x : DataW H × List MemPlace} (hl : cs.length = 6) (hc : CellsAt w b off cs) (h : DataW.trod enc Tryz.prog w 0 (fun _ => true) true m 46 cs = some x) : ∃ a : Ct, CtAt w b off a := by
  have hf := struct_cells Tryz.underlying46 (by kernel_rfl) hl h
  obtain ⟨u0, n0, y0, e0, t0⟩ := hf 0 _ rfl
  obtain ⟨u1, n1, y1, e1, t1⟩ := hf 1 _ rfl
  obtain ⟨u2, n2, y2, e2, t2⟩ := hf 2 _ rfl
  obtain ⟨u3, n3, y3, e3, t3⟩ := hf 3 _ rfl
  obtain ⟨u4, n4, y4, e4, t4⟩ := hf 4 _ rfl
  obtain ⟨u5, n5, y5, e5, t5⟩ := hf 5 _ rfl
  obtain ⟨q0, rfl, s0⟩ := cell_string Tryz.underlying9 t0
  obtain ⟨q1, rfl, _⟩ := cell_int Tryz.underlying3 t1
  obtain ⟨A, n, c, l, rfl, _, hs⟩ := open_bands_t t2
  obtain ⟨q3, rfl, _⟩ := cell_int Tryz.underlying2 t3
  obtain ⟨q4, rfl, _⟩ := cell_int Tryz.underlying2 t4
  obtain ⟨q5, rfl, _⟩ := cell_int Tryz.underlying3 t5
  exact ⟨⟨q0, q1, l, q3, q4, q5⟩, hc 0 _ e0, s0, hc 1 _ e1, ⟨A, n, c, hc 2 _ e2, hs⟩, hc 3 _ e3, hc 4 _ e4, hc 5 _ e5⟩
theorem open_kind_t {b off : Nat} {cs : List Value} {m : Nat} {x : DataW H × List MemPlace} (hl : cs.length = 4) (hc : CellsAt w b off cs) (h : DataW.trod enc Tryz.prog w 0 (fun _ => true) true m 56 cs = some x) : ∃ a : Kd, KdAt w b off a := by
  have hf := struct_cells Tryz.underlying56 (by kernel_rfl) hl h
  obtain ⟨u0, n0, y0, e0, t0⟩ := hf 0 _ rfl
  obtain ⟨u1, n1, y1, e1, t1⟩ := hf 1 _ rfl
  obtain ⟨u2, n2, y2, e2, t2⟩ := hf 2 _ rfl
  obtain ⟨u3, n3, y3, e3, t3⟩ := hf 3 _ rfl
  obtain ⟨q0, rfl, s0⟩ := cell_string Tryz.underlying9 t0
  obtain ⟨q1, rfl, _⟩ := cell_int Tryz.underlying3 t1
  obtain ⟨q2, rfl, _⟩ := cell_int Tryz.underlying3 t2
  obtain ⟨q3, rfl, _⟩ := cell_int Tryz.underlying3 t3
  exact ⟨⟨q0, q1, q2, q3⟩, hc 0 _ e0, s0, hc 1 _ e1, hc 2 _ e2, hc 3 _ e3⟩
theorem open_table {r : Reach} {b0 : Nat} {v : Value} {d : DataW H} {p : List MemPlace} (hv : Value.okWide Tryz.prog w r b0 26 v) (h : DataW.Trod enc Tryz.prog w 0 (fun _ => true) true 26 v d p) :
    ∃ sch cts kds As Ac Ak ns cs nc cc nk ck lim rnd, v = .agg #[.slice As ns cs, .slice Ac nc cc, .slice Ak nk ck, .int .i64 lim, .int .i64 rnd] ∧ TbIn w sch cts kds As Ac Ak ns cs nc cc nk ck := by
  obtain ⟨l, m, rfl, hl, hm⟩ := trod_struct_arg Tryz.underlying26 hv h
  rw [show Tryz.prog.cellsOf 26 = 5 from by kernel_rfl] at hl
  have hf := struct_cells Tryz.underlying26 (by kernel_rfl) hl hm
  obtain ⟨u0, n0, y0, e0, t0⟩ := hf 0 _ rfl
  obtain ⟨u1, n1, y1, e1, t1⟩ := hf 1 _ rfl
  obtain ⟨u2, n2, y2, e2, t2⟩ := hf 2 _ rfl
  obtain ⟨u3, n3, y3, e3, t3⟩ := hf 3 _ rfl
  obtain ⟨u4, n4, y4, e4, t4⟩ := hf 4 _ rfl
  obtain ⟨As, ns, cs, sch, rfl, k0, _, s0⟩ := open_sl ScAt 1 [] (by decide) Tryz.underlying22 (by kernel_rfl) (fun b off cs m x hb hl hc hx => by
    match cs, hl with
    | [u], _ =>
      obtain ⟨A, n, c, l, rfl, _, hs⟩ := open_bands_t hx
      exact ⟨l, A, n, c, hc 0 _ rfl, hs⟩) t0
  obtain ⟨Ac, nc, cc, cts, rfl, k1, _, s1⟩ := open_sl CtAt 6 ct0 (by decide) Tryz.underlying23 (by kernel_rfl) (fun b off cs m x hb hl hc hx => open_contrib_t hl hc hx) t1
  obtain ⟨Ak, nk, ck, kds, rfl, k2, _, s2⟩ := open_sl KdAt 4 kd0 (by decide) Tryz.underlying24 (by kernel_rfl) (fun b off cs m x hb hl hc hx => open_kind_t hl hc hx) t2
  obtain ⟨lim, rfl, _⟩ := cell_int Tryz.underlying3 t3
  obtain ⟨rnd, rfl, _⟩ := cell_int Tryz.underlying3 t4
  match l, hl with
  | [a0, a1, a2, a3, a4], _ =>
    simp only [List.getElem?_cons_zero, List.getElem?_cons_succ, Option.some.injEq] at e0 e1 e2 e3 e4
    subst e0; subst e1; subst e2; subst e3; subst e4
    exact ⟨sch, cts, kds, As, Ac, Ak, ns, cs, nc, cc, nk, ck, lim, rnd, rfl, s0, s1, s2, k0, k1, k2⟩
end
end Go.Proofs.YtcngmajkkhipoaaGreatDoor
namespace Go.Proofs.YtcngmajkkhipoaaGreatDoor
set_option linter.unusedVariables false
open Go.RowKit
theorem gB_app_l (a b : List UInt8) (i : Nat) (h : i < a.length) : gB (a ++ b) i = gB a i := by
  unfold gB
  simp [List.getD, List.getElem?_append_left h]
theorem gB_app_r (a b : List UInt8) (i : Nat) : gB (a ++ b) (a.length + i) = gB b i := by
  unfold gB
  simp [List.getD, List.getElem?_append_right]
theorem wV_app (a b : List UInt8) : ∀ k, k ≤ a.length → wV (a ++ b) k = wV a k := by
  intro k
  induction k with
  | zero => intro _; rfl
  | succ k ih =>
    intro hk
    rw [wV, wV, ih (by omega), gB_app_l a b k (by omega)]
theorem gB_one (c : UInt8) : gB [c] 0 = (c.toNat : Int) := rfl
theorem toNat_dig (d : Nat) (h : d < 10) : (UInt8.ofNat (48 + d)).toNat = 48 + d := by
  rw [UInt8.toNat_ofNat']
  omega
/-- what a numeral is -/
structure DecF (u : Nat) (l : List UInt8) : Prop where
  d : dTo l l.length = true
  v : wV l l.length = (u : Int)
  n : 1 ≤ l.length
  h : u ≠ 0 → gB l 0 ≠ 48
  z : u = 0 → l.length = 1
theorem dec_one {u : Nat} (h : u < 10) : DecF u [UInt8.ofNat (48 + u)] := by
  have e : gB [UInt8.ofNat (48 + u)] 0 = 48 + (u : Int) := by rw [gB_one, toNat_dig u h]; omega
  refine ⟨dTo_iff.2 fun i hi => ?_, ?_, by simp, fun hu => by rw [e]; omega, fun _ => rfl⟩
  · obtain rfl : i = 0 := by simpa using hi
    rw [e]; unfold dI; simp; omega
  · show wV _ 1 = _
    rw [wV, wV, e]; omega
theorem dec_app {u : Nat} (hu : ¬ u < 10) {a : List UInt8} (h : DecF (u / 10) a) : DecF u (a ++ [UInt8.ofNat (48 + u % 10)]) := by
  have hm : u % 10 < 10 := by omega
  have e : gB (a ++ [UInt8.ofNat (48 + u % 10)]) a.length = 48 + ((u % 10 : Nat) : Int) := by
    have := gB_app_r a [UInt8.ofNat (48 + u % 10)] 0
    rw [Nat.add_zero] at this
    rw [this, gB_one, toNat_dig _ hm]; omega
  have hl : (a ++ [UInt8.ofNat (48 + u % 10)]).length = a.length + 1 := by simp
  refine ⟨dTo_iff.2 fun i hi => ?_, ?_, by omega, fun _ => ?_, fun h0 => absurd h0 (by omega)⟩
  · rw [hl] at hi
    rcases (by omega : i = a.length ∨ i < a.length) with rfl | hi
    · rw [e]; unfold dI; simp; omega
    · rw [gB_app_l _ _ _ hi]; exact dTo_iff.1 h.d i hi
  · rw [hl, wV, e, wV_app _ _ _ (Nat.le_refl _), h.v]
    omega
  · rw [gB_app_l _ _ _ h.n]
    exact h.h (by omega)
theorem dec_facts (u : Nat) : DecF u (Lib.decDigits u) := by
  induction u using Nat.strongRecOn with
  | ind u ih =>
    by_cases h : u < 10
    · rw [Lib.decDigits_one h]; exact dec_one h
    · rw [Lib.decDigits, dif_neg h]
      exact dec_app h (ih (u / 10) (by omega))
theorem dec_len_le : ∀ k u, u < 10 ^ (k + 1) → (Lib.decDigits u).length ≤ k + 1 := by
  intro k
  induction k with
  | zero => intro u h; rw [Lib.decDigits_one (by simpa using h)]; simp
  | succ k ih =>
    intro u h
    by_cases hu : u < 10
    · rw [Lib.decDigits_one hu]; simp
    · rw [Lib.decDigits, dif_neg hu, List.length_append]
      have h1 : u / 10 < 10 ^ (k + 1) := by
        rw [Nat.div_lt_iff_lt_mul (by decide)]
        rw [Nat.pow_succ] at h
        exact h
      have := ih (u / 10) h1
      simp; omega
theorem text_two (m : Nat) (h : m < 100) : (if (m : Int) < 10 then [(48 : UInt8)] else []) ++ Lib.decDigits m = [UInt8.ofNat (48 + m / 10), UInt8.ofNat (48 + m % 10)] := by
  by_cases h1 : m < 10
  · rw [if_pos (by omega), Lib.decDigits_one h1, show m / 10 = 0 by omega, show m % 10 = m by omega]; rfl
  · rw [if_neg (by omega), Lib.decDigits_two h1 h]; rfl
theorem body_parse (neg : Bool) (u m : Nat) (hu : u ≤ 1000000000) (hm : m < 100) (hz : neg = true → ¬ (u = 0 ∧ m = 0)) (hr : mrB ((if neg then -1 else 1) * ((u : Int) * 100 + m)) = true) :
    pE neg (Lib.decDigits u ++ [46, UInt8.ofNat (48 + m / 10), UInt8.ofNat (48 + m % 10)]) = 0 ∧ pV neg (Lib.decDigits u ++ [46, UInt8.ofNat (48 + m / 10), UInt8.ofNat (48 + m % 10)]) = (if neg then -1 else 1) * ((u : Int) * 100 + m) := by
  have hd := dec_facts u
  have hl := dec_len_le 9 u (by omega)
  generalize Lib.decDigits u = D at *
  have hlen : (D ++ [46, UInt8.ofNat (48 + m / 10), UInt8.ofNat (48 + m % 10)]).length = D.length + 3 := by simp
  have g0 : gB (D ++ [46, UInt8.ofNat (48 + m / 10), UInt8.ofNat (48 + m % 10)]) D.length = 46 := by
    have := gB_app_r D [46, UInt8.ofNat (48 + m / 10), UInt8.ofNat (48 + m % 10)] 0
    rw [Nat.add_zero] at this
    rw [this]; rfl
  have g1 : gB (D ++ [46, UInt8.ofNat (48 + m / 10), UInt8.ofNat (48 + m % 10)]) (D.length + 1) = 48 + ((m / 10 : Nat) : Int) := by
    rw [gB_app_r]
    show ((UInt8.ofNat (48 + m / 10)).toNat : Int) = _
    rw [toNat_dig _ (by omega)]; omega
  have g2 : gB (D ++ [46, UInt8.ofNat (48 + m / 10), UInt8.ofNat (48 + m % 10)]) (D.length + 2) = 48 + ((m % 10 : Nat) : Int) := by
    rw [gB_app_r]
    show ((UInt8.ofNat (48 + m % 10)).toNat : Int) = _
    rw [toNat_dig _ (by omega)]; omega
  have ht : (D ++ [46, UInt8.ofNat (48 + m / 10), UInt8.ofNat (48 + m % 10)]).take D.length = D := by simp
  generalize D ++ [46, UInt8.ofNat (48 + m / 10), UInt8.ofNat (48 + m % 10)] = l at *
  have e3 : l.length - 3 = D.length := by omega
  have e2 : l.length - 2 = D.length + 1 := by omega
  have e1 : l.length - 1 = D.length + 2 := by omega
  have hcut : pCut l = true := by unfold pCut; rw [e3, g0]; have := hd.n; simp; omega
  have hrest : pRest l = D := by unfold pRest; rw [if_pos hcut, e3, ht]
  have hcoins : pCoins l = (m : Int) := by unfold pCoins; rw [if_pos hcut, e2, e1, g1, g2]; omega
  have hV : whV D = (u : Int) := by unfold whV; rw [if_pos hd.d, hd.v]
  have hO : whO D = true := by
    unfold whO
    rw [hd.d]
    have hn := hd.n
    by_cases h0 : u = 0
    · have := hd.z h0
      simp [this]
    · have h48 := hd.h h0
      have hne : D ≠ [] := fun h => by rw [h] at hn; simp at hn
      simp [h48, hne]
  have hpe : pE neg l = 0 := by
    unfold pE
    rw [if_neg (by omega), if_neg (by rw [e2, e1, g1, g2]; intro hc; apply hc.2; unfold dI; simp; omega), hrest, if_neg (by omega), if_neg (by
      rw [hO, hV, hcoins]
      intro hc
      rcases hc with hc | ⟨h1, h2, h3⟩
      · exact hc rfl
      · exact hz h1 ⟨by omega, by omega⟩), hV, hcoins, if_pos hr]
  refine ⟨hpe, ?_⟩
  unfold pV
  rw [if_pos hpe, hrest, hV, hcoins]
theorem parse_text (x : Int) (h1 : -100000000000 ≤ x) (h2 : x ≤ 100000000000) : parseE (textB x) = 0 ∧ parseV (textB x) = x := by
  have ha : (x.natAbs : Int) / 100 = ((x.natAbs / 100 : Nat) : Int) := by omega
  have hb : (x.natAbs : Int) % 100 = ((x.natAbs % 100 : Nat) : Int) := by omega
  have ht : textB x = (if decide (x < 0) then [45] else []) ++ (Lib.decDigits (x.natAbs / 100) ++ [46, UInt8.ofNat (48 + (x.natAbs % 100) / 10), UInt8.ofNat (48 + (x.natAbs % 100) % 10)]) := by
    unfold textB textI
    rw [ha, hb, Int.toNat_natCast, Int.toNat_natCast]
    have := text_two (x.natAbs % 100) (by omega)
    rw [List.append_assoc, List.append_assoc, this]
    rfl
  have hbody := body_parse (decide (x < 0)) (x.natAbs / 100) (x.natAbs % 100) (by omega) (by omega) (fun h => by simp at h; omega) (mr_t (by
    by_cases hx : x < 0
    · simp only [hx, decide_true, if_true]; omega
    · simp only [hx, decide_false, Bool.false_eq_true, if_false]; omega))
  have hval : (if decide (x < 0) = true then (-1 : Int) else 1) * (((x.natAbs / 100 : Nat) : Int) * 100 + ((x.natAbs % 100 : Nat) : Int)) = x := by
    by_cases hx : x < 0
    · simp only [hx, decide_true, if_true]; omega
    · simp only [hx, decide_false, Bool.false_eq_true, if_false]; omega
  rw [hval] at hbody
  have hd := dec_facts (x.natAbs / 100)
  generalize Lib.decDigits (x.natAbs / 100) = D at *
  have hn := hd.n
  have h48 := dTo_iff.1 hd.d 0 (by omega)
  have hg : gB (D ++ [46, UInt8.ofNat (48 + (x.natAbs % 100) / 10), UInt8.ofNat (48 + (x.natAbs % 100) % 10)]) 0 = gB D 0 := gB_app_l _ _ _ (by omega)
  generalize D ++ [46, UInt8.ofNat (48 + (x.natAbs % 100) / 10), UInt8.ofNat (48 + (x.natAbs % 100) % 10)] = B at *
  unfold parseE parseV pBody
  rw [ht]
  by_cases hx : x < 0
  · have hp : pNeg ((if decide (x < 0) = true then [45] else []) ++ B) = true := by simp [hx, pNeg, gB]
    rw [hp]
    simp only [hx, decide_true, if_true, List.cons_append, List.nil_append, List.drop_succ_cons, List.drop_zero] at hbody ⊢
    exact hbody
  · have hp : pNeg ((if decide (x < 0) = true then [45] else []) ++ B) = false := by
      simp only [hx, decide_false, Bool.false_eq_true, if_false, List.nil_append]
      unfold pNeg
      rw [hg]
      unfold dI at h48
      simp only [decide_eq_true_eq] at h48
      simp; omega
    rw [hp]
    simp only [hx, decide_false, Bool.false_eq_true, if_false, List.nil_append] at hbody ⊢
    exact hbody
theorem textB_len (x : Int) (h1 : -100000000000 ≤ x) (h2 : x ≤ 100000000000) : (textB x).length ≤ 20 := by
  have ha : (x.natAbs : Int) / 100 = ((x.natAbs / 100 : Nat) : Int) := by omega
  have hb : (x.natAbs : Int) % 100 = ((x.natAbs % 100 : Nat) : Int) := by omega
  unfold textB textI
  rw [ha, hb, Int.toNat_natCast, Int.toNat_natCast]
  have d1 := dec_len_le 9 (x.natAbs / 100) (by omega)
  have d2 := dec_len_le 1 (x.natAbs % 100) (by omega)
  simp only [List.length_append]
  have e1 : (if decide (x < 0) = true then [(45 : UInt8)] else []).length ≤ 1 := by split <;> simp
  have e2 : (if (((x.natAbs % 100 : Nat) : Int)) < 10 then [(48 : UInt8)] else []).length ≤ 1 := by split <;> simp
  have e3 : [(46 : UInt8)].length = 1 := rfl
  omega
end Go.Proofs.YtcngmajkkhipoaaGreatDoor
namespace Go.Proofs.YtcngmajkkhipoaaGreatDoor
set_option linter.unusedVariables false
open Go.RowKit
theorem nDig_le (u : Nat) (h : u ≤ 999999999) : Lib.nDigits u ≤ 9 := by
  rcases Nat.lt_or_ge 9 (Lib.nDigits u) with h9 | h9
  · have h1 : u < 10 ^ 9 := by omega
    have : ∀ k u, u < 10 ^ k → 0 < k → Lib.nDigits u ≤ k := by
      intro k
      induction k with
      | zero => intro u _ h0; omega
      | succ k ih =>
        intro u hu _
        by_cases h : u < 10
        · rw [Lib.nDigits_small h]; omega
        · rw [Lib.nDigits_big h]
          rw [Nat.pow_succ] at hu
          have hk : 0 < k := by
            rcases Nat.eq_zero_or_pos k with rfl | hk
            · simp at hu; omega
            · exact hk
          have := ih (u / 10) (by omega) hk
          omega
    have := this 9 u h1 (by decide)
    omega
  · exact h9
theorem itoa_len (n : Int) (h1 : -999999999 ≤ n) (h2 : n ≤ 999999999) : (Lib.itoa n).length ≤ 10 := by
  unfold Lib.itoa
  split
  · have := nDig_le n.natAbs (by omega)
    simp [Lib.decDigits_length]; omega
  · have := nDig_le n.toNat (by omega)
    simp [Lib.decDigits_length]; omega
theorem int_itoa (n : Int) (h1 : -999999999 ≤ n) (h2 : n ≤ 999999999) : inE (Lib.itoa n) = 0 ∧ inV (Lib.itoa n) = n := by
  have key : inE (Lib.itoa n) = 0 ∧ (if inM (Lib.itoa n) = true then - wV (inN (Lib.itoa n)) (inN (Lib.itoa n)).length else wV (inN (Lib.itoa n)) (inN (Lib.itoa n)).length) = n := by
    unfold Lib.itoa
    by_cases hn : n < 0
    · rw [if_pos hn]
      have D := dec_facts n.natAbs
      have hl := nDig_le n.natAbs (by omega)
      rw [← Lib.decDigits_length] at hl
      have hm : inM (45 :: Lib.decDigits n.natAbs) = true := by unfold inM gB; simp [List.getD]
      have hN : inN (45 :: Lib.decDigits n.natAbs) = Lib.decDigits n.natAbs := by unfold inN; rw [hm]; rfl
      have hne : Lib.decDigits n.natAbs ≠ [] := by
        intro e
        have := D.n
        rw [e] at this
        exact absurd this (by decide)
      refine ⟨?_, ?_⟩
      · unfold inE
        rw [hN, hm, if_neg hne, if_neg, if_neg (by rw [D.d]; decide), if_neg (by omega)]
        rintro ⟨_, h⟩
        exact D.h (by omega) h
      · rw [hN, hm, if_pos rfl, D.v]
        omega
    · rw [if_neg hn]
      have D := dec_facts n.toNat
      have hl := nDig_le n.toNat (by omega)
      rw [← Lib.decDigits_length] at hl
      have hd0 := dTo_iff.1 D.d 0 D.n
      have hm : inM (Lib.decDigits n.toNat) = false := by
        unfold inM
        unfold dI at hd0
        simp at hd0 ⊢
        intro _
        omega
      have hN : inN (Lib.decDigits n.toNat) = Lib.decDigits n.toNat := by unfold inN; rw [hm]; rfl
      have hne : Lib.decDigits n.toNat ≠ [] := by
        intro e
        have := D.n
        rw [e] at this
        exact absurd this (by decide)
      refine ⟨?_, ?_⟩
      · unfold inE
        rw [hN, hm, if_neg hne, if_neg, if_neg (by rw [D.d]; decide), if_neg (by omega)]
        rintro ⟨h | h, h3⟩
        · by_cases h0 : n.toNat = 0
          · have := D.z h0
            omega
          · exact D.h h0 h3
        · cases h
      · rw [hN, hm, if_neg (by decide), D.v]
        omega
  refine ⟨key.1, ?_⟩
  unfold inV
  rw [if_pos key.1]
  exact key.2
end Go.Proofs.YtcngmajkkhipoaaGreatDoor
namespace Go.Proofs.YtcngmajkkhipoaaGreatDoor
set_option linter.unusedVariables false
open Go.RowKit
theorem plain_c (c : Int) (w : World) : Calls Tryz.prog 28 #[.int .u8 c] w fun e w' => e = .returned (.bool (plB c)) ∧ w = w' := by
  obtain ⟨b1, hb1⟩ : ∃ b, decide (32 < c) = b := ⟨_, rfl⟩
  obtain ⟨b2, hb2⟩ : ∃ b, decide (c < 127) = b := ⟨_, rfl⟩
  obtain ⟨b3, hb3⟩ : ∃ b, (c != 34) = b := ⟨_, rfl⟩
  obtain ⟨b4, hb4⟩ : ∃ b, (c != 35) = b := ⟨_, rfl⟩
  have e : plB c = (b1 && (b2 && (b3 && b4))) := by
    subst hb1; subst hb2; subst hb3; subst hb4
    rw [Bool.eq_iff_iff]; unfold plB; simp; omega
  rw [e]
  clear e
  cases b1 <;> cases b2 <;> cases b3 <;> cases b4
  all_goals
    go_enter Tryz.func28, Tryz.ntmps28
    go_wp2_with fail
    go_ret
    exact ⟨rfl, rfl⟩
--%%
theorem shown_c (c : Int) (w : World) : Calls Tryz.prog 29 #[.int .u8 c] w fun e w' => e = .returned (.bool (shB c)) ∧ w = w' := by
  obtain ⟨b1, hb1⟩ : ∃ b, decide (32 ≤ c) = b := ⟨_, rfl⟩
  obtain ⟨b2, hb2⟩ : ∃ b, decide (c < 127) = b := ⟨_, rfl⟩
  obtain ⟨b3, hb3⟩ : ∃ b, (c != 34) = b := ⟨_, rfl⟩
  have e : shB c = (b1 && (b2 && b3)) := by
    subst hb1; subst hb2; subst hb3
    rw [Bool.eq_iff_iff]; unfold shB; simp; omega
  rw [e]
  clear e
  cases b1 <;> cases b2 <;> cases b3
  all_goals
    go_enter Tryz.func29, Tryz.ntmps29
    go_wp2_with fail
    go_ret
    exact ⟨rfl, rfl⟩
--%%
theorem run_string_add_any {P : Program} (W : World) (x y : List UInt8) (h : x.length + y.length ≤ 9223372036854775807) : (Op.stringOp .add ⟨x.toArray⟩ ⟨y.toArray⟩).run P W = .ok (.string ⟨(x ++ y).toArray⟩) W := by
  rw [run_string_add_sum W _ _ (by simp [ByteArray.size]; omega), ByteArray.mk_append_mk]
theorem allB_succ (p : Int → Bool) (l : List UInt8) (k : Nat) (hk : k < l.length) : allB p (l.take (k + 1)) = (allB p (l.take k) && p (gB l k)) := by
  unfold allB
  rw [List.take_add_one, List.all_append]
  simp [List.getElem?_eq_getElem hk, gB, bI, List.getD]
theorem allB_no {p : Int → Bool} {l : List UInt8} {k : Nat} (hk : k < l.length) (h : p (gB l k) = false) : allB p l = false := by
  unfold allB
  rw [List.all_eq_false]
  refine ⟨l[k], List.getElem_mem hk, ?_⟩
  simp [gB, List.getD, List.getElem?_eq_getElem hk] at h
  simpa [bI] using h
theorem allB_full (p : Int → Bool) (l : List UInt8) : allB p (l.take l.length) = allB p l := by rw [List.take_length]
theorem sl_len (s : ByteArray) : s.data.toList.length = s.size := by simp
theorem sl_back (s : ByteArray) : (⟨s.data.toList.toArray⟩ : ByteArray) = s := rfl
theorem sl_nil {s : ByteArray} (h : s.size ≠ 0) : s.data.toList ≠ [] := fun e => h (by rw [← sl_len, e]; rfl)
--%%
end Go.Proofs.YtcngmajkkhipoaaGreatDoor
