/-
  The walk of TableOwn. Conditions as named.
-/
import Derived.Test.YtbliblhipecgfaaGreatDoorTOwn3
import Derived.Test.YtbliblhipecgfaaGreatDoorTSmall
import Derived.Test.YtbliblhipecgfaaGreatDoorSame2
import Derived.Test.YtbliblhipecgfaaGreatDoorTBuild
import Derived.Laws.StructEq
namespace Go.Proofs.YtbliblhipecgfaaGreatDoor
set_option linter.unusedVariables false
open Go.RowKit
/-- a copy, as a value, between two bounds -/
def Cpy (n2 : Nat) (W : World) (sch : List (List Bd)) (cts : List Ct) (kds : List Kd) (ns nc nk : Nat) (lim rnd : Int) (u : Value) (lo hi : Nat) : Prop :=
  ∃ As cs Ac cc Ak ck, u = .agg #[.slice As ns cs, .slice Ac nc cc, .slice Ak nk ck, .int .i64 lim, .int .i64 rnd] ∧ OwnC W lo hi sch cts kds As Ac Ak ns cs nc cc nk ck ∧ n2 ≤ lo ∧ hi ≤ W.heap.size
/-- a struct's variable: new, or with a value -/
def Va (n2 : Nat) (W : World) (u v : Value) (B : Nat) (st : Bool) : Prop :=
  v = .pointer (some ⟨B, 0, none⟩) ∧ n2 ≤ B ∧ ∃ a b c d e, Blk W B 26 #[a, b, c, d, e] ∧ (st = true → u = .agg #[a, b, c, d, e]) ∧ (st = false → #[a, b, c, d, e] = #[.slice none 0 0, .slice none 0 0, .slice none 0 0, .int .i64 0, .int .i64 0])
structure RF (n2 : Nat) (sch : List (List Bd)) (cts : List Ct) (kds : List Kd) (As Ac Ak : Option Addr) (ns cs nc cc nk ck : Nat) (lim rnd : Int) (b : Nat → Bool) (u7 u8 u35 u36 u37 u38 : Value) (l1 h1 l3 h3 B7 B8 : Nat) (W : World) : Prop where
  f0 : b 0 = true → u35 = .agg #[.slice As ns cs, .slice Ac nc cc, .slice Ak nk ck, .int .i64 lim, .int .i64 rnd]
  f1 : b 1 = true → Cpy n2 W sch cts kds ns nc nk lim rnd u36 l1 h1
  f2 : b 2 = true → u37 = .agg #[.slice As ns cs, .slice Ac nc cc, .slice Ak nk ck, .int .i64 lim, .int .i64 rnd]
  f3 : b 3 = true → Cpy n2 W sch cts kds ns nc nk lim rnd u38 l3 h3
  f13 : b 1 = true → b 3 = true → h1 ≤ l3 ∨ h3 ≤ l1
  f4 : b 4 = true → Va n2 W u36 u7 B7 (b 6)
  f5 : b 5 = true → Va n2 W u38 u8 B8 (b 7)
  f45 : b 4 = true → b 5 = true → B7 ≠ B8
  f6 : b 6 = true → b 4 = true ∧ b 1 = true
  f7 : b 7 = true → b 5 = true ∧ b 3 = true
section
variable {n2 : Nat} {sch : List (List Bd)} {cts : List Ct} {kds : List Kd} {As Ac Ak : Option Addr} {ns cs nc cc nk ck : Nat} {lim rnd : Int} {b : Nat → Bool} {u7 u8 u35 u36 u37 u38 : Value} {l1 h1 l3 h3 B7 B8 : Nat} {W W' : World}
theorem Cpy.below {u : Value} (h : Cpy n2 W sch cts kds ns nc nk lim rnd u l1 h1) (hb : Below W.heap.size W W') : Cpy n2 W' sch cts kds ns nc nk lim rnd u l1 h1 := by
  obtain ⟨As, cs, Ac, cc, Ak, ck, e, o, g1, g2⟩ := h
  exact ⟨As, cs, Ac, cc, Ak, ck, e, o.below hb, g1, Nat.le_trans g2 hb.size⟩
theorem Cpy.five {u : Value} (h : Cpy n2 W sch cts kds ns nc nk lim rnd u l1 h1) {g : Nat} {a b c d e a' b' c' d' e' : Value} (hk : Blk W g 26 #[a, b, c, d, e]) : Cpy n2 (put5 W g a' b' c' d' e') sch cts kds ns nc nk lim rnd u l1 h1 := by
  obtain ⟨As, cs, Ac, cc, Ak, ck, e, o, g1, g2⟩ := h
  exact ⟨As, cs, Ac, cc, Ak, ck, e, o.five hk, g1, by rw [size5]; exact g2⟩
theorem Va.below {u v : Value} {B : Nat} {st : Bool} (h : Va n2 W u v B st) (hb : Below W.heap.size W W') : Va n2 W' u v B st := by
  obtain ⟨e1, e2, a, b, c, d, e, hk, h1, h2⟩ := h
  exact ⟨e1, e2, a, b, c, d, e, hk.t hb, h1, h2⟩
theorem Va.five {u v : Value} {B g : Nat} {st : Bool} (h : Va n2 W u v B st) (hne : B ≠ g) {a' b' c' d' e' : Value} : Va n2 (put5 W g a' b' c' d' e') u v B st := by
  obtain ⟨e1, e2, a, b, c, d, e, hk, h1, h2⟩ := h
  exact ⟨e1, e2, a, b, c, d, e, hk.five0 hne, h1, h2⟩
theorem Va.lt {u v : Value} {B : Nat} {st : Bool} (h : Va n2 W u v B st) : B < W.heap.size := by
  obtain ⟨e1, e2, a, b, c, d, e, hk, h1, h2⟩ := h
  exact hk.lt
theorem Va.new (W : World) (h : n2 ≤ W.heap.size) (u : Value) : Va n2 (W.alloc (.cells #[.slice none 0 0, .slice none 0 0, .slice none 0 0, .int .i64 0, .int .i64 0] 26)) u (.pointer (some ⟨W.heap.size, 0, none⟩)) W.heap.size false :=
  ⟨rfl, h, _, _, _, _, _, Blk.mk W 26 #[.slice none 0 0, .slice none 0 0, .slice none 0 0, .int .i64 0, .int .i64 0], (fun h => by cases h), fun _ => rfl⟩
theorem RF.s0 (h : RF n2 sch cts kds As Ac Ak ns cs nc cc nk ck lim rnd b u7 u8 u35 u36 u37 u38 l1 h1 l3 h3 B7 B8 W) : RF n2 sch cts kds As Ac Ak ns cs nc cc nk ck lim rnd (fun j => if j = 0 then true else b j) u7 u8 (.agg #[.slice As ns cs, .slice Ac nc cc, .slice Ak nk ck, .int .i64 lim, .int .i64 rnd]) u36 u37 u38 l1 h1 l3 h3 B7 B8 W :=
  ⟨fun _ => rfl, h.f1, h.f2, h.f3, h.f13, h.f4, h.f5, h.f45, h.f6, h.f7⟩
theorem RF.s2 (h : RF n2 sch cts kds As Ac Ak ns cs nc cc nk ck lim rnd b u7 u8 u35 u36 u37 u38 l1 h1 l3 h3 B7 B8 W) : RF n2 sch cts kds As Ac Ak ns cs nc cc nk ck lim rnd (fun j => if j = 2 then true else b j) u7 u8 u35 u36 (.agg #[.slice As ns cs, .slice Ac nc cc, .slice Ak nk ck, .int .i64 lim, .int .i64 rnd]) u38 l1 h1 l3 h3 B7 B8 W :=
  ⟨h.f0, h.f1, fun _ => rfl, h.f3, h.f13, h.f4, h.f5, h.f45, h.f6, h.f7⟩
theorem no_st {c : Bool} {p : Prop} (hb : b 1 = false) (h : c = true → p ∧ b 1 = true) : c = false := by
  cases c
  · rfl
  · have := (h rfl).2; rw [hb] at this; cases this
theorem RF.s1 (h : RF n2 sch cts kds As Ac Ak ns cs nc cc nk ck lim rnd b u7 u8 u35 u36 u37 u38 l1 h1 l3 h3 B7 B8 W) (hb1 : b 1 = false) (hn : n2 ≤ W.heap.size) {e : Ending} {u : Value} (he : e = .returned u) (hc : CloneR sch cts kds ns nc nk lim rnd W e W') : RF n2 sch cts kds As Ac Ak ns cs nc cc nk ck lim rnd (fun j => if j = 1 then true else b j) u7 u8 u35 u u37 u38 W.heap.size W'.heap.size l3 h3 B7 B8 W' := by
  obtain ⟨⟨Ds, es, Dc, ec, Dk, ek, he2, ho⟩, hb⟩ := hc
  rw [he] at he2
  injection he2 with he2
  subst he2
  have h6 : b 6 = false := no_st hb1 h.f6
  refine ⟨h.f0, fun _ => ⟨Ds, es, Dc, ec, Dk, ek, rfl, ho.c_, hn, Nat.le_refl _⟩, h.f2, fun h3 => (h.f3 h3).below hb, fun _ h3 => ?_, fun h4 => ?_, fun h5 => (h.f5 h5).below hb, h.f45, fun hh => ?_, h.f7⟩
  · obtain ⟨_, _, _, _, _, _, _, _, _, g2⟩ := h.f3 h3
    exact Or.inr g2
  · have := (h.f4 h4).below hb
    obtain ⟨e1, e2, a, b', c, d, e, hk, hx1, hx2⟩ := this
    refine ⟨e1, e2, a, b', c, d, e, hk, fun hh => ?_, hx2⟩
    have : b 6 = true := hh
    rw [h6] at this; cases this
  · have : b 6 = true := hh
    rw [h6] at this; cases this
theorem RF.s3 (h : RF n2 sch cts kds As Ac Ak ns cs nc cc nk ck lim rnd b u7 u8 u35 u36 u37 u38 l1 h1 l3 h3 B7 B8 W) (hb3 : b 3 = false) (hn : n2 ≤ W.heap.size) {e : Ending} {u : Value} (he : e = .returned u) (hc : CloneR sch cts kds ns nc nk lim rnd W e W') : RF n2 sch cts kds As Ac Ak ns cs nc cc nk ck lim rnd (fun j => if j = 3 then true else b j) u7 u8 u35 u36 u37 u l1 h1 W.heap.size W'.heap.size B7 B8 W' := by
  obtain ⟨⟨Ds, es, Dc, ec, Dk, ek, he2, ho⟩, hb⟩ := hc
  rw [he] at he2
  injection he2 with he2
  subst he2
  have h7 : b 7 = false := by
    cases h7 : b 7
    · rfl
    · have := (h.f7 h7).2; rw [hb3] at this; cases this
  refine ⟨h.f0, fun h1 => (h.f1 h1).below hb, h.f2, fun _ => ⟨Ds, es, Dc, ec, Dk, ek, rfl, ho.c_, hn, Nat.le_refl _⟩, fun h1 _ => ?_, fun h4 => (h.f4 h4).below hb, fun h5 => ?_, h.f45, h.f6, fun hh => ?_⟩
  · obtain ⟨_, _, _, _, _, _, _, _, _, g2⟩ := h.f1 h1
    exact Or.inl g2
  · have := (h.f5 h5).below hb
    obtain ⟨e1, e2, a, b', c, d, e, hk, hx1, hx2⟩ := this
    refine ⟨e1, e2, a, b', c, d, e, hk, fun hh => ?_, hx2⟩
    have : b 7 = true := hh
    rw [h7] at this; cases this
  · have : b 7 = true := hh
    rw [h7] at this; cases this
theorem RF.s4 (h : RF n2 sch cts kds As Ac Ak ns cs nc cc nk ck lim rnd b u7 u8 u35 u36 u37 u38 l1 h1 l3 h3 B7 B8 W) (hb4 : b 4 = false) (hn : n2 ≤ W.heap.size) : RF n2 sch cts kds As Ac Ak ns cs nc cc nk ck lim rnd (fun j => if j = 4 then true else b j) (.pointer (some ⟨W.heap.size, 0, none⟩)) u8 u35 u36 u37 u38 l1 h1 l3 h3 W.heap.size B8 (W.alloc (.cells #[.slice none 0 0, .slice none 0 0, .slice none 0 0, .int .i64 0, .int .i64 0] 26)) := by
  have hb := below1 W (.cells #[.slice none 0 0, .slice none 0 0, .slice none 0 0, .int .i64 0, .int .i64 0] 26)
  have h6 : b 6 = false := by
    cases h6 : b 6
    · rfl
    · have := (h.f6 h6).1; rw [hb4] at this; cases this
  refine ⟨h.f0, fun h1 => (h.f1 h1).below hb, h.f2, fun h3 => (h.f3 h3).below hb, h.f13, fun _ => ?_, fun h5 => (h.f5 h5).below hb, fun _ h5 => ?_, fun hh => ?_, h.f7⟩
  · show Va n2 _ u36 _ _ (b 6)
    rw [h6]; exact Va.new W hn u36
  · have := (h.f5 h5).lt; omega
  · have : b 6 = true := hh
    rw [h6] at this; cases this
theorem RF.s5 (h : RF n2 sch cts kds As Ac Ak ns cs nc cc nk ck lim rnd b u7 u8 u35 u36 u37 u38 l1 h1 l3 h3 B7 B8 W) (hb5 : b 5 = false) (hn : n2 ≤ W.heap.size) : RF n2 sch cts kds As Ac Ak ns cs nc cc nk ck lim rnd (fun j => if j = 5 then true else b j) u7 (.pointer (some ⟨W.heap.size, 0, none⟩)) u35 u36 u37 u38 l1 h1 l3 h3 B7 W.heap.size (W.alloc (.cells #[.slice none 0 0, .slice none 0 0, .slice none 0 0, .int .i64 0, .int .i64 0] 26)) := by
  have hb := below1 W (.cells #[.slice none 0 0, .slice none 0 0, .slice none 0 0, .int .i64 0, .int .i64 0] 26)
  have h7 : b 7 = false := by
    cases h7 : b 7
    · rfl
    · have := (h.f7 h7).1; rw [hb5] at this; cases this
  refine ⟨h.f0, fun h1 => (h.f1 h1).below hb, h.f2, fun h3 => (h.f3 h3).below hb, h.f13, fun h4 => (h.f4 h4).below hb, fun _ => ?_, fun h4 _ => ?_, h.f6, fun hh => ?_⟩
  · show Va n2 _ u38 _ _ (b 7)
    rw [h7]; exact Va.new W hn u38
  · have := (h.f4 h4).lt; omega
  · have : b 7 = true := hh
    rw [h7] at this; cases this
theorem RF.s6 (h : RF n2 sch cts kds As Ac Ak ns cs nc cc nk ck lim rnd b u7 u8 u35 u36 u37 u38 l1 h1 l3 h3 B7 B8 W) (q4 : b 4 = true) (q1 : b 1 = true) {a b' c d e : Value} (hu : u36 = .agg #[a, b', c, d, e]) : RF n2 sch cts kds As Ac Ak ns cs nc cc nk ck lim rnd (fun j => if j = 6 then true else b j) u7 u8 u35 u36 u37 u38 l1 h1 l3 h3 B7 B8 (put5 W B7 a b' c d e) := by
  obtain ⟨e1, e2, x0, x1, x2, x3, x4, hk, _, _⟩ := h.f4 q4
  exact ⟨h.f0, fun hh => (h.f1 hh).five hk, h.f2, fun hh => (h.f3 hh).five hk, h.f13, fun _ => ⟨e1, e2, _, _, _, _, _, hk.five, fun _ => hu, (fun hh => by cases hh)⟩, fun q5 => (h.f5 q5).five (Ne.symm (h.f45 q4 q5)), h.f45, fun _ => ⟨q4, q1⟩, h.f7⟩
theorem RF.s7 (h : RF n2 sch cts kds As Ac Ak ns cs nc cc nk ck lim rnd b u7 u8 u35 u36 u37 u38 l1 h1 l3 h3 B7 B8 W) (q5 : b 5 = true) (q3 : b 3 = true) {a b' c d e : Value} (hu : u38 = .agg #[a, b', c, d, e]) : RF n2 sch cts kds As Ac Ak ns cs nc cc nk ck lim rnd (fun j => if j = 7 then true else b j) u7 u8 u35 u36 u37 u38 l1 h1 l3 h3 B7 B8 (put5 W B8 a b' c d e) := by
  obtain ⟨e1, e2, x0, x1, x2, x3, x4, hk, _, _⟩ := h.f5 q5
  exact ⟨h.f0, fun hh => (h.f1 hh).five hk, h.f2, fun hh => (h.f3 hh).five hk, h.f13, fun q4 => (h.f4 q4).five (h.f45 q4 q5), fun _ => ⟨e1, e2, _, _, _, _, _, hk.five, fun _ => hu, (fun hh => by cases hh)⟩, h.f45, h.f6, fun _ => ⟨q5, q3⟩⟩
theorem RF.start : RF n2 sch cts kds As Ac Ak ns cs nc cc nk ck lim rnd (fun _ => false) u7 u8 u35 u36 u37 u38 l1 h1 l3 h3 B7 B8 W := by
  constructor <;> (intro h; cases h)
end
def RJ (w2 : World) (sch : List (List Bd)) (cts : List Ct) (kds : List Kd) (As Ac Ak : Option Addr) (ns cs nc cc nk ck : Nat) (lim rnd : Int) (a0 : Act) (b : Nat → Bool) (a : Act) (W : World) : Prop :=
  ∃ u7 u8 u35 u36 u37 u38 l1 h1 l3 h3 B7 B8, a = ⟨(((((a0.tmps.setIfInBounds 7 u7).setIfInBounds 8 u8).setIfInBounds 35 u35).setIfInBounds 36 u36).setIfInBounds 37 u37).setIfInBounds 38 u38, a0.defers⟩ ∧ Hid (Below w2.heap.size w2 W) ∧ Hid (RF w2.heap.size sch cts kds As Ac Ak ns cs nc cc nk ck lim rnd b u7 u8 u35 u36 u37 u38 l1 h1 l3 h3 B7 B8 W)
--%%
set_option maxRecDepth 100000 in
set_option maxHeartbeats 6400000 in
theorem tableOwn_row (sch : List (List Bd)) (cts : List Ct) (kds : List Kd) (As Ac Ak : Option Addr) (ns cs nc cc nk ck : Nat) (lim rnd : Int) (nm : ByteArray) (w : World) (h : TbIn w sch cts kds As Ac Ak ns cs nc cc nk ck) (hnm : nm.size ≤ 9223372036854775807) (htab : Tab w) (htab2 : TabS w) (hml : ML w) :
    Calls Tryz.prog 9 #[.agg #[.slice As ns cs, .slice Ac nc cc, .slice Ak nk ck, .int .i64 lim, .int .i64 rnd], .string nm] w fun e w' => e = .returned (.bool true) ∧ Below w.heap.size w w' := by
  have hb0 := below1 w (.cells #[.slice As ns cs, .slice Ac nc cc, .slice Ak nk ck, .int .i64 lim, .int .i64 rnd] 26)
  have HB0 := Lib.hid hb0
  have HZ := Lib.hid (Blk.mk w 26 #[.slice As ns cs, .slice Ac nc cc, .slice Ak nk ck, .int .i64 lim, .int .i64 rnd])
  have HH := Lib.hid h
  have KB := Lib.hid (builds_c _ (hml.t hb0) (htab2.t hb0) (htab.t hb0))
  have KS : Hid (∀ W, Below w.heap.size w W → Calls Tryz.prog 12 #[.agg #[.slice As ns cs, .slice Ac nc cc, .slice Ak nk ck, .int .i64 lim, .int .i64 rnd]] W (SmallR sch cts kds W)) := fun W hW => small_c sch cts kds As Ac Ak ns cs nc cc nk ck lim rnd W (h.s.below hW) (h.c.below hW) (h.k.below hW)
  clear hb0 h htab htab2 hml
  go_enter Tryz.func9, Tryz.ntmps9
  go_wp2_with fail
  refine KB.out.mono ?_
  rintro e w1 ⟨⟨Bs, ds, Bc, dc, Bk, dk, rfl, _⟩, hb1⟩
  simp only [tbV]
  have HB1 := Lib.hid (bA (bT HB0.out hb1) (.cells #[.slice Bs 1 ds, .slice Bc 1 dc, .slice Bk 2 dk, .int .i64 5000, .int .i64 1] 26))
  have HZ1 := Lib.hid ((HZ.out.t hb1).alloc (.cells #[.slice Bs 1 ds, .slice Bc 1 dc, .slice Bk 2 dk, .int .i64 5000, .int .i64 1] 26))
  obtain ⟨p0, p1, p2, p3, p4⟩ := HZ1.out.all5
  clear KB HZ hb1
  go_wp2_with fail
  refine (KS.out _ HB1.out).mono ?_
  rintro e w2 ⟨b, ⟨rfl, hsm⟩, hb2⟩
  have HSM := Lib.hid hsm
  have HB2 := Lib.hid (bT HB1.out hb2)
  have HZ2 := Lib.hid (HZ1.out.t hb2)
  clear hb2 p0 p1 p2 p3 p4 KS hsm
  cases b
  · go_wp2_with fail
    go_ret
    exact ⟨rfl, HB2.out⟩
  by_cases h40 : 100 < nm.size
  · have v : decide ((100 : Int) < (nm.size : Int)) = true := by simp; omega
    clear h40
    go_wp2_with fail
    go_ret
    exact ⟨rfl, HB2.out⟩
  have v : decide ((100 : Int) < (nm.size : Int)) = false := by simp; omega
  have hsm := HSM.out (by first | trivial | rfl)
  have KClone : Hid (∀ W, Below w2.heap.size w2 W → Calls Tryz.prog 25 #[.agg #[.slice As ns cs, .slice Ac nc cc, .slice Ak nk ck, .int .i64 lim, .int .i64 rnd]] W (CloneR sch cts kds ns nc nk lim rnd W)) := fun W hW => by
    have h := HH.out
    have hb := bT HB2.out hW
    have e1 := h.s.1
    have e2 := h.c.1
    have e3 := h.k.1
    have g1 := hsm.s
    have g2 := hsm.c
    have g3 := hsm.k
    exact tclone_c sch cts kds As Ac Ak ns cs nc cc nk ck lim rnd W (h.s.below hb) (h.c.below hb) (h.k.below hb) ⟨by omega, by omega, by omega⟩ ⟨fun j hj => by have := hsm.sl j (by omega); omega, fun j hj => by have := (hsm.cl j (by omega)).1; omega⟩
  have G : Hid (∀ W, Below w2.heap.size w2 W → Below w2.heap.size w2 W ∧ (W.cell? ⟨w.heap.size, 0, none⟩ = some (.slice As ns cs) ∧ W.cell? ⟨w.heap.size, 1, none⟩ = some (.slice Ac nc cc) ∧ W.cell? ⟨w.heap.size, 2, none⟩ = some (.slice Ak nk ck) ∧ W.cell? ⟨w.heap.size, 3, none⟩ = some (.int .i64 lim) ∧ W.cell? ⟨w.heap.size, 4, none⟩ = some (.int .i64 rnd))) := fun W hW => ⟨hW, (HZ2.out.t hW).all5⟩
  clear HSM h40
  go_wp2_with fail
  refine wp_region_invA (by kernel_rfl) (RJ w2 sch cts kds As Ac Ak ns cs nc cc nk ck lim rnd) (by kernel_rfl) ?h0 ?step ?done
  case h0 => exact ⟨_, _, _, _, _, _, 0, 0, 0, 0, 0, 0, rfl, Lib.hid (b0 _).drew, Lib.hid RF.start⟩
  case step =>
    --<<
    rintro b a W ⟨u7, u8, u35, u36, u37, u38, l1, h1, l3, h3, B7, B8, rfl, HB, HF⟩ i o ho hbi hpre K hK
    simp only [List.setIfInBounds_toArray, List.set_cons_zero, List.set_cons_succ]
    have HK := Lib.hid hK
    have HP := Lib.hid hpre
    have HBI := Lib.hid hbi
    obtain ⟨p0, p1, p2, p3, p4⟩ := (HZ2.out.t HB.out).all5
    clear hK hpre hbi
    rcases i with _ | _ | _ | _ | _ | _ | _ | _ | i
    · injection ho with ho; subst ho
      go_simp
      exact HK.out _ _ ⟨u7, u8, _, u36, u37, u38, l1, h1, l3, h3, B7, B8, rfl, HB, Lib.hid HF.out.s0⟩
    · injection ho with ho; subst ho
      have q0 : b 0 = true := HP.out ⟨0, .data⟩ (by simp) rfl
      have e0 := HF.out.f0 q0
      subst e0
      clear q0
      go_simp
      go_at_call 25
      refine (KClone.out _ HB.out).mono ?_
      intro e W' hc
      have HC := Lib.hid hc
      obtain ⟨⟨Ds, es, Dc, ec, Dk, ek, rfl, _⟩, hb⟩ := hc
      exact HK.out _ _ ⟨u7, u8, _, _, u37, u38, _, _, l3, h3, B7, B8, rfl, Lib.hid (bT HB.out hb), Lib.hid (HF.out.s1 HBI.out HB.out.size rfl HC.out)⟩
    · injection ho with ho; subst ho
      go_simp
      exact HK.out _ _ ⟨u7, u8, u35, u36, _, u38, l1, h1, l3, h3, B7, B8, rfl, HB, Lib.hid HF.out.s2⟩
    · injection ho with ho; subst ho
      have q0 : b 2 = true := HP.out ⟨2, .data⟩ (by simp) rfl
      have e0 := HF.out.f2 q0
      subst e0
      clear q0
      go_simp
      go_at_call 25
      refine (KClone.out _ HB.out).mono ?_
      intro e W' hc
      have HC := Lib.hid hc
      obtain ⟨⟨Ds, es, Dc, ec, Dk, ek, rfl, _⟩, hb⟩ := hc
      exact HK.out _ _ ⟨u7, u8, u35, u36, _, _, l1, h1, _, _, B7, B8, rfl, Lib.hid (bT HB.out hb), Lib.hid (HF.out.s3 HBI.out HB.out.size rfl HC.out)⟩
    · injection ho with ho; subst ho
      go_simp
      exact HK.out _ _ ⟨_, u8, u35, u36, u37, u38, l1, h1, l3, h3, _, B8, rfl, Lib.hid (bA HB.out _), Lib.hid (HF.out.s4 HBI.out HB.out.size)⟩
    · injection ho with ho; subst ho
      go_simp
      exact HK.out _ _ ⟨u7, _, u35, u36, u37, u38, l1, h1, l3, h3, B7, _, rfl, Lib.hid (bA HB.out _), Lib.hid (HF.out.s5 HBI.out HB.out.size)⟩
    · injection ho with ho; subst ho
      have q4 : b 4 = true := HP.out ⟨4, .data⟩ (by simp) rfl
      have q1 : b 1 = true := HP.out ⟨1, .data⟩ (by simp) rfl
      have HQ := Lib.hid (And.intro q4 q1)
      have v4 := HF.out.f4 q4
      obtain ⟨rfl, hg, x0, x1, x2, x3, x4, hk, _, _⟩ := v4
      obtain ⟨y0, y1, y2, y3, y4, y5, rfl, _, _, _⟩ := HF.out.f1 q1
      have HG := Lib.hid hg
      obtain ⟨c0, c1, c2, c3, c4⟩ := hk.all5
      have f0 := hk.free 0
      have f1 := hk.free 1
      have f2 := hk.free 2
      have f3 := hk.free 3
      have f4 := hk.free 4
      clear p0 p1 p2 p3 p4 q4 q1 hg hk
      go_simp
      exact HK.out _ _ ⟨_, u8, u35, _, u37, u38, l1, h1, l3, h3, B7, B8, rfl, Lib.hid (bS5 HB.out HG.out), Lib.hid (HF.out.s6 HQ.out.1 HQ.out.2 rfl)⟩
    · injection ho with ho; subst ho
      have q5 : b 5 = true := HP.out ⟨5, .data⟩ (by simp) rfl
      have q3 : b 3 = true := HP.out ⟨3, .data⟩ (by simp) rfl
      have HQ := Lib.hid (And.intro q5 q3)
      have v5 := HF.out.f5 q5
      obtain ⟨rfl, hg, x0, x1, x2, x3, x4, hk, _, _⟩ := v5
      obtain ⟨y0, y1, y2, y3, y4, y5, rfl, _, _, _⟩ := HF.out.f3 q3
      have HG := Lib.hid hg
      obtain ⟨c0, c1, c2, c3, c4⟩ := hk.all5
      have f0 := hk.free 0
      have f1 := hk.free 1
      have f2 := hk.free 2
      have f3 := hk.free 3
      have f4 := hk.free 4
      clear p0 p1 p2 p3 p4 q5 q3 hg hk
      go_simp
      exact HK.out _ _ ⟨u7, _, u35, u36, u37, _, l1, h1, l3, h3, B7, B8, rfl, Lib.hid (bS5 HB.out HG.out), Lib.hid (HF.out.s7 HQ.out.1 HQ.out.2 rfl)⟩
    · cases ho
    -->>
  case done =>
    rintro b a W ⟨u7, u8, u35, u36, u37, u38, l1, h1, l3, h3, B7, B8, rfl, HB, HF⟩ hall
    have q1 := hall 1 (by simp)
    have q3 := hall 3 (by simp)
    have q4 := hall 4 (by simp)
    have q5 := hall 5 (by simp)
    have q6 := hall 6 (by simp)
    have q7 := hall 7 (by simp)
    clear hall
    have HFO := HF.out
    obtain ⟨Xs, xs, Xc, xc, Xk, xk, rfl, oa, hl1, hh1⟩ := HFO.f1 q1
    obtain ⟨Bs, ds, Bc, dc, Bk, dk, rfl, ob, hl3, hh3⟩ := HFO.f3 q3
    obtain ⟨rfl, hg7, x0, x1, x2, x3, x4, hk7, he7, z7⟩ := HFO.f4 q4
    have e7 := he7 q6
    injection e7 with e7
    rw [← e7] at hk7
    obtain ⟨rfl, hg8, y0, y1, y2, y3, y4, hk8, he8, z8⟩ := HFO.f5 q5
    have e8 := he8 q7
    injection e8 with e8
    rw [← e8] at hk8
    have HL : Hid (LI w2 sch cts kds l1 h1 l3 h3 B7 B8 Xs Xc Xk Bs Bc Bk ns xs nc xc nk xk ds dc dk lim rnd W) := Lib.hid ⟨oa.a, ob, hk7, hk8, HFO.f13 q1 q3, hl1, HB.out⟩
    simp only [List.setIfInBounds_toArray, List.set_cons_zero, List.set_cons_succ]
    clear HFO HF q1 q3 q4 q5 q6 q7 oa ob hl1 hh1 hl3 hh3 hg7 hg8 hk7 hk8 he7 he8 e7 e8 z7 z8 x0 x1 x2 x3 x4 y0 y1 y2 y3 y4 KClone G HB
    obtain ⟨p0, p1, p2, p3, p4⟩ := HL.out.k7.all5
    simp only [Exit.then]
    have hns : ns ≤ 1000 := by have := hsm.s; have := HH.out.s.1; omega
    have hnc : nc ≤ 1000 := by have := hsm.c; have := HH.out.c.1; omega
    have hnk : nk ≤ 1000 := by have := hsm.k; have := HH.out.k.1; omega
    clear hsm
    go_wp2_with fail
    clear p0 p1 p2 p3 p4
    go_loopw [42] (fun i wr => ∃ k : Nat, k ≤ ns ∧ i = .int .i64 k ∧ Hid (LI w2 sch cts kds l1 h1 l3 h3 B7 B8 Xs Xc Xk Bs Bc Bk ns xs nc xc nk xk ds dc dk lim rnd wr)) (fun i _ => ns - (intOf i).toNat)
    case atStart => exact ⟨0, Nat.zero_le _, rfl, HL⟩
    case round =>
      obtain ⟨k, hk', rfl, HLr⟩ := hrel
      obtain ⟨wo, rfl⟩ : ∃ wo : World, wo = wr := ⟨_, rfl⟩
      obtain ⟨p0, p1, p2, p3, p4⟩ := HLr.out.k7.all5
      by_cases hk : k < ns
      case pos =>
        obtain ⟨g, A, m, c, rfl, ⟨hmc, hm⟩, hcs, HIS⟩ := HLr.out.scr k hk
        have HI := Lib.hid HIS
        have c0 := HI.out.cell
        clear HIS
        go_wp2_with fail
        clear c0 p0 p1 p2 p3 p4
        go_loopw [51] (fun i wr => ∃ j : Nat, j ≤ m ∧ i = .int .i64 j ∧ Hid (IS w2 sch cts kds l1 h1 l3 h3 B7 B8 (some ⟨g, 0, none⟩) Xc Xk Bs Bc Bk ns xs nc xc nk xk ds dc dk lim rnd 35 k g A m c wr)) (fun i _ => m - (intOf i).toNat)
        case atStart => exact ⟨0, Nat.zero_le _, rfl, HI⟩
        case round =>
          obtain ⟨j, hj', rfl, HIr⟩ := hrel
          obtain ⟨p0, p1, p2, p3, p4⟩ := HIr.out.li.k7.all5
          have c0 := HIr.out.cell
          by_cases hj : j < m
          case pos =>
            obtain ⟨g2, rfl, ⟨u, hu⟩, hf, HN⟩ := HIr.out.step (by decide) j 1 hj (by decide) (.int .i64 (-7))
            have HNN := Lib.hid HN
            clear HN
            go_wp2_with fail
            go_roundw
            case rel => exact ⟨j + 1, by omega, by go_num, HNN⟩
            case measure => simp [intOf]; omega
          obtain rfl : m = j := by omega
          go_wp2_with fail
          go_roundw
          case rel => exact ⟨k + 1, by omega, by go_num, Lib.hid HIr.out.li⟩
          case measure => simp [intOf]; omega
      obtain rfl : ns = k := by omega
      clear HL hk hk'
      go_wp2_with fail
      clear p0 p1 p2 p3 p4
      go_loopw [67] (fun i wr => ∃ k : Nat, k ≤ nc ∧ i = .int .i64 k ∧ Hid (LI w2 sch cts kds l1 h1 l3 h3 B7 B8 Xs Xc Xk Bs Bc Bk ns xs nc xc nk xk ds dc dk lim rnd wr)) (fun i _ => nc - (intOf i).toNat)
      case atStart => exact ⟨0, Nat.zero_le _, rfl, HLr⟩
      case round =>
        clear HLr
        obtain ⟨k, hk', rfl, HLr⟩ := hrel
        obtain ⟨wo, rfl⟩ : ∃ wo : World, wo = wr := ⟨_, rfl⟩
        obtain ⟨p0, p1, p2, p3, p4⟩ := HLr.out.k7.all5
        by_cases hk : k < nc
        case pos =>
          obtain ⟨g, A, m, c, rfl, ⟨hmc, hm⟩, hcs, ⟨u0, hu0⟩, hf0, c0, HIS⟩ := HLr.out.nm2 k hk ⟨#[63]⟩
          have HI := Lib.hid HIS
          obtain ⟨r0, r1, r2, r3, r4⟩ := HI.out.li.k7.all5
          clear HIS
          go_wp2_with fail
          clear c0 p0 p1 p2 p3 p4 r0 r1 r2 r3 r4 hu0 hf0
          go_loopw [82] (fun i wr => ∃ j : Nat, j ≤ m ∧ i = .int .i64 j ∧ Hid (IS w2 sch cts kds l1 h1 l3 h3 B7 B8 Xs (some ⟨g, 0, none⟩) Xk Bs Bc Bk ns xs nc xc nk xk ds dc dk lim rnd 37 (k * 6 + 2) g A m c wr)) (fun i _ => m - (intOf i).toNat)
          case atStart => exact ⟨0, Nat.zero_le _, rfl, HI⟩
          case round =>
            obtain ⟨j, hj', rfl, HIr⟩ := hrel
            obtain ⟨p0, p1, p2, p3, p4⟩ := HIr.out.li.k7.all5
            have c0 := HIr.out.cell
            by_cases hj : j < m
            case pos =>
              obtain ⟨g2, rfl, ⟨u, hu⟩, hf, HN⟩ := HIr.out.step (by decide) j 0 hj (by decide) (.int .i64 (-9))
              have HNN := Lib.hid HN
              simp only [Nat.add_zero] at hu hf
              clear HN
              go_wp2_with fail
              go_roundw
              case rel => exact ⟨j + 1, by omega, by go_num, HNN⟩
              case measure => simp [intOf]; omega
            obtain rfl : m = j := by omega
            go_wp2_with fail
            go_roundw
            case rel => exact ⟨k + 1, by omega, by go_num, Lib.hid HIr.out.li⟩
            case measure => simp [intOf]; omega
        obtain rfl : nc = k := by omega
        clear hk hk'
        go_wp2_with fail
        clear p0 p1 p2 p3 p4
        go_loopw [99] (fun i wr => ∃ k : Nat, k ≤ nk ∧ i = .int .i64 k ∧ Hid (LI w2 sch cts kds l1 h1 l3 h3 B7 B8 Xs Xc Xk Bs Bc Bk ns xs nc xc nk xk ds dc dk lim rnd wr)) (fun i _ => nk - (intOf i).toNat)
        case atStart => exact ⟨0, Nat.zero_le _, rfl, HLr⟩
        case round =>
          clear HLr
          obtain ⟨k, hk', rfl, HLr⟩ := hrel
          obtain ⟨p0, p1, p2, p3, p4⟩ := HLr.out.k7.all5
          by_cases hk : k < nk
          case pos =>
            obtain ⟨g, rfl, hcs, ⟨u0, hu0⟩, hf0, HN⟩ := HLr.out.kdr k hk (.int .i64 9)
            have HNN := Lib.hid HN
            clear HN
            go_wp2_with fail
            go_roundw
            case rel => exact ⟨k + 1, by omega, by go_num, HNN⟩
            case measure => simp [intOf]; omega
          obtain rfl : nk = k := by omega
          clear hk hk' p0 p1 p2 p3 p4
          have HBW := Lib.hid HLr.out.b
          obtain ⟨p0, p1, p2, p3, p4⟩ := HLr.out.k8.all5
          obtain ⟨q0, q1, q2, q3, q4⟩ := (HZ2.out.t HBW.out).all5
          have KSM : Hid (Calls Tryz.prog 24 #[.agg #[.slice Bs ns ds, .slice Bc nc dc, .slice Bk nk dk, .int .i64 lim, .int .i64 rnd], .agg #[.slice As ns cs, .slice Ac nc cc, .slice Ak nk ck, .int .i64 lim, .int .i64 rnd]] wr (SameR ((⟨sch, cts, kds, lim, rnd⟩ : Tb) = ⟨sch, cts, kds, lim, rnd⟩) wr)) := by
            have hv := HLr.out.c.t.view
            have hb := bT HB2.out HBW.out
            exact tsame_p sch sch cts cts kds kds lim rnd lim rnd Bs Bc Bk As Ac Ak ns ds nc dc nk dk ns cs nc cc nk ck wr hv.s hv.c hv.k (HH.out.s.below hb) (HH.out.c.below hb) (HH.out.k.below hb)
          go_wp2_with fail
          refine KSM.out.mono ?_
          rintro e w5 ⟨r, ⟨rfl, hr⟩, hb5⟩
          obtain rfl : r = true := hr.2 (by first | exact rfl | trivial)
          have HB5 := Lib.hid (bT HBW.out hb5)
          obtain ⟨s0, s1, s2, s3, s4⟩ := (HZ2.out.t HB5.out).all5
          have HC5 := Lib.hid (HH.out.c.below (bT HB2.out HB5.out))
          have HK5 := Lib.hid (HH.out.k.below (bT HB2.out HB5.out))
          have HNC : Hid (nc = cts.length) := HH.out.c.1
          have HNK : Hid (nk = kds.length) := HH.out.k.1
          have hcc := HH.out.cc
          have hck := HH.out.ck
          clear hr hb5 p0 p1 p2 p3 p4 q0 q1 q2 q3 q4 KSM HLr HBW
          go_wp2_with fail
          go_loop [14, 15] (fun f i => ∃ (k : Nat) (z v : Int), k ≤ nc ∧ i = .int .i64 z ∧ Hid (z = (k : Int) - 1) ∧ f = .int .i64 v ∧ Hid (v = fX cts nm k)) (fun _ i => (intOf i + 1).toNat)
          case atStart => exact ⟨nc, _, _, Nat.le_refl _, rfl, Lib.hid rfl, rfl, Lib.hid (by rw [HNC.out, fX_end])⟩
          case round =>
            obtain ⟨k, z, v, hk, rfl, HZK, rfl, HVK⟩ := hrel
            rcases k with _ | k
            case succ =>
              obtain rfl : z = (k : Int) := by have := HZK.out; omega
              obtain ⟨b, off, hA, hlt, hat⟩ := HC5.out.2.2 (by omega)
              obtain ⟨c0, _⟩ := hat k (by omega)
              subst hA
              have HY : Hid ((cts.getD k ct0).nm = nm → (k : Int) = fX cts nm k) := fun h => (fX_yes (by have := HNC.out; omega) h).symm
              have HN : Hid ((cts.getD k ct0).nm ≠ nm → v = fX cts nm k) := fun h => HVK.out.trans (fX_no (by have := HNC.out; omega) h).symm
              clear hat HVK HZK
              generalize (cts.getD k ct0).nm = x at *
              by_cases hy : x = nm
              case pos =>
                have v1 : (x.toList == nm.toList) = true := by rw [hy]; simp
                have HE := Lib.hid (HY.out hy)
                clear hy HY HN
                go_wp2_with fail
                go_round
                case rel => exact ⟨k, (k : Int) - 1, _, by omega, rfl, Lib.hid rfl, rfl, HE⟩
                case measure => simp [intOf]
              case neg =>
                have v1 := str_neqk hy
                have HE := Lib.hid (HN.out hy)
                clear hy HY HN
                go_wp2_with fail
                go_round
                case rel => exact ⟨k, (k : Int) - 1, _, by omega, rfl, Lib.hid rfl, rfl, HE⟩
                case measure => simp [intOf]
            obtain rfl : z = -1 := by have := HZK.out; omega
            have HV0 : Hid (v = nmX Ct.nm cts nm) := HVK.out.trans fX_zero
            have HZ6 := Lib.hid ((HZ2.out.t HB5.out).alloc (.cells #[.string ⟨#[]⟩, .int .i64 0, .int .i64 0, .int .i64 0] 60))
            have HB6 := Lib.hid (below1 w5 (.cells #[.string ⟨#[]⟩, .int .i64 0, .int .i64 0, .int .i64 0] 60))
            have HK6 := Lib.hid (Blk.mk w5 60 #[.string ⟨#[]⟩, .int .i64 0, .int .i64 0, .int .i64 0])
            obtain ⟨z0, z1, z2, z3, z4⟩ := HZ6.out.all5
            clear HVK HZK hk
            go_wp2_with fail
            clear z0 z1 z2 z3 z4 s0 s1 s2 s3 s4
            go_loopw [17, 18] (fun f i wr => ∃ (k : Nat) (z v : Int) (x : Kd), k ≤ nk ∧ i = .int .i64 z ∧ Hid (z = (k : Int) - 1) ∧ f = .int .i64 v ∧ Hid (x = kdX (kds.drop k) nm ∧ v = kdE (kds.drop k) nm) ∧ Hid (Below w5.heap.size w5 wr) ∧ Hid (Blk wr w5.heap.size 60 #[.string x.nm, .int .i64 x.c, .int .i64 x.t, .int .i64 x.s])) (fun _ i _ => (intOf i + 1).toNat)
            case atStart => exact ⟨nk, _, _, kd0, Nat.le_refl _, rfl, Lib.hid rfl, rfl, Lib.hid (by rw [HNK.out, kdx_end.1, kdx_end.2]; exact ⟨rfl, rfl⟩), HB6, HK6⟩
            case round =>
              obtain ⟨k, z, v2, x, hk, rfl, HZK, rfl, HVK, HBr, HKr⟩ := hrel
              obtain ⟨z0, z1, z2, z3, z4⟩ := (HZ2.out.t (bT HB5.out HBr.out)).all5
              rcases k with _ | k
              case succ =>
                obtain rfl : z = (k : Int) := by have := HZK.out; omega
                obtain ⟨b, off, hA, hlt, hat⟩ := (HK5.out.below HBr.out).2.2 (by omega)
                obtain ⟨c0, hsz, c1, c2, c3⟩ := hat k (by omega)
                subst hA
                have HY : Hid ((kds.getD k kd0).nm = nm → kds.getD k kd0 = kdX (kds.drop k) nm ∧ 0 = kdE (kds.drop k) nm) := fun h => by
                  have := kdx_yes (by have := HNK.out; omega) h
                  exact ⟨this.1.symm, this.2.symm⟩
                have HN : Hid ((kds.getD k kd0).nm ≠ nm → x = kdX (kds.drop k) nm ∧ v2 = kdE (kds.drop k) nm) := fun h => by
                  have := kdx_no (by have := HNK.out; omega) h
                  exact ⟨HVK.out.1.trans this.1.symm, HVK.out.2.trans this.2.symm⟩
                clear hat HVK HZK
                generalize kds.getD k kd0 = y at *
                by_cases hy : y.nm = nm
                case pos =>
                  have v1 : (y.nm.toList == nm.toList) = true := by rw [hy]; simp
                  have HE := Lib.hid (HY.out hy)
                  have hkr := HKr.out
                  obtain ⟨⟨d0, d1, d2, d3⟩, f0, f1, f2, f3⟩ := HKr.out.a4f
                  have HB7 := Lib.hid (bS (bS (bS (bS HBr.out (p := ⟨w5.heap.size, 0, none⟩) (Nat.le_refl _) (.string y.nm)) (p := ⟨w5.heap.size, 1, none⟩) (Nat.le_refl _) (.int .i64 y.c)) (p := ⟨w5.heap.size, 2, none⟩) (Nat.le_refl _) (.int .i64 y.t)) (p := ⟨w5.heap.size, 3, none⟩) (Nat.le_refl _) (.int .i64 y.s))
                  have HK7 := Lib.hid ((((hkr.setJ 0 (.string y.nm)).setJ 1 (.int .i64 y.c)).setJ 2 (.int .i64 y.t)).setJ 3 (.int .i64 y.s))
                  clear hy HY HN hkr
                  go_wp2_with fail
                  go_roundw
                  case rel => exact ⟨k, (k : Int) - 1, 0, y, by omega, rfl, Lib.hid rfl, rfl, HE, HB7, HK7⟩
                  case measure => simp [intOf]
                case neg =>
                  have v1 := str_neqk hy
                  have HE := Lib.hid (HN.out hy)
                  clear hy HY HN
                  go_wp2_with fail
                  go_roundw
                  case rel => exact ⟨k, (k : Int) - 1, v2, x, by omega, rfl, Lib.hid rfl, rfl, HE, HBr, HKr⟩
                  case measure => simp [intOf]
              obtain rfl : z = -1 := by have := HZK.out; omega
              have HX0 : Hid (x = kdX kds nm) := Lib.hid (by have := HVK.out.1; simpa using this)
              have HX1 : Hid (v2 = kdE kds nm) := Lib.hid (by have := HVK.out.2; simpa using this)
              have KK : Hid (Calls Tryz.prog 26 #[.agg #[.slice As ns cs, .slice Ac nc cc, .slice Ak nk ck, .int .i64 lim, .int .i64 rnd], .string nm] wr fun e w' => e = .returned (.tuple #[.agg #[.string x.nm, .int .i64 x.c, .int .i64 x.t, .int .i64 x.s], .int .i64 v2]) ∧ Below wr.heap.size wr w') :=
                kind_c kds As Ac Ak ns cs nc cc nk ck lim rnd nm wr (HK5.out.below HBr.out) x v2 HX0 HX1
              clear HVK HZK hk HX0 HX1
              go_wp2_with fail
              refine KK.out.mono ?_
              rintro e w8 ⟨rfl, hb8⟩
              have HB8 := Lib.hid (bT HBr.out hb8)
              have HK8 := Lib.hid (HKr.out.t hb8)
              obtain ⟨z0, z1, z2, z3, z4⟩ := ((HZ2.out.t (bT HB5.out HB8.out)).alloc (.cells #[.string x.nm, .int .i64 x.c, .int .i64 x.t, .int .i64 x.s] 60)).all5
              have KN : Hid (Calls Tryz.prog 27 #[.agg #[.slice As ns cs, .slice Ac nc cc, .slice Ak nk ck, .int .i64 lim, .int .i64 rnd], .string nm] (w8.alloc (.cells #[.string x.nm, .int .i64 x.c, .int .i64 x.t, .int .i64 x.s] 60)) fun e w' => e = .returned (.int .i64 v) ∧ Below (w8.alloc (.cells #[.string x.nm, .int .i64 x.c, .int .i64 x.t, .int .i64 x.s] 60)).heap.size (w8.alloc (.cells #[.string x.nm, .int .i64 x.c, .int .i64 x.t, .int .i64 x.s] 60)) w') :=
                tcontribX_c cts As Ac Ak ns cs nc cc nk ck lim rnd nm _ (HC5.out.below (bA HB8.out _)) v HV0
              clear KK hb8
              go_wp2_with fail
              refine KN.out.mono ?_
              rintro e wa ⟨rfl, hba⟩
              obtain ⟨⟨d0, d1, d2, d3⟩, _⟩ := ((HK8.out.alloc (.cells #[.string x.nm, .int .i64 x.c, .int .i64 x.t, .int .i64 x.s] 60)).t hba).a4f
              obtain ⟨⟨g0, g1, g2, g3⟩, _⟩ := ((Blk.mk w8 60 #[.string x.nm, .int .i64 x.c, .int .i64 x.t, .int .i64 x.s]).t hba).a4f
              have HBA := Lib.hid (bT HB2.out (bT HB5.out (bT (bA HB8.out (.cells #[.string x.nm, .int .i64 x.c, .int .i64 x.t, .int .i64 x.s] 60)) hba)))
              clear z0 z1 z2 z3 z4 KN hba
              go_wp2_with fail
              go_ret
              exact ⟨rfl, HBA.out⟩
--%%
end Go.Proofs.YtbliblhipecgfaaGreatDoor
