/-
  Words for the walks of this seat: worlds, small facts on lists. No program, no conditions.
  More words for the walks: a block that is known whole. No program, no conditions.
  Contracts of package word's small functions. Conditions as named.
  Contracts of package money. Conditions as named.
  Contracts of package frac. Conditions as named.
  Plain: what an amount comes to by bands, band by band, and by each band's rate less the one ahead. No program.
  Arguments that are slices of structs of whole numbers, opened to their cells. No program, no conditions beyond those named.
  Arguments opened to their cells, further: slices of structs whose fields are of several types, slices of slices. No program, no conditions beyond those named.
  Words on memory that a call makes: rows that it owns, and blocks beside them. No program, no conditions beyond those named.
  Cells of the call's own, written. No program, no conditions beyond those named.
  Slices of strings: read, made, and as arguments. No conditions beyond those named.
  Lines cut into words, by lists of bytes; words quoted and joined; what is joined is cut back. No program, no conditions beyond those named.
  A scope with several labels, jumped to from wherever: what holds at each label, and a measure. No program, no conditions beyond those named.
  A region that draws its order, by what each of its operations leaves: whatever order is drawn, the same is known behind it. No program, no conditions beyond those named.
-/
import Derived.WalkKit
import Derived.ProofKit
import Derived.Below
import Derived.Lib.Hide
import Derived.ScopeJumps
import Derived.Deep.Draws
import Derived.WalkSmall
import Derived.Test.YtcngmajkkhipoaaGreatDoorChecked
import Derived.Outline
import Derived.Deep.QuietTactic
import Derived.BigQuiet
import Derived.Lib.SlBytesConst
import Derived.Deep.Slices
import Derived.OpenShut
import Derived.Deep.Fields
import Derived.OwnWalk
import Derived.Maps.AppendAt
import Derived.Laws.MakeOwn
import Derived.Deep.OwnRows
import Derived.Deep.RegionLaw
import Derived.Orders
import Derived.Deep.RegionHeld3
namespace Go.Proofs.YtcngmajkkhipoaaGreatDoor
set_option linter.unusedVariables false
open Go.RowKit

theorem bcell {W w1 : World} (hb : Below W.heap.size W w1) : (∀ b o, b < W.heap.size → w1.cell? ⟨b, o, none⟩ = W.cell? ⟨b, o, none⟩) ∧ (∀ b o, b < W.heap.size → w1.frozen? ⟨b, o, none⟩ = W.frozen? ⟨b, o, none⟩) :=
  ⟨fun b o h => hb.cell (p := ⟨b, o, none⟩) h, fun b o h => hb.frozen (p := ⟨b, o, none⟩) h⟩

theorem below1 (w : World) (o : Obj) : Below w.heap.size w (w.alloc o) := (Below.refl _ _).alloc (Nat.le_refl _) o

theorem allTake {α : Type} (p : α → Bool) (l : List α) (k : Nat) (hk : k < l.length) (d : α) : (l.take (k + 1)).all p = ((l.take k).all p && p (l.getD k d)) := by
  rw [List.take_add_one, List.all_append]
  simp [List.getD, List.getElem?_eq_getElem hk]
theorem all_no {α : Type} (p : α → Bool) (l : List α) (k : Nat) (hk : k < l.length) (d : α) (h : p (l.getD k d) = false) : l.all p = false := by
  rw [List.all_eq_false]
  refine ⟨l[k], List.getElem_mem hk, ?_⟩
  rw [show l.getD k d = l[k] from by simp [List.getD, List.getElem?_eq_getElem hk]] at h
  simp [h]
theorem ret_bool {a b : Bool} (h : a = b) : Ending.returned (.bool a) = .returned (.bool b) := by rw [h]
theorem ret_int {k : IntKind} {a b : Int} (h : a = b) : Ending.returned (.int k a) = .returned (.int k b) := by rw [h]

/-- A scope whose label is jumped to from behind it: what holds at the label, each time, and a measure; the pass from the label is shown once. -/
theorem wp_scope_goto {P : Program} {a : Act} {w : World} {Q : Exit → Act → World → Prop} {c rest : Code} (l : Nat) (J : Act → World → Prop) (μ : Act → World → Nat) (hf : findLabel c l = some (.seq .skip rest))
    (pass : ∀ a w, J a w → rest.wp P (Exit.jump l (fun a' w' => J a' w' ∧ μ a' w' < μ a w) Q) a w)
    (first : (∀ a w, J a w → rest.wp P (Exit.jump l J Q) a w) → c.wp P (Exit.jump l J Q) a w) : (Code.scope c).wp P Q a w := by
  have sk : ∀ {Q : Exit → Act → World → Prop} {a : Act} {w : World}, rest.wp P Q a w → (Code.seq .skip rest).wp P Q a w := fun h => wp_seq (wp_skip h)
  refine wp_scope_jumps l J μ hf (first fun a w hJ => ?_) fun a w hJ => sk (pass a w hJ)
  refine Code.wp_mono ?_ (pass a w hJ)
  intro e a' w' h
  cases e with
  | goto l' => exact ⟨h.1, h.2.1⟩
  | normal => exact h
  | exit id => exact h
  | ret => exact h
  | panic ch => exact h
  | outgrown => exact h
end Go.Proofs.YtcngmajkkhipoaaGreatDoor
namespace Go.Proofs.YtcngmajkkhipoaaGreatDoor
set_option linter.unusedVariables false
open Go.RowKit

/-! ### a block that is known whole -/
/-- block g holds just these cells, and may be written -/
def Blk (w : World) (g : Nat) (t : TypeId) (cs : Array Value) : Prop := w.heap[g]? = some (.cells cs t (0, 0))
section
variable {w w' : World} {g : Nat} {t : TypeId} {cs : Array Value}
theorem Blk.cell (h : Blk w g t cs) (i : Nat) : w.cell? ⟨g, i, none⟩ = cs[i]? := cell_of_row w g i cs t (0, 0) h
theorem Blk.free (h : Blk w g t cs) (i : Nat) : w.frozen? ⟨g, i, none⟩ = false := frozen_of_row w g i cs t h
theorem Blk.lt (h : Blk w g t cs) : g < w.heap.size := (Array.getElem?_eq_some_iff.1 (show w.heap[g]? = _ from h)).1
theorem Blk.mk (w : World) (t : TypeId) (cs : Array Value) : Blk (w.alloc (.cells cs t)) w.heap.size t cs := heap_alloc_new w _
theorem Blk.alloc (h : Blk w g t cs) (o : Obj) : Blk (w.alloc o) g t cs := (heap_alloc_old w o (Blk.lt h)).trans h
theorem Blk.drewN (h : Blk w g t cs) (n : Nat) : Blk (w.drewN n) g t cs := h
theorem Blk.below {B : Nat} (h : Blk w g t cs) (hb : Below B w w') (hg : g < B) : Blk w' g t cs := (hb.block g hg).trans h
theorem Blk.far (h : Blk w g t cs) {a : Addr} (hg : g ≠ a.block) (v : Value) : Blk (w.setCell a v) g t cs := (heap_setCell_other w a g v hg).trans h
theorem Blk.all2 {x y : Value} (h : Blk w g t #[x, y]) : w.cell? ⟨g, 0, none⟩ = some x ∧ w.cell? ⟨g, 1, none⟩ = some y ∧ w.frozen? ⟨g, 0, none⟩ = false ∧ w.frozen? ⟨g, 1, none⟩ = false := ⟨h.cell 0, h.cell 1, h.free 0, h.free 1⟩
theorem Blk.two {x y : Value} (h : Blk w g t #[x, y]) (u v : Value) : Blk ((w.setCell ⟨g, 0, none⟩ u).setCell ⟨g, 1, none⟩ v) g t #[u, v] := by
  have h1 := heap_setCell_same w g 0 #[x, y] t u h
  have h2 := heap_setCell_same (w.setCell ⟨g, 0, none⟩ u) g 1 _ t v h1
  exact h2
end
end Go.Proofs.YtcngmajkkhipoaaGreatDoor
namespace Go.Proofs.YtcngmajkkhipoaaGreatDoor
set_option linter.unusedVariables false
open Go.RowKit
/-- may a byte be in a name, at its beginning or behind it? -/
def nameC (first : Bool) (c : Nat) : Bool := decide ((97 ≤ c ∧ c ≤ 122) ∨ (first = false ∧ ((48 ≤ c ∧ c ≤ 57) ∨ c = 45)))
def nameB (s : ByteArray) : Bool := decide (s.size ≠ 0) && decide (s.size ≤ 16) && (List.range s.size).all fun i => nameC (i == 0) (s.data.toList.getD i 0).toNat
theorem byte_at (s : ByteArray) (k : Nat) (hk : k < s.size) : s.data.toList.getD k 0 = s[k] := by
  have : k < s.data.toList.length := by simpa using hk
  simp [List.getD, List.getElem?_eq_getElem this]
  rfl
theorem name_no (s : ByteArray) (k : Nat) (hk : k < s.size) (h : nameC (k == 0) s[k].toNat = false) : nameB s = false := by
  have : ((List.range s.size).all fun i => nameC (i == 0) (s.data.toList.getD i 0).toNat) = false := by
    rw [List.all_eq_false]
    exact ⟨k, List.mem_range.2 hk, by rw [byte_at s k hk, h]; decide⟩
  rw [nameB, this, Bool.and_false]
theorem name_step (s : ByteArray) (k : Nat) (hk : k < s.size) (hA : ((List.range k).all fun i => nameC (i == 0) (s.data.toList.getD i 0).toNat) = true) (h : nameC (k == 0) s[k].toNat = true) :
    ((List.range (k + 1)).all fun i => nameC (i == 0) (s.data.toList.getD i 0).toNat) = true := by
  rw [List.range_succ, List.all_append, hA]
  simp only [List.all_cons, List.all_nil, byte_at s k hk, h, Bool.and_self]
--%%
set_option maxHeartbeats 1600000 in
theorem name_c (s : ByteArray) (w : World) (hs : s.size ≤ 9223372036854775807) : Calls Tryz.prog 43 #[.string s] w fun e w' => e = .returned (.bool (nameB s)) ∧ w = w' := by
  obtain ⟨r, hr⟩ : ∃ r, r = nameB s := ⟨_, rfl⟩
  rw [← hr]
  have HR := Lib.hid hr
  clear hr
  have hsl : s.toList = s.data.toList := ByteArray.toList_eq s
  have hsz : s.data.toList.length = s.size := by simp
  by_cases h0 : s.size = 0
  · have e : r = false := by rw [HR.out]; simp [nameB, h0]
    subst e
    have e1 : s.toList = [] := by rw [hsl]; exact List.eq_nil_of_length_eq_zero (by omega)
    have e2 : s.toList.isEmpty = true := by rw [e1]; rfl
    clear HR hsl hsz
    go_enter Tryz.func43, Tryz.ntmps43
    go_wp2
    go_ret
    exact ⟨rfl, rfl⟩
  have e1 : ¬ s.toList = [] := by rw [hsl]; intro e; rw [e] at hsz; simp at hsz; omega
  have e2 : s.toList.isEmpty = false := by cases hh : s.toList with
    | nil => exact absurd hh e1
    | cons a l => rfl
  clear hsl hsz
  by_cases h16 : 16 < s.size
  · have e : r = false := by rw [HR.out]; simp [nameB, h0]; omega
    subst e
    clear HR
    go_enter Tryz.func43, Tryz.ntmps43
    go_wp2
    go_ret
    exact ⟨rfl, rfl⟩
  go_enter Tryz.func43, Tryz.ntmps43
  go_wp2
  go_loop [15] (fun i => ∃ k : Nat, k ≤ s.size ∧ i = .int .i64 k ∧ Hid (((List.range k).all fun i => nameC (i == 0) (s.data.toList.getD i 0).toNat) = true)) (fun i => s.size - (intOf i).toNat)
  case atStart => exact ⟨0, Nat.zero_le _, rfl, rfl⟩
  case round =>
    obtain ⟨k, hk', rfl, HA⟩ := hrel
    by_cases hk : k < s.size
    case neg =>
      go_wp2
      go_ret
      refine ⟨ret_bool ?_, rfl⟩
      have hA := HA.out
      rw [show k = s.size by omega] at hA
      rw [HR.out, nameB, hA]
      simp [h0]; omega
    have hb := (s[k].toNat_lt)
    by_cases a1 : 97 ≤ (s[k].toNat : Int)
    · by_cases a2 : (s[k].toNat : Int) ≤ 122
      · skip
        go_wp2
        go_round
        case rel => exact ⟨k + 1, by omega, by go_num, name_step s k hk HA.out (by simp [nameC]; omega)⟩
        case measure => simp [intOf]; omega
      · by_cases k0 : k = 0
        · have kk : ((k : Int) == 0) = true := by simp; omega
          have K0 := Lib.hid k0
          clear k0
          go_wp2
          go_ret
          exact ⟨ret_bool (by rw [HR.out]; exact (name_no s k hk (by have := K0.out; subst this; simp [nameC]; omega)).symm), rfl⟩
        · have kk : ((k : Int) == 0) = false := by simp; omega
          have c1 : ((s[k].toNat : Int) != 45) = true := by simp; omega
          go_wp2
          go_ret
          exact ⟨ret_bool (by rw [HR.out]; exact (name_no s k hk (by simp [nameC]; omega)).symm), rfl⟩
    · by_cases k0 : k = 0
      · have kk : ((k : Int) == 0) = true := by simp; omega
        have K0 := Lib.hid k0
        clear k0
        go_wp2
        go_ret
        exact ⟨ret_bool (by rw [HR.out]; exact (name_no s k hk (by have := K0.out; subst this; simp [nameC]; omega)).symm), rfl⟩
      · have kk : ((k : Int) == 0) = false := by simp; omega
        by_cases a3 : (s[k].toNat : Int) < 48
        · by_cases a4 : (s[k].toNat : Int) = 45
          · have c1 : ((s[k].toNat : Int) != 45) = false := by simp; omega
            have A4 := Lib.hid a4
            clear a4
            go_wp2
            go_round
            case rel => exact ⟨k + 1, by omega, by go_num, name_step s k hk HA.out (by have := A4.out; simp [nameC]; omega)⟩
            case measure => simp [intOf]; omega
          · have c1 : ((s[k].toNat : Int) != 45) = true := by simp; omega
            go_wp2
            go_ret
            exact ⟨ret_bool (by rw [HR.out]; exact (name_no s k hk (by simp [nameC]; omega)).symm), rfl⟩
        · by_cases a5 : 57 < (s[k].toNat : Int)
          · have c1 : ((s[k].toNat : Int) != 45) = true := by simp; omega
            go_wp2
            go_ret
            exact ⟨ret_bool (by rw [HR.out]; exact (name_no s k hk (by simp [nameC]; omega)).symm), rfl⟩
          · skip
            go_wp2
            go_round
            case rel => exact ⟨k + 1, by omega, by go_num, name_step s k hk HA.out (by simp [nameC]; omega)⟩
            case measure => simp [intOf]; omega
--%%
end Go.Proofs.YtcngmajkkhipoaaGreatDoor
namespace Go.Proofs.YtcngmajkkhipoaaGreatDoor
set_option linter.unusedVariables false
open Go.RowKit

/-- may an amount be? -/
def mrB (x : Int) : Bool := decide (-100000000000 ≤ x ∧ x ≤ 100000000000)
theorem mr_t {x : Int} (h : -100000000000 ≤ x ∧ x ≤ 100000000000) : mrB x = true := by simp [mrB]; omega
theorem mr_f {x : Int} (h : ¬ (-100000000000 ≤ x ∧ x ≤ 100000000000)) : mrB x = false := by simp [mrB]; omega
theorem mr_iff {x : Int} : mrB x = true ↔ (-100000000000 ≤ x ∧ x ≤ 100000000000) := by simp [mrB]
theorem mr_not {x : Int} : mrB x = false ↔ ¬ (-100000000000 ≤ x ∧ x ≤ 100000000000) := by simp [mrB]
--%%
theorem right_any (b off c n : Nat) (l : List Int) (w : World) (hn : n = l.length) (hl : n ≤ 9223372036854775807) (hc : ∀ k, k < n → w.cell? ⟨b, off + k, none⟩ = some (.int .i64 (l.getD k 0))) :
    Calls Tryz.prog 81 #[.slice (some ⟨b, off, none⟩) n c] w fun e w' => e = .returned (.bool (l.all mrB)) ∧ w = w' := by
  have Hn := Lib.hid hn; clear hn
  go_enter Tryz.func81, Tryz.ntmps81
  go_wp2
  go_loop [7] (fun i => ∃ k : Nat, k ≤ n ∧ i = .int .i64 k ∧ Hid ((l.take k).all mrB = true)) (fun i => n - (intOf i).toNat)
  case atStart => exact ⟨0, Nat.zero_le _, rfl, rfl⟩
  case round =>
    obtain ⟨k, hk, rfl, HA⟩ := hrel
    by_cases hlt : k < n
    · have hcell := hc k hlt
      generalize hx : l.getD k 0 = x at hcell
      have HX := Lib.hid hx; clear hx hc
      by_cases h1 : 100000000000 < x
      · go_wp2
        go_ret
        exact ⟨ret_bool (by rw [all_no mrB l k (by rw [← Hn.out]; exact hlt) 0 (by rw [HX.out]; exact mr_f (by omega))]), rfl⟩
      · by_cases h2 : x < -100000000000
        · go_wp2
          go_ret
          exact ⟨ret_bool (by rw [all_no mrB l k (by rw [← Hn.out]; exact hlt) 0 (by rw [HX.out]; exact mr_f (by omega))]), rfl⟩
        · go_wp2
          go_round
          case rel => exact ⟨k + 1, by omega, by go_num, by unfold Hid; rw [allTake mrB l k (by rw [← Hn.out]; exact hlt) 0, HA.out, HX.out, mr_t (by omega)]; rfl⟩
          case measure => simp [intOf]; omega
    · go_wp2
      go_ret
      have hkn : k = l.length := by rw [← Hn.out]; omega
      refine ⟨ret_bool ?_, rfl⟩
      have := HA.out
      rw [hkn, List.take_length] at this
      rw [this]

theorem right1 (b off c : Nat) (x : Int) (w : World) (h0 : w.cell? ⟨b, off, none⟩ = some (.int .i64 x)) :
    Calls Tryz.prog 81 #[.slice (some ⟨b, off, none⟩) 1 c] w fun e w' => e = .returned (.bool (mrB x)) ∧ w = w' := by
  refine (right_any b off c 1 [x] w rfl (by decide) (fun k hk => ?_)).mono fun e w' ⟨he, hw⟩ => ⟨he.trans (by simp), hw⟩
  obtain rfl : k = 0 := by omega
  exact h0
theorem right2 (b off c : Nat) (x y : Int) (w : World) (h0 : w.cell? ⟨b, off, none⟩ = some (.int .i64 x)) (h1 : w.cell? ⟨b, off + 1, none⟩ = some (.int .i64 y)) :
    Calls Tryz.prog 81 #[.slice (some ⟨b, off, none⟩) 2 c] w fun e w' => e = .returned (.bool (mrB x && mrB y)) ∧ w = w' := by
  refine (right_any b off c 2 [x, y] w rfl (by decide) (fun k hk => ?_)).mono fun e w' ⟨he, hw⟩ => ⟨he.trans (by simp), hw⟩
  rcases (by omega : k = 0 ∨ k = 1) with rfl | rfl
  · exact h0
  · exact h1
theorem right3 (b off c : Nat) (x y z : Int) (w : World) (h0 : w.cell? ⟨b, off, none⟩ = some (.int .i64 x)) (h1 : w.cell? ⟨b, off + 1, none⟩ = some (.int .i64 y)) (h2 : w.cell? ⟨b, off + 2, none⟩ = some (.int .i64 z)) :
    Calls Tryz.prog 81 #[.slice (some ⟨b, off, none⟩) 3 c] w fun e w' => e = .returned (.bool (mrB x && (mrB y && mrB z))) ∧ w = w' := by
  refine (right_any b off c 3 [x, y, z] w rfl (by decide) (fun k hk => ?_)).mono fun e w' ⟨he, hw⟩ => ⟨he.trans (by simp), hw⟩
  rcases (by omega : k = 0 ∨ k = 1 ∨ k = 2) with rfl | rfl | rfl
  · exact h0
  · exact h1
  · exact h2
--%%
theorem check_t (x : Int) (w : World) (h : mrB x = true) :
    Calls Tryz.prog 64 #[.int .i64 x] w fun e w' => e = .returned (.tuple #[.int .i64 x, .int .i64 0]) ∧ Below w.heap.size w w' := by
  go_enter Tryz.func64, Tryz.ntmps64
  go_wp2_with (go_at_call 81; refine (right1 _ _ _ x _ (by simp)).mono ?_; rintro e w' ⟨rfl, rfl⟩)
  go_ret2
  exact ⟨rfl, below1 _ _⟩
theorem check_f (x : Int) (w : World) (h : mrB x = false) :
    Calls Tryz.prog 64 #[.int .i64 x] w fun e w' => e = .returned (.tuple #[.int .i64 0, .int .i64 10]) ∧ Below w.heap.size w w' := by
  go_enter Tryz.func64, Tryz.ntmps64
  go_wp2_with (go_at_call 81; refine (right1 _ _ _ x _ (by simp)).mono ?_; rintro e w' ⟨rfl, rfl⟩)
  go_ret2
  exact ⟨rfl, below1 _ _⟩
--%%
theorem abs_c (x : Int) (w : World) (h1 : -9223372036854775807 ≤ x) (h2 : x ≤ 9223372036854775807) :
    Calls Tryz.prog 53 #[.int .i64 x] w fun e w' => e = .returned (.int .u64 (x.natAbs : Int)) ∧ w = w' := by
  by_cases h : x < 0
  · go_enter Tryz.func53, Tryz.ntmps53
    go_wp2
    go_ret
    exact ⟨ret_int (by omega), rfl⟩
  · go_enter Tryz.func53, Tryz.ntmps53
    go_wp2
    go_ret
    exact ⟨ret_int (by omega), rfl⟩
--%%
end Go.Proofs.YtcngmajkkhipoaaGreatDoor
namespace Go.Proofs.YtcngmajkkhipoaaGreatDoor
set_option linter.unusedVariables false
open Go.RowKit

def modeB (m : Int) : Bool := decide (1 ≤ m ∧ m ≤ 6)
def rateB (r : Int) : Bool := decide (0 ≤ r ∧ r ≤ 10000)
theorem modeB_iff {m : Int} : modeB m = true ↔ (1 ≤ m ∧ m ≤ 6) := by simp [modeB]
theorem rateB_iff {m : Int} : rateB m = true ↔ (0 ≤ m ∧ m ≤ 10000) := by simp [rateB]
theorem modeB_not {m : Int} : modeB m = false ↔ ¬ (1 ≤ m ∧ m ≤ 6) := by simp [modeB]
theorem rateB_not {m : Int} : rateB m = false ↔ ¬ (0 ≤ m ∧ m ≤ 10000) := by simp [rateB]
--%%
theorem mode_t (m : Int) (h : modeB m = true) (w : World) : Calls Tryz.prog 19 #[.int .i64 m] w fun e w' => e = .returned (.bool true) ∧ w = w' := by
  have h' := modeB_iff.1 h
  go_enter Tryz.func19, Tryz.ntmps19
  go_wp2
  go_ret
  exact ⟨rfl, rfl⟩
theorem mode_f (m : Int) (h : modeB m = false) (w : World) : Calls Tryz.prog 19 #[.int .i64 m] w fun e w' => e = .returned (.bool false) ∧ w = w' := by
  have h' := modeB_not.1 h
  by_cases h1 : m < 1
  · go_enter Tryz.func19, Tryz.ntmps19
    go_wp2
    go_ret
    exact ⟨rfl, rfl⟩
  · have h2 : 6 < m := by omega
    clear h'
    go_enter Tryz.func19, Tryz.ntmps19
    go_wp2
    go_ret
    exact ⟨ret_bool (by simp; omega), rfl⟩
--%%
theorem rate_t (m : Int) (h : rateB m = true) (w : World) : Calls Tryz.prog 18 #[.int .i64 m] w fun e w' => e = .returned (.bool true) ∧ w = w' := by
  have h' := rateB_iff.1 h
  go_enter Tryz.func18, Tryz.ntmps18
  go_wp2
  go_ret
  exact ⟨rfl, rfl⟩
theorem rate_f (m : Int) (h : rateB m = false) (w : World) : Calls Tryz.prog 18 #[.int .i64 m] w fun e w' => e = .returned (.bool false) ∧ w = w' := by
  have h' := rateB_not.1 h
  by_cases h1 : m < 0
  · go_enter Tryz.func18, Tryz.ntmps18
    go_wp2
    go_ret
    exact ⟨rfl, rfl⟩
  · have h2 : 10000 < m := by omega
    clear h'
    go_enter Tryz.func18, Tryz.ntmps18
    go_wp2
    go_ret
    exact ⟨ret_bool (by simp; omega), rfl⟩
theorem rate_c (m : Int) (w : World) : Calls Tryz.prog 18 #[.int .i64 m] w fun e w' => e = .returned (.bool (rateB m)) ∧ w = w' := by
  cases h : rateB m
  · exact rate_f m h w
  · exact rate_t m h w
--%%
end Go.Proofs.YtcngmajkkhipoaaGreatDoor
namespace Go.Proofs.YtcngmajkkhipoaaGreatDoor
set_option linter.unusedVariables false

def pos (a : Int) : Int := max 0 a
/-- how much of an amount is in band i (of n that begin at f) -/
def widthI (x : Int) (f : Nat → Int) (n i : Nat) : Int := pos ((if i + 1 < n then min x (f (i + 1)) else x) - f i)
/-- band by band -/
def progS (x : Int) (f r : Nat → Int) (n : Nat) : Nat → Int
  | 0 => 0
  | k + 1 => progS x f r n k + widthI x f n k * r k
/-- each band's rate less the one ahead -/
def refS (x : Int) (f r : Nat → Int) : Nat → Int
  | 0 => 0
  | k + 1 => refS x f r k + (if f k < x then (x - f k) * (r k - (if k = 0 then 0 else r (k - 1))) else 0)

theorem width_eq (x : Int) (f : Nat → Int) (n i : Nat) (h : i + 1 < n) (hm : f i < f (i + 1)) : widthI x f n i = pos (x - f i) - pos (x - f (i + 1)) := by
  unfold widthI pos
  rw [if_pos h]
  omega
theorem width_last (x : Int) (f : Nat → Int) (n i : Nat) (h : ¬ i + 1 < n) : widthI x f n i = pos (x - f i) := by
  unfold widthI
  rw [if_neg h]
theorem pos_t {a : Int} (h : 0 ≤ a) : pos a = a := by unfold pos; omega
theorem pos_f {a : Int} (h : a ≤ 0) : pos a = 0 := by unfold pos; omega
theorem abel (x : Int) (f r : Nat → Int) (n : Nat) (hm : ∀ i, i + 1 < n → f i < f (i + 1)) : ∀ k, k + 1 ≤ n → refS x f r (k + 1) = progS x f r n k + pos (x - f k) * r k := by
  intro k
  induction k with
  | zero =>
    intro _
    simp only [refS, progS, if_true]
    by_cases h : f 0 < x
    · rw [if_pos h, pos_t (by omega)]; simp
    · rw [if_neg h, pos_f (by omega)]; simp
  | succ k ih =>
    intro hk
    have h1 := ih (by omega)
    rw [refS, h1, progS, width_eq x f n k (by omega) (hm k (by omega))]
    have e : (if f (k + 1) < x then (x - f (k + 1)) * (r (k + 1) - (if k + 1 = 0 then 0 else r (k + 1 - 1))) else 0) = pos (x - f (k + 1)) * (r (k + 1) - r k) := by
      rw [if_neg (show ¬ (k + 1 = 0) by omega), Nat.add_sub_cancel]
      by_cases h : f (k + 1) < x
      · rw [if_pos h, pos_t (by omega)]
      · rw [if_neg h, pos_f (by omega), Int.zero_mul]
    rw [e, Int.mul_sub, Int.sub_mul]
    omega
/-- both are one. -/
theorem ref_prog (x : Int) (f r : Nat → Int) (n : Nat) (hm : ∀ i, i + 1 < n → f i < f (i + 1)) : refS x f r n = progS x f r n n := by
  cases n with
  | zero => rfl
  | succ n => rw [abel x f r (n + 1) hm n (by omega), progS, width_last x f (n + 1) n (by omega)]
/-- behind a band that begins at the amount or above it there is nothing more. -/
theorem width_zero (x : Int) (f : Nat → Int) (n i : Nat) (h : x ≤ f i) : widthI x f n i = 0 := by
  unfold widthI pos
  split <;> omega
theorem prog_stop (x : Int) (f r : Nat → Int) (n : Nat) (hm : ∀ i, i + 1 < n → f i < f (i + 1)) (i : Nat) (hx : x ≤ f i) : ∀ d, i + d ≤ n → progS x f r n (i + d) = progS x f r n i ∧ (i + d < n → x ≤ f (i + d)) := by
  intro d
  induction d with
  | zero => intro _; exact ⟨rfl, fun _ => hx⟩
  | succ d ih =>
    intro hd
    obtain ⟨h1, h2⟩ := ih (by omega)
    have h3 := h2 (by omega)
    refine ⟨?_, fun h => ?_⟩
    · rw [show i + (d + 1) = (i + d) + 1 from rfl, progS, width_zero x f n (i + d) h3, h1]; simp
    · have := hm (i + d) (by omega)
      rw [show i + (d + 1) = (i + d) + 1 from rfl]
      omega
theorem width_bd (x : Int) (f : Nat → Int) (n i : Nat) (hf : 0 ≤ f i) (hx : x ≤ 100000000000) : 0 ≤ widthI x f n i ∧ widthI x f n i ≤ 100000000000 := by
  unfold widthI pos
  split <;> omega
theorem mul_bd0 {x r A B : Int} (h1 : 0 ≤ x) (h2 : x ≤ A) (h3 : 0 ≤ r) (h4 : r ≤ B) (hA : 0 ≤ A) : 0 ≤ x * r ∧ x * r ≤ A * B := by
  have a : x * r ≤ A * r := Int.mul_le_mul_of_nonneg_right h2 h3
  have b : A * r ≤ A * B := Int.mul_le_mul_of_nonneg_left h4 hA
  have c := Int.mul_nonneg h1 h3
  omega
theorem prog_bd (x : Int) (f r : Nat → Int) (n : Nat) (hf : ∀ i, i < n → 0 ≤ f i) (hr : ∀ i, i < n → 0 ≤ r i ∧ r i ≤ 10000) (hx : x ≤ 100000000000) : ∀ k, k ≤ n → 0 ≤ progS x f r n k ∧ progS x f r n k ≤ k * 1000000000000000 := by
  intro k
  induction k with
  | zero => intro _; simp [progS]
  | succ k ih =>
    intro hk
    have h1 := ih (by omega)
    have h2 := width_bd x f n k (hf k (by omega)) hx
    have h3 := hr k (by omega)
    have h4 := mul_bd0 h2.1 h2.2 h3.1 h3.2 (by decide)
    rw [progS]
    omega
theorem ref_bd (x : Int) (f r : Nat → Int) (n : Nat) (hf : ∀ i, i < n → 0 ≤ f i) (hr : ∀ i, i < n → 0 ≤ r i ∧ r i ≤ 10000) (hx : x ≤ 100000000000) : ∀ k, k ≤ n → -(k * 1000000000000000 : Int) ≤ refS x f r k ∧ refS x f r k ≤ k * 1000000000000000 := by
  intro k
  induction k with
  | zero => intro _; simp [refS]
  | succ k ih =>
    intro hk
    have h1 := ih (by omega)
    have h0 := hf k (by omega)
    have h3 := hr k (by omega)
    rw [refS]
    obtain ⟨q, hq, hq1, hq2⟩ : ∃ q, (if k = 0 then 0 else r (k - 1)) = q ∧ 0 ≤ q ∧ q ≤ 10000 := by
      by_cases e : k = 0
      · exact ⟨0, by simp [e], by decide, by decide⟩
      · have := hr (k - 1) (by omega)
        exact ⟨r (k - 1), by simp [e], this.1, this.2⟩
    rw [hq]
    by_cases e : f k < x
    · rw [if_pos e]
      have a1 := mul_bd0 (x := x - f k) (r := r k) (A := 100000000000) (B := 10000) (by omega) (by omega) h3.1 h3.2 (by decide)
      have a2 := mul_bd0 (x := x - f k) (r := q) (A := 100000000000) (B := 10000) (by omega) (by omega) hq1 hq2 (by decide)
      rw [Int.mul_sub]
      omega
    · rw [if_neg e]
      omega
end Go.Proofs.YtcngmajkkhipoaaGreatDoor
namespace Go.Proofs.YtcngmajkkhipoaaGreatDoor
set_option linter.unusedVariables false
open Go.ChangeShapes Go.WideShapes Go.Deep Go.RowKit

section
variable {H : Type} {enc : TypeId × Value → H} {P : Program} {w : World}
theorem addr_plain {a : Addr} {v : Value} (h : w.cell? a = some v) : a = ⟨a.block, a.off, none⟩ := by
  have hs := World.cell?_spot h
  obtain ⟨b, o, s⟩ := a
  simp only at hs
  rw [hs]
theorem add_plain (b o k : Nat) : (⟨b, o, none⟩ : Addr).add k = ⟨b, o + k, none⟩ := by
  unfold Addr.add
  split
  · rename_i h; simp
  · rfl
/-- a slice of whatever: its elements' cells, each read by its own type -/
theorem open_rows {t e : TypeId} {r : Reach} {b0 : Nat} {v : Value} {d : DataW H} {p : List MemPlace} (K : Nat) (hK : 0 < K) (ht : P.underlying t = some (.slice e)) (hC : P.cellsOf e = K)
    (hv : Value.okWide P w r b0 t v) (h : DataW.Trod enc P w 0 (fun _ => true) true t v d p) :
    ∃ A n c, v = .slice A n c ∧ n ≤ 9223372036854775807 ∧ ∃ (b off : Nat) (cs : Nat → List Value), (0 < n → A = some ⟨b, off, none⟩ ∧ b < w.heap.size) ∧
      ∀ i, i < n → (cs i).length = K ∧ (∀ j u, (cs i)[j]? = some u → w.cell? ⟨b, off + i * K + j, none⟩ = some u) ∧ ∃ m x, DataW.trod enc P w 0 (fun _ => true) true m e (cs i) = some x := by
  obtain ⟨A, n, c, rfl⟩ := okWide_slice ht hv
  obtain ⟨fuel, hf⟩ := h
  rcases open_slice ht hf with ⟨hcs, _⟩ | ⟨a, len, cap, m, m', D, Pl, hcs, _, hl, hm, hmm, _, hi⟩
  · simp [Value.cells] at hcs
    obtain ⟨rfl, rfl, rfl⟩ := hcs
    exact ⟨none, 0, 0, rfl, by decide, 0, 0, fun _ => [], fun h => absurd h (by decide), fun i h => absurd h (by omega)⟩
  · simp [Value.cells] at hcs
    obtain ⟨rfl, rfl, rfl⟩ := hcs
    have hmc : m = c := by rw [hmm, if_pos rfl]
    unfold maxLen at hm
    obtain ⟨cs, hcs⟩ := choose_lt (α := List Value) (p := fun i l => w.cells? 0 (a.add (i * K)) K = some l ∧ DataW.trod enc P w 0 (fun _ => true) true m' e l = some (D i, Pl i)) (n := n) (fun i h => by
      have := hi i (by omega)
      rw [hC] at this
      exact this)
    have key : 0 < n → a = ⟨a.block, a.off, none⟩ ∧ a.block < w.heap.size := fun hn => by
      obtain ⟨h1, _⟩ := hcs 0 hn
      obtain ⟨_, hlen, hat⟩ := World.cells?_some h1
      have h0 : (cs 0)[0]? = some ((cs 0)[0]'(by omega)) := List.getElem?_eq_getElem (by omega)
      have hc0 := (hat 0 (by omega)).trans h0
      rw [Go.Deep.add_add, show 0 * K + 0 = 0 by simp, show a.add 0 = a from by unfold Addr.add; rw [if_pos rfl]] at hc0
      exact ⟨addr_plain hc0, World.block_lt_of_cell? w _ hc0⟩
    refine ⟨some a, n, c, rfl, by omega, a.block, a.off, cs, fun hn => ⟨congrArg some (key hn).1, (key hn).2⟩, fun i hin => ?_⟩
    obtain ⟨h1, h2⟩ := hcs i hin
    obtain ⟨_, hlen, hat⟩ := World.cells?_some h1
    refine ⟨hlen, fun j u hu => ?_, m', _, h2⟩
    have hj : j < K := by rw [← hlen]; exact (List.getElem?_eq_some_iff.1 hu).1
    have hc0 := (hat j hj).trans hu
    rw [Go.Deep.add_add, (key (by omega)).1, add_plain, ← Nat.add_assoc] at hc0
    exact hc0
/-- a struct of whole numbers, one cell each -/
def IntFields (P : Program) (fs : Array Field) : Prop := ∀ j, j < fs.size → ∃ f, fs[j]? = some f ∧ f.offset = j ∧ P.cellsOf f.type = 1 ∧ P.underlying f.type = some (.int .i64)
theorem struct_ints {e : TypeId} {fs : Array Field} {m : Nat} {cs : List Value} {x : DataW H × List MemPlace} (he : P.underlying e = some (.struct fs)) (hI : IntFields P fs) (hl : cs.length = fs.size)
    (h : DataW.trod enc P w 0 (fun _ => true) true m e cs = some x) : ∃ g : Nat → Int, ∀ j, j < fs.size → cs[j]? = some (.int .i64 (g j)) ∧ (Lit.int .i64 (g j)).wf = true := by
  obtain ⟨xs, n, _, _, _, hxs, hf⟩ := DataW.trod_struct he h
  refine choose_lt (α := Int) (p := fun j q => cs[j]? = some (.int .i64 q) ∧ (Lit.int .i64 q).wf = true) (fun j hj => ?_)
  obtain ⟨f, hfj, ho, hc, hu⟩ := hI j hj
  have h1 := hf j f hfj
  rw [ho, hc, List.getElem?_eq_getElem (by omega)] at h1
  obtain ⟨q, hq, _, hw⟩ := DataW.trod_int hu h1
  refine ⟨q, ?_, hw⟩
  have : (cs.drop j).take 1 = [cs[j]'(by omega)] := by
    rw [List.drop_eq_getElem_cons (by omega)]
    rfl
  rw [this] at hq
  injection hq with hq _
  rw [List.getElem?_eq_getElem (by omega), hq]
/-- a slice of structs of whole numbers -/
theorem open_int_rows' {t e : TypeId} {fs : Array Field} {r : Reach} {b0 : Nat} {v : Value} {d : DataW H} {p : List MemPlace} (hK : 0 < fs.size) (ht : P.underlying t = some (.slice e)) (he : P.underlying e = some (.struct fs)) (hI : IntFields P fs) (hC : P.cellsOf e = fs.size)
    (hv : Value.okWide P w r b0 t v) (h : DataW.Trod enc P w 0 (fun _ => true) true t v d p) :
    ∃ A n c, v = .slice A n c ∧ n ≤ 9223372036854775807 ∧ ∃ (b off : Nat) (g : Nat → Nat → Int), (0 < n → A = some ⟨b, off, none⟩ ∧ b < w.heap.size) ∧
      ∀ i j, i < n → j < fs.size → w.cell? ⟨b, off + i * fs.size + j, none⟩ = some (.int .i64 (g i j)) ∧ (Lit.int .i64 (g i j)).wf = true := by
  obtain ⟨A, n, c, rfl, hn, b, off, cs, hA, hcs⟩ := open_rows fs.size hK ht hC hv h
  obtain ⟨g, hg⟩ := choose_lt (α := Nat → Int) (p := fun i q => ∀ j, j < fs.size → (cs i)[j]? = some (.int .i64 (q j)) ∧ (Lit.int .i64 (q j)).wf = true) (n := n) (fun i hi => by
    obtain ⟨hl, _, m, x, hx⟩ := hcs i hi
    exact struct_ints he hI hl hx)
  exact ⟨A, n, c, rfl, hn, b, off, g, hA, fun i j hi hj => ⟨(hcs i hi).2.1 j _ (hg i hi j hj).1, (hg i hi j hj).2⟩⟩
end
theorem wf_i64_bd {x : Int} (h : (Lit.int .i64 x).wf = true) : -9223372036854775808 ≤ x ∧ x ≤ 9223372036854775807 := by
  simp [Lit.wf] at h
  exact h
end Go.Proofs.YtcngmajkkhipoaaGreatDoor
namespace Go.Proofs.YtcngmajkkhipoaaGreatDoor
set_option linter.unusedVariables false
open Go.ChangeShapes Go.WideShapes Go.Deep Go.RowKit

/-- a slice whose elements take K cells each, and read as those of a list -/
def SlOf {α : Type} (At : World → Nat → Nat → α → Prop) (K : Nat) (d : α) (w : World) (A : Option Addr) (n : Nat) (l : List α) : Prop :=
  n = l.length ∧ n ≤ 9223372036854775807 ∧ (0 < n → ∃ b off, A = some ⟨b, off, none⟩ ∧ b < w.heap.size ∧ ∀ k, k < n → At w b (off + k * K) (l.getD k d))
theorem SlOf.below {α : Type} {At : World → Nat → Nat → α → Prop} {K : Nat} {d : α} {w w' : World} {A : Option Addr} {n : Nat} {l : List α} (h : SlOf At K d w A n l)
    (hAt : ∀ b off x, At w b off x → b < w.heap.size → At w' b off x) (hb : Below w.heap.size w w') : SlOf At K d w' A n l := by
  obtain ⟨h1, h2, h3⟩ := h
  refine ⟨h1, h2, fun hn => ?_⟩
  obtain ⟨b, off, hA, hlt, hc⟩ := h3 hn
  exact ⟨b, off, hA, Nat.lt_of_lt_of_le hlt hb.size, fun k hk => hAt _ _ _ (hc k hk) hlt⟩
/-- the cells from a place on are these -/
def CellsAt (w : World) (b off : Nat) (xs : List Value) : Prop := ∀ j u, xs[j]? = some u → w.cell? ⟨b, off + j, none⟩ = some u
theorem CellsAt.below {w w' : World} {b off : Nat} {xs : List Value} (h : CellsAt w b off xs) (hlt : b < w.heap.size) (hb : Below w.heap.size w w') : CellsAt w' b off xs :=
  fun j u hu => (hb.cell (p := ⟨b, _, none⟩) hlt).trans (h j u hu)
/-- the elements' cells are told by a function -/
def RowAt {α : Type} (f : α → List Value) (w : World) (b off : Nat) (x : α) : Prop := CellsAt w b off (f x)
/-- a slice of structs whose cells a function tells -/
def RowSl {α : Type} (f : α → List Value) (K : Nat) (d : α) := SlOf (RowAt f) K d
theorem RowSl.below {α : Type} {f : α → List Value} {K : Nat} {d : α} {w w' : World} {A : Option Addr} {n : Nat} {l : List α} (h : RowSl f K d w A n l) (hb : Below w.heap.size w w') : RowSl f K d w' A n l :=
  SlOf.below h (fun b off x hx hlt => CellsAt.below hx hlt hb) hb
/-- a slice that the call itself made, as one that is read -/
theorem own_sl {α : Type} (f : α → List Value) (K : Nat) (d : α) (hf : ∀ x, (f x).length = K) {w : World} {base : Nat} {e : TypeId} {v : Value} {n : Nat} {l : List α} (h : w.ownsRow base e K v n (l.flatMap f)) (hn : n = l.length) (hK : 0 < K) :
    ∃ A c, v = .slice A n c ∧ n ≤ c ∧ RowSl f K d w A n l := by
  have key : ∀ (l : List α) (k j : Nat) (u : Value), k < l.length → j < K → (f (l.getD k d))[j]? = some u → (l.flatMap f)[k * K + j]? = some u := by
    intro l
    induction l with
    | nil => intro k j u hk; exact absurd hk (by simp)
    | cons x l ih =>
      intro k j u hk hj hu
      rw [List.flatMap_cons]
      cases k with
      | zero =>
        simp at hu
        rw [List.getElem?_append_left (by rw [hf]; omega)]
        simpa using hu
      | succ k =>
        rw [List.getElem?_append_right (by rw [hf, Nat.succ_mul]; omega), hf, show (k + 1) * K + j - K = k * K + j by rw [Nat.succ_mul]; omega]
        exact ih k j u (by simpa using hk) hj (by simpa using hu)
  rcases h.2 with ⟨rfl, h0⟩ | ⟨g, cap, cur, rfl, _, hg, hle, hm, _, htake⟩
  · exact ⟨none, 0, by rw [h0], by omega, hn, by omega, fun h => absurd h (by omega)⟩
  · unfold maxLen at hm
    refine ⟨_, _, rfl, hle, hn, by omega, fun h0 => ⟨g, 0, rfl, (Array.getElem?_eq_some_iff.1 hg).1, fun k hk j u hu => ?_⟩⟩
    have hj : j < K := by
      have := (List.getElem?_eq_some_iff.1 hu).1
      rwa [hf] at this
    have h1 := key l k j u (by omega) hj hu
    have h2 := h.cells (g := g) rfl _ _ h1
    rw [add_plain] at h2
    rw [show 0 + k * K + j = 0 + (k * K + j) by omega]
    exact h2
section
variable {H : Type} {enc : TypeId × Value → H} {P : Program} {w : World}
/-- a slice's cell, opened: its elements' cells, each read by its own type -/
theorem open_rows_t {t e : TypeId} {m : Nat} {u : Value} {x : DataW H × List MemPlace} (K : Nat) (hK : 0 < K) (ht : P.underlying t = some (.slice e)) (hC : P.cellsOf e = K)
    (hf : DataW.trod enc P w 0 (fun _ => true) true m t [u] = some x) :
    ∃ A n c, u = .slice A n c ∧ n ≤ c ∧ c ≤ 9223372036854775807 ∧ ∃ (b off : Nat) (cs : Nat → List Value), (0 < n → A = some ⟨b, off, none⟩ ∧ b < w.heap.size) ∧
      ∀ i, i < n → (cs i).length = K ∧ (∀ j u, (cs i)[j]? = some u → w.cell? ⟨b, off + i * K + j, none⟩ = some u) ∧ ∃ m x, DataW.trod enc P w 0 (fun _ => true) true m e (cs i) = some x := by
  rcases open_slice ht hf with ⟨hcs, _⟩ | ⟨a, n, c, m, m', D, Pl, hcs, _, hl, hm, hmm, _, hi⟩
  · injection hcs with hcs _
    exact ⟨none, 0, 0, hcs, by decide, by decide, 0, 0, fun _ => [], fun h => absurd h (by decide), fun i h => absurd h (by omega)⟩
  · injection hcs with hcs _
    subst hcs
    have hmc : m = c := by rw [hmm, if_pos rfl]
    unfold maxLen at hm
    obtain ⟨cs, hcs⟩ := choose_lt (α := List Value) (p := fun i l => w.cells? 0 (a.add (i * K)) K = some l ∧ DataW.trod enc P w 0 (fun _ => true) true m' e l = some (D i, Pl i)) (n := n) (fun i h => by
      have := hi i (by omega)
      rw [hC] at this
      exact this)
    have key : 0 < n → a = ⟨a.block, a.off, none⟩ ∧ a.block < w.heap.size := fun hn => by
      obtain ⟨h1, _⟩ := hcs 0 hn
      obtain ⟨_, hlen, hat⟩ := World.cells?_some h1
      have h0 : (cs 0)[0]? = some ((cs 0)[0]'(by omega)) := List.getElem?_eq_getElem (by omega)
      have hc0 := (hat 0 (by omega)).trans h0
      rw [Go.Deep.add_add, show 0 * K + 0 = 0 by simp, show a.add 0 = a from by unfold Addr.add; rw [if_pos rfl]] at hc0
      exact ⟨addr_plain hc0, World.block_lt_of_cell? w _ hc0⟩
    refine ⟨some a, n, c, rfl, hl, by omega, a.block, a.off, cs, fun hn => ⟨congrArg some (key hn).1, (key hn).2⟩, fun i hin => ?_⟩
    obtain ⟨h1, h2⟩ := hcs i hin
    obtain ⟨_, hlen, hat⟩ := World.cells?_some h1
    refine ⟨hlen, fun j u hu => ?_, m', _, h2⟩
    have hj : j < K := by rw [← hlen]; exact (List.getElem?_eq_some_iff.1 hu).1
    have hc0 := (hat j hj).trans hu
    rw [Go.Deep.add_add, (key (by omega)).1, add_plain, ← Nat.add_assoc] at hc0
    exact hc0
/-- a slice's cell, opened to a list, by what a row's cells tell -/
theorem open_sl {α : Type} (At : World → Nat → Nat → α → Prop) (K : Nat) (d : α) {t e : TypeId} {m : Nat} {u : Value} {x : DataW H × List MemPlace} (hK : 0 < K) (ht : P.underlying t = some (.slice e)) (hC : P.cellsOf e = K)
    (hrow : ∀ (b off : Nat) (cs : List Value) (m : Nat) (x : DataW H × List MemPlace), b < w.heap.size → cs.length = K → CellsAt w b off cs → DataW.trod enc P w 0 (fun _ => true) true m e cs = some x → ∃ a : α, At w b off a)
    (hf : DataW.trod enc P w 0 (fun _ => true) true m t [u] = some x) :
    ∃ A n c l, u = .slice A n c ∧ n ≤ c ∧ c ≤ 9223372036854775807 ∧ SlOf At K d w A n l := by
  obtain ⟨A, n, c, rfl, h1, h2, b, off, cs, hA, hcs⟩ := open_rows_t K hK ht hC hf
  have : Inhabited α := ⟨d⟩
  obtain ⟨g, hg⟩ := choose_lt (α := α) (p := fun i a => At w b (off + i * K) a) (n := n) (fun i hi => by
    obtain ⟨hl, hc, m, x, hx⟩ := hcs i hi
    exact hrow b _ (cs i) m x (hA (by omega)).2 hl hc hx)
  refine ⟨A, n, c, (List.range n).map g, rfl, h1, h2, by simp, by omega, fun h0 => ⟨b, off, (hA h0).1, (hA h0).2, fun k hk => ?_⟩⟩
  rw [show ((List.range n).map g).getD k d = g k by simp [List.getD, hk]]
  exact hg k hk
/-- a struct of one-cell fields, opened -/
theorem struct_cells {e : TypeId} {fs : Array Field} {m : Nat} {cs : List Value} {x : DataW H × List MemPlace} (he : P.underlying e = some (.struct fs)) (hone : oneCellFields P fs = true) (hl : cs.length = fs.size)
    (h : DataW.trod enc P w 0 (fun _ => true) true m e cs = some x) : ∀ (j : Nat) (f : Field), fs[j]? = some f → ∃ u n y, cs[j]? = some u ∧ DataW.trod enc P w 0 (fun _ => true) true n f.type [u] = some y := by
  obtain ⟨xs, n, _, _, _, hxs, hf⟩ := DataW.trod_struct he h
  intro j f hfj
  have hj : j < fs.size := (Array.getElem?_eq_some_iff.1 hfj).1
  obtain ⟨ho, hc⟩ := hone_of hone j f hfj
  have h1 := hf j f hfj
  have hone' : (cs.drop j).take 1 = [cs[j]'(by omega)] := by
    rw [List.drop_eq_getElem_cons (by omega)]
    rfl
  rw [ho, hc, List.getElem?_eq_getElem (by omega), hone'] at h1
  exact ⟨_, n, _, List.getElem?_eq_getElem (by omega), h1⟩
theorem cell_int {t : TypeId} {m : Nat} {u : Value} {x : DataW H × List MemPlace} (ht : P.underlying t = some (.int .i64)) (h : DataW.trod enc P w 0 (fun _ => true) true m t [u] = some x) : ∃ q : Int, u = .int .i64 q ∧ -9223372036854775808 ≤ q ∧ q ≤ 9223372036854775807 := by
  obtain ⟨q, hq, _, hw⟩ := DataW.trod_int ht h
  injection hq with hq _
  exact ⟨q, hq, wf_i64_bd hw⟩
theorem cell_string {t : TypeId} {m : Nat} {u : Value} {x : DataW H × List MemPlace} (ht : P.underlying t = some .string) (h : DataW.trod enc P w 0 (fun _ => true) true m t [u] = some x) : ∃ s : ByteArray, u = .string s ∧ s.size ≤ 9223372036854775807 := by
  obtain ⟨s, hq, _, hw⟩ := DataW.trod_string ht h
  injection hq with hq _
  exact ⟨s, hq, hw⟩
theorem cell_bool {t : TypeId} {m : Nat} {u : Value} {x : DataW H × List MemPlace} (ht : P.underlying t = some .bool) (h : DataW.trod enc P w 0 (fun _ => true) true m t [u] = some x) : ∃ s : Bool, u = .bool s := by
  obtain ⟨s, hq, _⟩ := DataW.trod_bool ht h
  injection hq with hq _
  exact ⟨s, hq⟩
/-- an argument that takes one cell, as that cell -/
theorem trod_slice_arg {t e : TypeId} {r : Reach} {b0 : Nat} {v : Value} {d : DataW H} {p : List MemPlace} (ht : P.underlying t = some (.slice e)) (hv : Value.okWide P w r b0 t v) (h : DataW.Trod enc P w 0 (fun _ => true) true t v d p) :
    ∃ m, DataW.trod enc P w 0 (fun _ => true) true m t [v] = some (d, p) := by
  obtain ⟨A, n, c, rfl⟩ := okWide_slice ht hv
  obtain ⟨m, hm⟩ := h
  exact ⟨m, hm⟩
/-- an argument that is a struct, as its cells -/
theorem trod_struct_arg {t : TypeId} {fs : Array Field} {r : Reach} {b0 : Nat} {v : Value} {d : DataW H} {p : List MemPlace} (ht : P.underlying t = some (.struct fs)) (hv : Value.okWide P w r b0 t v) (h : DataW.Trod enc P w 0 (fun _ => true) true t v d p) :
    ∃ (cs : List Value) (m : Nat), v = .agg cs.toArray ∧ cs.length = P.cellsOf t ∧ DataW.trod enc P w 0 (fun _ => true) true m t cs = some (d, p) := by
  obtain ⟨cs, rfl, hs⟩ := okWide_struct ht hv
  obtain ⟨m, hm⟩ := h
  exact ⟨cs.toList, m, by simp, by simpa using hs, hm⟩
end
end Go.Proofs.YtcngmajkkhipoaaGreatDoor
namespace Go.Proofs.YtcngmajkkhipoaaGreatDoor
set_option linter.unusedVariables false
open Go.RowKit

section
variable {w w' : World} {g : Nat} {t : TypeId} {cs : Array Value} {base size n : Nat} {e : TypeId} {v : Value} {xs : List Value}
theorem Blk.grown {row : Option Nat} (h : Blk w g t cs) (hb : w.grownBy w' row) (hg : some g ≠ row) : Blk w' g t cs := (hb.block g h.lt hg).trans h
theorem Blk.differ {g' : Nat} {t' : TypeId} {cs' : Array Value} (h : Blk w g t cs) (h' : Blk w g' t' cs') (hne : t ≠ t') : g ≠ g' := by
  rintro rfl
  unfold Blk at h h'
  rw [h] at h'
  injection h' with h'
  injection h' with _ ht
  exact hne ht
theorem own_blk (h : w.ownsRow base e size v n xs) (hg : Blk w g t cs) (hne : e ≠ t) : some g ≠ v.ownBlock := by
  rcases h.2 with ⟨rfl, _⟩ | ⟨g', cap, cur, rfl, _, hh, _⟩
  · simp [Value.ownBlock]
  · intro he
    have : g = g' := by simpa [Value.ownBlock] using he
    subst this
    exact Blk.differ (t := e) hh hg hne rfl
theorem own_low (h : w.ownsRow base e size v n xs) (hg : g < base) : some g ≠ v.ownBlock := by
  intro he
  have := (h.lt g he.symm).1
  omega
theorem own_own {base' size' n' : Nat} {e' : TypeId} {v' : Value} {xs' : List Value} (h : w.ownsRow base e size v n xs) (h' : w.ownsRow base' e' size' v' n' xs') (hne : e ≠ e') : v.ownBlock = none ∨ v.ownBlock ≠ v'.ownBlock := by
  rcases h.2 with ⟨rfl, _⟩ | ⟨g, cap, cur, rfl, _, hh, _⟩
  · exact Or.inl rfl
  · exact Or.inr (Ne.symm (Ne.symm (own_blk h' hh (Ne.symm hne))))
theorem grown_of_below (hb : Below w.heap.size w w') (row : Option Nat) : w.grownBy w' row := ⟨hb.os, hb.tape, hb.output, hb.size, fun k hk _ => hb.block k hk⟩
theorem own_below (h : w.ownsRow base e size v n xs) (hb : Below w.heap.size w w') : w'.ownsRow base e size v n xs :=
  h.kept (grown_of_below hb none) (by cases v.ownBlock <;> simp)
theorem own_drewN (h : w.ownsRow base e size v n xs) (k : Nat) : (w.drewN k).ownsRow base e size v n xs := h
theorem own_more (h : w.ownsRow base e size v n xs) {base' : Nat} (hb : base' ≤ base) : w.ownsRow base' e size v n xs := by
  refine ⟨h.1, ?_⟩
  rcases h.2 with hl | ⟨g, cap, cur, rfl, h1, hr⟩
  · exact Or.inl hl
  · exact Or.inr ⟨g, cap, cur, rfl, by omega, hr⟩
/-- a row with an element has a block -/
theorem own_form (h : w.ownsRow base e size v n xs) (hn : 0 < n) : ∃ g cap, v = .slice (some ⟨g, 0, none⟩) n cap ∧ base ≤ g ∧ g < w.heap.size ∧ n ≤ cap ∧ w.ownsRow base e size (.slice (some ⟨g, 0, none⟩) n cap) n xs := by
  have h0 := h
  rcases h.2 with ⟨_, h2⟩ | ⟨g, cap, cur, rfl, h1, hr, hc, _⟩
  · omega
  · exact ⟨g, cap, rfl, h1, (Array.getElem?_eq_some_iff.1 hr).1, hc, h0⟩
/-- a row as a slice -/
theorem own_slice (h : w.ownsRow base e size v n xs) : ∃ A c, v = .slice A n c := by
  rcases h.2 with ⟨rfl, rfl⟩ | ⟨g, cap, cur, rfl, _⟩
  · exact ⟨none, 0, rfl⟩
  · exact ⟨_, _, rfl⟩
theorem below_grown {B : Nat} {a : World} {row : Option Nat} (h : Below B a w) (hg : w.grownBy w' row) (hB : B ≤ w.heap.size) (hr : ∀ k, row = some k → B ≤ k) : Below B a w' := h.grown hg hB hr
theorem below_app {B : Nat} {a : World} (h : Below B a w) (hown : w.ownsRow base e size v n xs) (hg : w.grownBy w' v.ownBlock) (hB : B ≤ w.heap.size) (hb : B ≤ base) : Below B a w' :=
  h.grown hg hB (fun k hk => Nat.le_trans hb (hown.lt k hk).1)
end

section
variable {P : Program}
/-- one element more at the end of a row of the call's own; the element's cells stand in a new block -/
theorem run_app1 (w : World) (t ty e : TypeId) (z : Value) (size bytes : Nat) (ht : P.underlying t = some (.slice e)) (hi : (P.info? e).map (fun i => (i.zero, i.size, i.bytes)) = some (some z, size, bytes))
    (hzs : z.cells.size = size) (hsz : 0 < size) {base : Nat} {v : Value} {n : Nat} {xs : List Value} (hown : w.ownsRow base e size v n xs) (cs : Array Value) (hl : cs.size = size) (h1 : ∀ u ∈ cs.toList, u.oneCell' = true)
    (hn : (n + 1) * bytes ≤ 140737488355328) (hn2 : n + 1 ≤ 9223372036854775807) (hbase : base ≤ w.heap.size) :
    ∃ v' w', (Builtin.append_ #[t, t] ty #[v, .slice (some ⟨w.heap.size, 0, none⟩) 1 1]).run P (w.alloc (.cells cs e)) = .ok v' w' ∧ w'.ownsRow base e size v' (n + 1) (xs ++ cs.toList) ∧ w.grownBy w' v.ownBlock := by
  obtain ⟨i, hi', hz, hs, hb⟩ := info_parts hi
  obtain ⟨v', w', hr, ho, hg, _⟩ := run_append_own (P := P) (w.alloc (.cells cs e)) base t ty e i z size bytes ht hi' hz hs hb hzs hsz v n xs (hown.alloc _) ⟨w.heap.size, 0, none⟩ 1 1 cs.toList (by simpa using hl)
    (fun j u hu => by
      rw [add_plain, cell_of_row _ _ _ cs e (0, 0) (heap_alloc_new w _)]
      simpa using hu) h1 (by unfold maxLen; exact hn2) hn (by simp; omega)
  exact ⟨v', w', hr, ho, (World.grownBy_alloc w _ _).trans hg⟩
theorem wpList_app1 {ops : Array Oper} {rest : List Oper} {o : Oper} {a : Act} {Q : Exit → Act → World → Prop} (w : World) (hgd : o.guard = none) (s x : Operand) (t : TypeId)
    (ho : o.op = .call { callee := .builtin .append, args := #[s, x], argTypes := #[t, t] })
    (e : TypeId) (z : Value) (size bytes : Nat) (ht : P.underlying t = some (.slice e)) (hi : (P.info? e).map (fun i => (i.zero, i.size, i.bytes)) = some (some z, size, bytes))
    (hzs : z.cells.size = size) (hsz : 0 < size) {base : Nat} {v : Value} {n : Nat} {xs : List Value} (hs : a.eval s = v) (hown : w.ownsRow base e size v n xs) (cs : Array Value) {nb : Nat} (hx : a.eval x = .slice (some ⟨nb, 0, none⟩) 1 1) (hnb : nb = w.heap.size)
    (hl : cs.size = size) (h1 : ∀ u ∈ cs.toList, u.oneCell' = true) (hn : (n + 1) * bytes ≤ 140737488355328) (hn2 : n + 1 ≤ 9223372036854775807) (hbase : base ≤ w.heap.size)
    (h : ∀ v' w', w'.ownsRow base e size v' (n + 1) (xs ++ cs.toList) → w.grownBy w' v.ownBlock → wpList P ops Q rest (a.put o.dst v') w') : wpList P ops Q (o :: rest) a (w.alloc (.cells cs e)) := by
  subst hnb
  refine wpList_plain hgd fun K hK => ?_
  obtain ⟨v', w', hr, h2, h3⟩ := run_app1 w t o.type e z size bytes ht hi hzs hsz hown cs hl h1 hn hn2 hbase
  unfold Oper.wp execOp
  simp only [ho, resolve, invoke, builtin, Sem.run_bind, Sem.run_pure, Result.andThen_ok, List.map_toArray, List.map_cons, List.map_nil, hs, hx, hr]
  exact hK _ _ (h v' w' h2 h3)
/-- make with a length, for every world -/
theorem run_make_K (t e : TypeId) (z : Value) (size bytes : Nat) (ht : P.underlying t = some (.slice e)) (hi : (P.info? e).map (fun i => (i.zero, i.size, i.bytes)) = some (some z, size, bytes))
    (n : Nat) (hn : bytes * n ≤ 281474976710656) (hn2 : n ≤ 9223372036854775807) (w : World) :
    (Instr.makeSlice t (.int .i64 (n : Int)) (.int .i64 (n : Int))).run P w = .ok (.slice (some ⟨w.heap.size, 0, none⟩) n n) (w.alloc (.cells (madeCells z.cells (n * size)) e)) := by
  obtain ⟨i, hi', hz, hs, hb⟩ := info_parts hi
  subst hs
  have hb' : (i.bytes : Int) * (n : Int) ≤ 281474976710656 := by
    have h : ((i.bytes * n : Nat) : Int) ≤ 281474976710656 := by rw [hb]; omega
    rwa [Int.natCast_mul] at h
  have hr := run_make (P := P) w t e i z ht hi' hz .i64 .i64 n n (by omega) (Int.le_refl _) hb' (by omega)
  simp only [Int.toNat_natCast] at hr
  exact hr
theorem own_made (w : World) (e : TypeId) (z : Array Value) (size n : Nat) (hn2 : n ≤ 9223372036854775807) {base : Nat} (hb : base ≤ w.heap.size) :
    (w.alloc (.cells (madeCells z (n * size)) e)).ownsRow base e size (.slice (some ⟨w.heap.size, 0, none⟩) n n) n (madeCells z (n * size)).toList :=
  World.ownsRow_lit w _ n hb (by unfold maxLen; exact hn2) (size_madeCells _ _)
end
section
variable {P : Program}
/-- what a slice that is appended holds: m elements of size cells each -/
def SrcAt (w : World) (A : Option Addr) (m size : Nat) (news : List Value) : Prop :=
  news.length = m * size ∧ (0 < m → ∃ b off, A = some ⟨b, off, none⟩ ∧ b < w.heap.size ∧ ∀ j u, news[j]? = some u → w.cell? ⟨b, off + j, none⟩ = some u)
theorem SrcAt.below {w w' : World} {A : Option Addr} {m size : Nat} {news : List Value} (h : SrcAt w A m size news) (hb : Below w.heap.size w w') : SrcAt w' A m size news := by
  refine ⟨h.1, fun hm => ?_⟩
  obtain ⟨b, off, hA, hlt, hc⟩ := h.2 hm
  exact ⟨b, off, hA, Nat.lt_of_lt_of_le hlt hb.size, fun j u hu => (hb.cell (p := ⟨b, _, none⟩) hlt).trans (hc j u hu)⟩
theorem RowSl.src {α : Type} {f : α → List Value} {K : Nat} {d : α} {w : World} {A : Option Addr} {n : Nat} {l : List α} (h : RowSl f K d w A n l) (hf : ∀ x, (f x).length = K) : SrcAt w A n K (l.flatMap f) := by
  obtain ⟨h1, h2, h3⟩ := h
  have hlen : ∀ l : List α, (l.flatMap f).length = l.length * K := by
    intro l
    induction l with
    | nil => simp
    | cons x l ih => rw [List.flatMap_cons, List.length_append, ih, hf, List.length_cons, Nat.succ_mul]; omega
  refine ⟨by rw [hlen, h1], fun hn => ?_⟩
  obtain ⟨b, off, hA, hlt, hc⟩ := h3 hn
  refine ⟨b, off, hA, hlt, fun j u hu => ?_⟩
  have key : ∀ (l : List α) (j : Nat) (u : Value), (l.flatMap f)[j]? = some u → ∃ k i, k < l.length ∧ j = k * K + i ∧ (f (l.getD k d))[i]? = some u := by
    intro l
    induction l with
    | nil => intro j u hu; simp at hu
    | cons x l ih =>
      intro j u hu
      rw [List.flatMap_cons] at hu
      by_cases hj : j < K
      · rw [List.getElem?_append_left (by rw [hf]; exact hj)] at hu
        exact ⟨0, j, by simp, by omega, by simpa using hu⟩
      · rw [List.getElem?_append_right (by rw [hf]; omega), hf] at hu
        obtain ⟨k, i, hk, he, hv⟩ := ih _ _ hu
        exact ⟨k + 1, i, by simpa using hk, by rw [Nat.succ_mul]; omega, by simpa using hv⟩
  obtain ⟨k, i, hk, rfl, hv⟩ := key l j u hu
  have := hc k (by omega) i u hv
  rwa [Nat.add_assoc] at this
theorem own_src {w : World} {base size n c : Nat} {e : TypeId} {A : Option Addr} {xs : List Value} (h : w.ownsRow base e size (.slice A n c) n xs) : SrcAt w A n size xs := by
  refine ⟨h.1, fun hn => ?_⟩
  obtain ⟨g, cap, hv, hb, hlt, hc, ho⟩ := own_form h hn
  injection hv with hA _ _
  subst hA
  refine ⟨g, 0, rfl, hlt, fun j u hu => ?_⟩
  have hj : j < n * size := by rw [← h.1]; exact (List.getElem?_eq_some_iff.1 hu).1
  rw [Nat.zero_add, ho.cellAt j hj, hu]
/-- a whole slice put to the end of a row of the call's own -/
theorem run_appN (w : World) (t ty e : TypeId) (z : Value) (size bytes : Nat) (ht : P.underlying t = some (.slice e)) (hi : (P.info? e).map (fun i => (i.zero, i.size, i.bytes)) = some (some z, size, bytes))
    (hzs : z.cells.size = size) (hsz : 0 < size) {base : Nat} {v : Value} {n : Nat} {xs : List Value} (hown : w.ownsRow base e size v n xs) (A : Option Addr) (m c : Nat) (news : List Value) (hsrc : SrcAt w A m size news) (h1 : ∀ u ∈ news, u.oneCell' = true)
    (hn : (n + m) * bytes ≤ 140737488355328) (hn2 : n + m ≤ 9223372036854775807) (hbase : base ≤ w.heap.size) :
    ∃ v' w', (Builtin.append_ #[t, t] ty #[v, .slice A m c]).run P w = .ok v' w' ∧ w'.ownsRow base e size v' (n + m) (xs ++ news) ∧ w.grownBy w' v.ownBlock := by
  obtain ⟨i, hi', hz, hs, hb⟩ := info_parts hi
  rcases A with _ | ad
  · have hm : m = 0 := by
      rcases Nat.eq_zero_or_pos m with h0 | h0
      · exact h0
      · obtain ⟨b, off, h, _⟩ := hsrc.2 h0
        cases h
    subst hm
    have hnn : news = [] := List.eq_nil_of_length_eq_zero (by simpa using hsrc.1)
    subst hnn
    refine ⟨v, w, ?_, by simpa using hown, World.grownBy.refl w _⟩
    rcases hown.2 with ⟨rfl, rfl⟩ | ⟨g, cap, cur, rfl, _, _, hnc, _⟩
    · simp [Builtin.append_, run_underlying ht, sizeOf, typeInfo, hi', Builtin.lenOf, Builtin.firstCells]
    · simp [Builtin.append_, run_underlying ht, sizeOf, typeInfo, hi', Builtin.lenOf, Builtin.firstCells, hnc, storeCells]
  · obtain ⟨v', w', hr, ho, hg, _⟩ := run_append_own (P := P) w base t ty e i z size bytes ht hi' hz hs hb hzs hsz v n xs hown ad m c news hsrc.1
      (fun j u hu => by
        have hm : 0 < m := by
          rcases Nat.eq_zero_or_pos m with h0 | h0
          · subst h0
            have hnn : news = [] := List.eq_nil_of_length_eq_zero (by simpa using hsrc.1)
            subst hnn
            simp at hu
          · exact h0
        obtain ⟨b, off, hA, _, hc⟩ := hsrc.2 hm
        injection hA with hA
        subst hA
        rw [add_plain]
        exact hc j u hu) h1 (by unfold maxLen; exact hn2) hn hbase
    exact ⟨v', w', hr, ho, hg⟩
theorem wpList_appN {ops : Array Oper} {rest : List Oper} {o : Oper} {a : Act} {Q : Exit → Act → World → Prop} (w : World) (hgd : o.guard = none) (s x : Operand) (t : TypeId)
    (ho : o.op = .call { callee := .builtin .append, args := #[s, x], argTypes := #[t, t] })
    (e : TypeId) (z : Value) (size bytes : Nat) (ht : P.underlying t = some (.slice e)) (hi : (P.info? e).map (fun i => (i.zero, i.size, i.bytes)) = some (some z, size, bytes))
    (hzs : z.cells.size = size) (hsz : 0 < size) {base : Nat} {v : Value} {n : Nat} {xs : List Value} (hs : a.eval s = v) (hown : w.ownsRow base e size v n xs) (A : Option Addr) (m c : Nat) (news : List Value) (hx : a.eval x = .slice A m c)
    (hsrc : SrcAt w A m size news) (h1 : ∀ u ∈ news, u.oneCell' = true) (hn : (n + m) * bytes ≤ 140737488355328) (hn2 : n + m ≤ 9223372036854775807) (hbase : base ≤ w.heap.size)
    (h : ∀ v' w', w'.ownsRow base e size v' (n + m) (xs ++ news) → w.grownBy w' v.ownBlock → wpList P ops Q rest (a.put o.dst v') w') : wpList P ops Q (o :: rest) a w := by
  refine wpList_plain hgd fun K hK => ?_
  obtain ⟨v', w', hr, h2, h3⟩ := run_appN w t o.type e z size bytes ht hi hzs hsz hown A m c news hsrc h1 hn hn2 hbase
  unfold Oper.wp execOp
  simp only [ho, resolve, invoke, builtin, Sem.run_bind, Sem.run_pure, Result.andThen_ok, List.map_toArray, List.map_cons, List.map_nil, hs, hx, hr]
  exact hK _ _ (h v' w' h2 h3)
end
section
variable {P : Program}
/-- an append in a region that draws, by its run -/
theorem step_of_run {w : World} {ops : Array Oper} {o : Oper} {a : Act} {K : Act → World → Prop} {Q : Exit → Act → World → Prop} {E : Prop} (hgd : o.guard = none) (s x : Operand) (t : TypeId)
    (ho : o.op = .call { callee := .builtin .append, args := #[s, x], argTypes := #[t, t] }) (v u : Value) (hs : a.eval s = v) (hx : a.eval x = u) (v' : Value) (w' : World)
    (hr : (Builtin.append_ #[t, t] o.type #[v, u]).run P w = .ok v' w') (h : K (a.put o.dst v') w') :
    if Region.wanted o (yielded ops a.tmps) = true then Oper.wp P o a w K Q else E := by
  have hw : Region.wanted o (yielded ops a.tmps) = true := by simp [Region.wanted, hgd]
  rw [if_pos hw]
  unfold Oper.wp execOp
  simp only [ho, resolve, invoke, builtin, Sem.run_bind, Sem.run_pure, Result.andThen_ok, List.map_toArray, List.map_cons, List.map_nil, hs, hx, hr]
  exact h
end
/-! ### steps of a call, one behind the other -/
section
variable {w W W' : World}
theorem bT (h : Below w.heap.size w W) (hb : Below W.heap.size W W') : Below w.heap.size w W' := h.trans (hb.mono h.size)
theorem bA (h : Below w.heap.size w W) (o : Obj) : Below w.heap.size w (W.alloc o) := h.alloc h.size o
theorem bD (h : Below w.heap.size w W) (n : Nat) : Below w.heap.size w (W.drewN n) := ⟨h.os, h.tape, h.output, h.size, h.block⟩
theorem bS (h : Below w.heap.size w W) {p : Addr} (hp : w.heap.size ≤ p.block) (u : Value) : Below w.heap.size w (W.setCell p u) := h.setCell hp u
theorem b0 (w : World) : Below w.heap.size w w := Below.refl _ _
theorem bP {base size n : Nat} {e : TypeId} {v : Value} {xs : List Value} (h : Below w.heap.size w W) (hown : W.ownsRow base e size v n xs) (hg : W.grownBy W' v.ownBlock) (hb : w.heap.size ≤ base) : Below w.heap.size w W' := below_app h hown hg h.size hb
theorem Blk.t {g : Nat} {t : TypeId} {cs : Array Value} (h : Blk W g t cs) (hb : Below W.heap.size W W') : Blk W' g t cs := h.below hb h.lt
/-- for a region that draws: what holds in all worlds above a first one -/
theorem sK {w0 W W1 : World} {C : World → Prop} (G : ∀ W, Below w0.heap.size w0 W → Below w0.heap.size w0 W ∧ C W) (h : Below w0.heap.size w0 W ∧ C W) (hb : Below W.heap.size W W1) : Below w0.heap.size w0 W1 ∧ C W1 := G _ (h.1.trans (hb.mono h.1.size))
end
theorem cell_alloc (w : World) (cs : Array Value) (t : TypeId) (b i : Nat) : (w.alloc (.cells cs t)).cell? ⟨b, i, none⟩ = if b = w.heap.size then cs[i]? else w.cell? ⟨b, i, none⟩ := by
  by_cases h : b = w.heap.size
  · subst h
    rw [if_pos rfl]
    exact (Blk.mk w t cs).cell i
  · rw [if_neg h]
    apply World.cell?_of_block
    show (w.heap.push _)[b]? = w.heap[b]?
    rw [Array.getElem?_push, if_neg h]
theorem getElem_snoc {α : Type} (vs : List α) (x : α) (k : Nat) (h : vs.length = k) : (vs ++ [x])[k]? = some x := by subst h; simp
theorem flatMap_take_snoc {α : Type} (f : α → List Value) (l : List α) (k : Nat) (d : α) (h : k < l.length) : (l.take (k + 1)).flatMap f = (l.take k).flatMap f ++ f (l.getD k d) := by
  rw [List.take_succ_eq_append_getElem h, List.flatMap_append]
  simp [List.getD, List.getElem?_eq_getElem h]
theorem map_take_snoc {α β : Type} (f : α → β) (l : List α) (k : Nat) (d : α) (h : k < l.length) : (l.take (k + 1)).map f = (l.take k).map f ++ [f (l.getD k d)] := by
  rw [List.take_succ_eq_append_getElem h, List.map_append]
  simp [List.getD, List.getElem?_eq_getElem h]
end Go.Proofs.YtcngmajkkhipoaaGreatDoor
namespace Go.Proofs.YtcngmajkkhipoaaGreatDoor
set_option linter.unusedVariables false
open Go.RowKit
theorem grown_setJ (W : World) (b j : Nat) (v : Value) : W.grownBy (W.setCell ⟨b, j, none⟩ v) (some b) :=
  ⟨rfl, rfl, rfl, by simp [World.setCell], fun k _ hne => heap_setCell_other W ⟨b, j, none⟩ k v (fun h => hne (by rw [h]))⟩
theorem Blk.setJ {w : World} {g : Nat} {t : TypeId} {cs : Array Value} (hb : Blk w g t cs) (i : Nat) (v : Value) : Blk (w.setCell ⟨g, i, none⟩ v) g t (cs.setIfInBounds i v) := heap_setCell_same w g i cs t v hb
theorem Blk.setO {w : World} {g g0 : Nat} {t : TypeId} {cs : Array Value} (h : Blk w g t cs) (hne : g ≠ g0) (j : Nat) (u : Value) : Blk (w.setCell ⟨g0, j, none⟩ u) g t cs := h.grown (grown_setJ w g0 j u) (by simpa using hne)
theorem own_setO {w : World} {base size n : Nat} {e : TypeId} {v : Value} {xs : List Value} (h : w.ownsRow base e size v n xs) {g : Nat} {t : TypeId} {cs : Array Value} (hk : Blk w g t cs) (hne : e ≠ t) (j : Nat) (u : Value) : (w.setCell ⟨g, j, none⟩ u).ownsRow base e size v n xs :=
  h.kept (grown_setJ w g j u) (Or.inr fun he => own_blk h hk hne he.symm)
theorem own_set2 {w : World} {base size n : Nat} {e : TypeId} {v : Value} {xs : List Value} (h : w.ownsRow base e size v n xs) {g : Nat} {t : TypeId} {cs : Array Value} (hk : Blk w g t cs) (hne : e ≠ t) (i j : Nat) (x y : Value) : ((w.setCell ⟨g, i, none⟩ x).setCell ⟨g, j, none⟩ y).ownsRow base e size v n xs :=
  own_setO (own_setO h hk hne i x) (hk.setJ i x) hne j y
theorem Blk.set2O {w : World} {g g0 : Nat} {t : TypeId} {cs : Array Value} (h : Blk w g t cs) (hne : g ≠ g0) (i j : Nat) (x y : Value) : Blk ((w.setCell ⟨g0, i, none⟩ x).setCell ⟨g0, j, none⟩ y) g t cs := (h.setO hne i x).setO hne j y
theorem Blk.set01 {w : World} {g : Nat} {t : TypeId} {a b : Value} (h : Blk w g t #[a, b]) (x y : Value) : Blk ((w.setCell ⟨g, 0, none⟩ x).setCell ⟨g, 1, none⟩ y) g t #[x, y] := (h.setJ 0 x).setJ 1 y
theorem bS2 {w0 W : World} (h : Below w0.heap.size w0 W) {b : Nat} (hb : w0.heap.size ≤ b) (i j : Nat) (x y : Value) : Below w0.heap.size w0 ((W.setCell ⟨b, i, none⟩ x).setCell ⟨b, j, none⟩ y) := bS (bS h hb _) hb _
theorem own_set3 {w : World} {base size n : Nat} {e : TypeId} {v : Value} {xs : List Value} (h : w.ownsRow base e size v n xs) {g : Nat} {t : TypeId} {cs : Array Value} (hk : Blk w g t cs) (hne : e ≠ t) (i j k : Nat) (x y z : Value) : (((w.setCell ⟨g, i, none⟩ x).setCell ⟨g, j, none⟩ y).setCell ⟨g, k, none⟩ z).ownsRow base e size v n xs :=
  own_setO (own_set2 h hk hne i j x y) ((hk.setJ i x).setJ j y) hne k z
theorem own_set5 {w : World} {base size n : Nat} {e : TypeId} {v : Value} {xs : List Value} (h : w.ownsRow base e size v n xs) {g : Nat} {t : TypeId} {cs : Array Value} (hk : Blk w g t cs) (hne : e ≠ t) (v0 v1 v2 v3 v4 : Value) : (((((w.setCell ⟨g, 0, none⟩ v0).setCell ⟨g, 1, none⟩ v1).setCell ⟨g, 2, none⟩ v2).setCell ⟨g, 3, none⟩ v3).setCell ⟨g, 4, none⟩ v4).ownsRow base e size v n xs :=
  h.kept (((((grown_setJ w g 0 v0).trans (grown_setJ _ g 1 v1)).trans (grown_setJ _ g 2 v2)).trans (grown_setJ _ g 3 v3)).trans (grown_setJ _ g 4 v4)) (Or.inr fun he => own_blk h hk hne he.symm)
theorem bS5s {w0 W : World} (h : Below w0.heap.size w0 W) {b : Nat} (hb : w0.heap.size ≤ b) (v0 v1 v2 v3 v4 : Value) : Below w0.heap.size w0 (((((W.setCell ⟨b, 0, none⟩ v0).setCell ⟨b, 1, none⟩ v1).setCell ⟨b, 2, none⟩ v2).setCell ⟨b, 3, none⟩ v3).setCell ⟨b, 4, none⟩ v4) := bS (bS (bS (bS (bS h hb _) hb _) hb _) hb _) hb _
theorem Blk.set3O {w : World} {g g0 : Nat} {t : TypeId} {cs : Array Value} (h : Blk w g t cs) (hne : g ≠ g0) (i j k : Nat) (x y z : Value) : Blk (((w.setCell ⟨g0, i, none⟩ x).setCell ⟨g0, j, none⟩ y).setCell ⟨g0, k, none⟩ z) g t cs := (h.set2O hne i j x y).setO hne k z
theorem bS3 {w0 W : World} (h : Below w0.heap.size w0 W) {b : Nat} (hb : w0.heap.size ≤ b) (i j k : Nat) (x y z : Value) : Below w0.heap.size w0 (((W.setCell ⟨b, i, none⟩ x).setCell ⟨b, j, none⟩ y).setCell ⟨b, k, none⟩ z) := bS (bS2 h hb i j x y) hb _
theorem Blk.a5g {w : World} {g : Nat} {t : TypeId} {a b c d e : Value} (h : Blk w g t #[a, b, c, d, e]) : (w.cell? ⟨g, 0, none⟩ = some a ∧ w.cell? ⟨g, 1, none⟩ = some b ∧ w.cell? ⟨g, 2, none⟩ = some c ∧ w.cell? ⟨g, 3, none⟩ = some d ∧ w.cell? ⟨g, 4, none⟩ = some e) ∧ (w.frozen? ⟨g, 0, none⟩ = false ∧ w.frozen? ⟨g, 1, none⟩ = false ∧ w.frozen? ⟨g, 2, none⟩ = false ∧ w.frozen? ⟨g, 3, none⟩ = false ∧ w.frozen? ⟨g, 4, none⟩ = false) := ⟨⟨h.cell 0, h.cell 1, h.cell 2, h.cell 3, h.cell 4⟩, h.free 0, h.free 1, h.free 2, h.free 3, h.free 4⟩
/-- a cell of a row of the call's own, written -/
theorem own_setR {w : World} {base size n cap g : Nat} {e : TypeId} {xs : List Value} (h : w.ownsRow base e size (.slice (some ⟨g, 0, none⟩) n cap) n xs) (j : Nat) (hj : j < n * size) (u : Value) :
    (w.setCell ⟨g, j, none⟩ u).ownsRow base e size (.slice (some ⟨g, 0, none⟩) n cap) n (xs.set j u) := by
  obtain ⟨h1, h2 | ⟨g', cap', cur, hv, hb, hg, hle, hm, hs, ht⟩⟩ := h
  · cases h2.1
  · injection hv with hA _ hc
    injection hA with hA
    injection hA with hg' _
    subst hg'
    subst hc
    refine ⟨by rw [List.length_set]; exact h1, Or.inr ⟨g, cap, cur.setIfInBounds j u, rfl, hb, heap_setCell_same w g j cur e u hg, hle, hm, by simpa using hs, ?_⟩⟩
    rw [← ht]
    simp [List.take_set]
theorem flat_set {α : Type} (f : α → List Value) (K : Nat) (hf : ∀ x, (f x).length = K) (i : Nat) (u : Value) (hi : i < K) : ∀ (l : List α) (k : Nat) (y : α) (d : α), k < l.length → f y = (f (l.getD k d)).set i u → (l.flatMap f).set (k * K + i) u = (l.set k y).flatMap f := by
  intro l
  induction l with
  | nil => intro k y d hk; simp at hk
  | cons x l ih =>
    intro k y d hk hy
    cases k with
    | zero =>
      simp only [List.getD_cons_zero] at hy
      rw [Nat.zero_mul, Nat.zero_add, List.flatMap_cons, List.set_cons_zero, List.flatMap_cons, List.set_append_left _ _ (by rw [hf]; exact hi), hy]
    | succ k =>
      rw [List.flatMap_cons, List.set_cons_succ, List.flatMap_cons, ← ih k y d (by simpa using hk) (by simpa using hy), List.set_append_right _ _ (by rw [hf, Nat.succ_mul]; omega), hf]
      congr 2
      rw [Nat.succ_mul]; omega
end Go.Proofs.YtcngmajkkhipoaaGreatDoor
namespace Go.Proofs.YtcngmajkkhipoaaGreatDoor
set_option linter.unusedVariables false
open Go.RowKit
def st0 : ByteArray := ⟨#[]⟩
def stC (s : ByteArray) : List Value := [.string s]
theorem stC_len (s : ByteArray) : (stC s).length = 1 := rfl
abbrev StSl := RowSl stC 1 st0
def OwnSt (w : World) (base : Nat) (v : Value) (n : Nat) (l : List ByteArray) : Prop := n = l.length ∧ w.ownsRow base 9 1 v n (l.flatMap stC)
theorem info_str : (Tryz.prog.info? 9).map (fun i => (i.zero, i.size, i.bytes)) = some (some (.string ⟨#[]⟩), 1, 16) := by kernel_rfl
theorem OwnSt.sl {w : World} {base : Nat} {v : Value} {n : Nat} {l : List ByteArray} (h : OwnSt w base v n l) : ∃ A c, v = .slice A n c ∧ StSl w A n l := by
  obtain ⟨A, c, rfl, _, hs⟩ := own_sl stC 1 st0 stC_len h.2 h.1 (by decide)
  exact ⟨A, c, rfl, hs⟩
theorem OwnSt.below {w w' : World} {base : Nat} {v : Value} {n : Nat} {l : List ByteArray} (h : OwnSt w base v n l) (hb : Below w.heap.size w w') : OwnSt w' base v n l := ⟨h.1, own_below h.2 hb⟩
section
open Go.ChangeShapes Go.WideShapes Go.Deep
variable {H : Type} {enc : TypeId × Value → H} {w : World}
set_option maxRecDepth 100000
def StAt (w : World) (b off : Nat) (s : ByteArray) : Prop := RowAt stC w b off s ∧ s.size ≤ 9223372036854775807
theorem open_sts {r : Reach} {b0 : Nat} {v : Value} {d : DataW H} {p : List MemPlace} (hv : Value.okWide Tryz.prog w r b0 33 v) (h : DataW.Trod enc Tryz.prog w 0 (fun _ => true) true 33 v d p) :
    ∃ A n c l, v = .slice A n c ∧ StSl w A n l ∧ ∀ k, k < n → (l.getD k st0).size ≤ 9223372036854775807 := by
  obtain ⟨m, hm⟩ := trod_slice_arg Tryz.underlying33 hv h
  obtain ⟨A, n, c, l, rfl, _, _, h1, h2, h3⟩ := open_sl StAt 1 st0 (by decide) Tryz.underlying33 (by kernel_rfl) (fun b off cs m x hb hl hc hx => by
    match cs, hl with
    | [a0], _ =>
      obtain ⟨s, rfl, hs⟩ := cell_string Tryz.underlying9 hx
      exact ⟨s, hc, hs⟩) hm
  refine ⟨A, n, c, l, rfl, ⟨h1, h2, fun hn => ?_⟩, fun k hk => ?_⟩
  · obtain ⟨b, off, hA, hlt, hat⟩ := h3 hn
    exact ⟨b, off, hA, hlt, fun k hk => (hat k hk).1⟩
  · obtain ⟨b, off, hA, hlt, hat⟩ := h3 (by omega)
    exact (hat k hk).2
theorem open_str {r : Reach} {b0 : Nat} {v : Value} {d : DataW H} {p : List MemPlace} (hv : Value.okWide Tryz.prog w r b0 9 v) (h : DataW.Trod enc Tryz.prog w 0 (fun _ => true) true 9 v d p) :
    ∃ s, v = .string s ∧ s.size ≤ 9223372036854775807 := by
  obtain ⟨s, rfl, _, _, hs⟩ := Go.ChangeMaps.open_string Tryz.underlying9 hv h
  exact ⟨s, rfl, by unfold maxLen at hs; exact hs⟩
end
end Go.Proofs.YtcngmajkkhipoaaGreatDoor
namespace Go.Proofs.YtcngmajkkhipoaaGreatDoor
set_option linter.unusedVariables false
/-- may a byte be in a word without quotes; within quotes? -/
def plB (c : Int) : Bool := decide (33 ≤ c) && (decide (c ≤ 126) && (decide (c ≠ 34) && decide (c ≠ 35)))
def shB (c : Int) : Bool := decide (32 ≤ c) && (decide (c ≤ 126) && decide (c ≠ 34))
theorem plB_sh {c : Int} (h : plB c = true) : shB c = true := by
  unfold plB at h; unfold shB
  simp at h ⊢
  omega
def bI (c : UInt8) : Int := c.toNat
def wcons (a : List UInt8) (x : Int × List (List UInt8)) : Int × List (List UInt8) := if x.1 = 0 then (0, a :: x.2) else (x.1, [])
/-- the words of the rest of a line: between words (0), within one (1), within quotes (2), behind one (3) -/
def cutM : Nat → List UInt8 → Nat → List UInt8 → Int × List (List UInt8)
  | m, [], n, acc => if m = 0 then (0, []) else if m = 1 then (if acc = [] then (5, []) else (0, [acc])) else if m = 2 then (5, []) else (0, [acc])
  | m, c :: r, n, acc =>
    if m = 0 then
      if bI c = 35 then (0, []) else if bI c = 32 then cutM 0 r n [] else if n = 32 then (2, []) else if bI c = 34 then cutM 2 r n [] else if plB (bI c) = true then cutM 1 r n [c] else (5, [])
    else if m = 1 then
      if plB (bI c) = true then cutM 1 r n (acc ++ [c]) else if acc = [] then (5, []) else if bI c = 32 then wcons acc (cutM 0 r (n + 1) []) else if bI c = 35 then (0, [acc]) else (5, [])
    else if m = 2 then
      if shB (bI c) = true then cutM 2 r n (acc ++ [c]) else if bI c = 34 then cutM 3 r n acc else (5, [])
    else
      if bI c = 32 then wcons acc (cutM 0 r (n + 1) []) else if bI c = 35 then (0, [acc]) else (5, [])
/-- a line's words, and why there are none -/
def cutR (l : List UInt8) : Int × List (List UInt8) := if 512 < l.length then (2, []) else cutM 0 l 0 []
/-- what stands ahead, and what is still found -/
def glue (out : List (List UInt8)) (x : Int × List (List UInt8)) : Int × List (List UInt8) := if x.1 = 0 then (0, out ++ x.2) else (x.1, [])
theorem glue_wcons (out : List (List UInt8)) (a : List UInt8) (x : Int × List (List UInt8)) : glue out (wcons a x) = glue (out ++ [a]) x := by
  unfold glue wcons
  by_cases h : x.1 = 0
  · simp [h]
  · simp [h]
theorem cutM_behind (l : List UInt8) (n : Nat) (acc : List UInt8) (h : l = [] ∨ ∃ c r, l = c :: r ∧ (bI c = 32 ∨ bI c = 35)) : cutM 3 l n acc = wcons acc (cutM 0 l (n + 1) []) := by
  rcases h with rfl | ⟨c, r, rfl, h⟩
  · simp [cutM, wcons]
  · rcases h with h | h
    · simp only [cutM, h]; simp
    · simp only [cutM, h]; simp [wcons]
theorem cutM_end (l : List UInt8) (n : Nat) (acc : List UInt8) (ha : acc ≠ []) (h : l = [] ∨ ∃ c r, l = c :: r ∧ plB (bI c) = false) : cutM 1 l n acc = cutM 3 l n acc := by
  rcases h with rfl | ⟨c, r, rfl, h⟩
  · simp [cutM, ha]
  · simp only [cutM, h]; simp [ha]
/-- bytes that are all of a kind -/
def allB (p : Int → Bool) (l : List UInt8) : Bool := l.all fun c => p (bI c)
theorem cutM_plain : ∀ (s rest : List UInt8) (n : Nat) (acc : List UInt8), allB plB s = true → cutM 1 (s ++ rest) n acc = cutM 1 rest n (acc ++ s)
  | [], rest, n, acc, _ => by simp
  | c :: s, rest, n, acc, h => by
    have h1 : plB (bI c) = true ∧ allB plB s = true := by simpa [allB] using h
    rw [List.cons_append, show cutM 1 (c :: (s ++ rest)) n acc = cutM 1 (s ++ rest) n (acc ++ [c]) from by simp only [cutM, h1.1]; simp]
    rw [cutM_plain s rest n (acc ++ [c]) h1.2]
    simp
theorem cutM_shown : ∀ (s rest : List UInt8) (n : Nat) (acc : List UInt8), allB shB s = true → cutM 2 (s ++ 34 :: rest) n acc = cutM 3 rest n (acc ++ s)
  | [], rest, n, acc, _ => by
    have h34 : bI 34 = 34 := rfl
    have hs : shB 34 = false := by decide
    simp [cutM, h34, hs]
  | c :: s, rest, n, acc, h => by
    have h1 : shB (bI c) = true ∧ allB shB s = true := by simpa [allB] using h
    rw [List.cons_append, show cutM 2 (c :: (s ++ 34 :: rest)) n acc = cutM 2 (s ++ 34 :: rest) n (acc ++ [c]) from by simp only [cutM, h1.1]; simp]
    rw [cutM_shown s rest n (acc ++ [c]) h1.2]
    simp
/-- a word needs no quotes -/
def bareB (l : List UInt8) : Bool := decide (l ≠ []) && allB plB l
/-- why a word may not stand in a line; how it stands there -/
def qE (l : List UInt8) : Int := if allB shB l = true then 0 else 5
def qT (l : List UInt8) : List UInt8 := if allB shB l = true then (if bareB l = true then l else 34 :: (l ++ [34])) else []
theorem qT_bare {l : List UInt8} (h : bareB l = true) : qE l = 0 ∧ qT l = l := by
  have h1 : allB shB l = true := by
    unfold bareB at h
    simp only [Bool.and_eq_true] at h
    have := h.2
    unfold allB at this ⊢
    rw [List.all_eq_true] at this ⊢
    exact fun x hx => plB_sh (this x hx)
  unfold qE qT
  simp [h1, h]
theorem qT_quoted {l : List UInt8} (h1 : allB shB l = true) (h : bareB l = false) : qE l = 0 ∧ qT l = 34 :: (l ++ [34]) := by
  unfold qE qT
  simp [h1, h]
/-- one word and what is behind it -/
theorem cutM_word (w rest : List UInt8) (n : Nat) (hn : n < 32) (hw : allB shB w = true) (hr : rest = [] ∨ ∃ r, rest = 32 :: r) : cutM 0 (qT w ++ rest) n [] = wcons w (cutM 0 rest (n + 1) []) := by
  have hb : rest = [] ∨ ∃ c r, rest = c :: r ∧ (bI c = 32 ∨ bI c = 35) := by
    rcases hr with h | ⟨r, h⟩
    · exact Or.inl h
    · exact Or.inr ⟨32, r, h, Or.inl rfl⟩
  have hp : rest = [] ∨ ∃ c r, rest = c :: r ∧ plB (bI c) = false := by
    rcases hr with h | ⟨r, h⟩
    · exact Or.inl h
    · exact Or.inr ⟨32, r, h, by decide⟩
  cases hbare : bareB w
  · rw [(qT_quoted hw hbare).2]
    have e : cutM 0 (34 :: (w ++ [34]) ++ rest) n [] = cutM 2 (w ++ 34 :: rest) n [] := by
      have h34 : bI 34 = 34 := rfl
      simp [cutM, h34]
      omega
    rw [e, cutM_shown w rest n [] hw, cutM_behind _ _ _ hb]
    simp
  · rw [(qT_bare hbare).2]
    unfold bareB at hbare
    simp only [Bool.and_eq_true, decide_eq_true_eq] at hbare
    obtain ⟨hne, hpl⟩ := hbare
    cases w with
    | nil => exact absurd rfl hne
    | cons c s =>
      have h1 : plB (bI c) = true ∧ allB plB s = true := by simpa [allB] using hpl
      have hc : bI c ≠ 35 ∧ bI c ≠ 32 ∧ bI c ≠ 34 := by
        have := h1.1
        unfold plB at this
        simp at this
        omega
      have e : cutM 0 (c :: s ++ rest) n [] = cutM 1 (s ++ rest) n [c] := by
        have : n ≠ 32 := by omega
        simp [cutM, hc.1, hc.2.1, hc.2.2, this, h1.1]
      rw [e, cutM_plain s rest n [c] h1.2]
      rw [show [c] ++ s = c :: s from rfl, cutM_end rest n (c :: s) (by simp) hp, cutM_behind _ _ _ hb]
/-- words one behind the other, a blank between two -/
def joinQ : List (List UInt8) → List UInt8
  | [] => []
  | w :: ws => qT w ++ (match ws with | [] => [] | _ :: _ => 32 :: joinQ ws)
theorem cut_join : ∀ (ws : List (List UInt8)) (n : Nat), n + ws.length ≤ 32 → (∀ w ∈ ws, allB shB w = true) → cutM 0 (joinQ ws) n [] = (0, ws)
  | [], n, _, _ => by simp [joinQ, cutM]
  | [w], n, hn, h => by
    rw [show joinQ [w] = qT w ++ [] from rfl, cutM_word w [] n (by simp at hn; omega) (h w (by simp)) (Or.inl rfl)]
    simp [cutM, wcons]
  | w :: v :: ws, n, hn, h => by
    have ih := cut_join (v :: ws) (n + 1) (by simp at hn ⊢; omega) (fun x hx => h x (by simp at hx ⊢; exact Or.inr hx))
    have e : joinQ (w :: v :: ws) = qT w ++ 32 :: joinQ (v :: ws) := rfl
    rw [e, cutM_word w (32 :: joinQ (v :: ws)) n (by simp at hn; omega) (h w (by simp)) (Or.inr ⟨_, rfl⟩)]
    have e2 : cutM 0 (32 :: joinQ (v :: ws)) (n + 1) [] = cutM 0 (joinQ (v :: ws)) (n + 1) [] := by
      have h32 : bI 32 = 32 := rfl
      simp [cutM, h32]
    rw [e2, ih]
    simp [wcons]
/-- the first k words joined, or why they aren't -/
def joinT (ws : List (List UInt8)) : Nat → Int × List UInt8
  | 0 => (0, [])
  | k + 1 =>
    if (joinT ws k).1 ≠ 0 then joinT ws k
    else if qE (ws.getD k []) ≠ 0 then (5, [])
    else if 512 < ((joinT ws k).2 ++ ((if k = 0 then [] else [32]) ++ qT (ws.getD k []))).length then (2, [])
    else (0, (joinT ws k).2 ++ ((if k = 0 then [] else [32]) ++ qT (ws.getD k [])))
theorem joinQ_snoc : ∀ (ws : List (List UInt8)) (w : List UInt8), joinQ (ws ++ [w]) = joinQ ws ++ ((if ws = [] then [] else [32]) ++ qT w)
  | [], w => by simp [joinQ]
  | [v], w => by simp [joinQ]
  | v :: u :: ws, w => by
    have ih := joinQ_snoc (u :: ws) w
    rw [show (v :: u :: ws) ++ [w] = v :: u :: (ws ++ [w]) from rfl]
    rw [show joinQ (v :: u :: (ws ++ [w])) = qT v ++ 32 :: joinQ (u :: (ws ++ [w])) from rfl]
    rw [show u :: (ws ++ [w]) = (u :: ws) ++ [w] from rfl, ih]
    rw [show joinQ (v :: u :: ws) = qT v ++ 32 :: joinQ (u :: ws) from rfl]
    simp
/-- joined without an error: they are, and each may stand in a line -/
theorem joinT_ok (ws : List (List UInt8)) : ∀ k, k ≤ ws.length → (joinT ws k).1 = 0 → (joinT ws k).2 = joinQ (ws.take k) ∧ (∀ w ∈ ws.take k, allB shB w = true) ∧ (joinT ws k).2.length ≤ 512 := by
  intro k
  induction k with
  | zero => intro _ _; simp [joinT, joinQ]
  | succ k ih =>
    intro hk h
    rw [joinT] at h ⊢
    by_cases h0 : (joinT ws k).1 ≠ 0
    · rw [if_pos h0] at h; exact absurd h h0
    · rw [if_neg h0] at h ⊢
      have h0' : (joinT ws k).1 = 0 := by simpa using h0
      obtain ⟨i1, i2, i3⟩ := ih (by omega) h0'
      by_cases h1 : qE (ws.getD k []) ≠ 0
      · rw [if_pos h1] at h; exact absurd h (by decide)
      · rw [if_neg h1] at h ⊢
        by_cases h2 : 512 < ((joinT ws k).2 ++ ((if k = 0 then [] else [32]) ++ qT (ws.getD k []))).length
        · rw [if_pos h2] at h; exact absurd h (by decide)
        · rw [if_neg h2]
          have hg : ws.getD k [] = ws[k]'(by omega) := by simp [List.getD, List.getElem?_eq_getElem (show k < ws.length by omega)]
          have ht : ws.take (k + 1) = ws.take k ++ [ws.getD k []] := by rw [hg]; exact List.take_succ_eq_append_getElem (by omega)
          have hz : (ws.take k = []) ↔ k = 0 := by
            constructor
            · intro h
              have : (ws.take k).length = 0 := by rw [h]; rfl
              rw [List.length_take] at this
              omega
            · rintro rfl; rfl
          refine ⟨?_, ?_, Nat.le_of_not_lt h2⟩
          · rw [ht, joinQ_snoc, i1]
            by_cases hk0 : k = 0
            · rw [if_pos hk0, if_pos (hz.2 hk0)]
            · rw [if_neg hk0, if_neg (fun h => hk0 (hz.1 h))]
          · intro w hw
            rw [ht] at hw
            rcases List.mem_append.1 hw with hw | hw
            · exact i2 w hw
            · simp at hw
              subst hw
              unfold qE at h1
              by_cases h3 : allB shB (ws.getD k []) = true
              · simpa using h3
              · rw [if_neg h3] at h1; exact absurd (by decide) h1
theorem cut_joined (ws : List (List UInt8)) (hn : ws.length ≤ 32) (h : (joinT ws ws.length).1 = 0) : cutR (joinT ws ws.length).2 = (0, ws) := by
  obtain ⟨h1, h2, h3⟩ := joinT_ok ws ws.length (Nat.le_refl _) h
  rw [List.take_length] at h1 h2
  unfold cutR
  rw [if_neg (by omega), h1]
  exact cut_join ws 0 (by omega) h2
end Go.Proofs.YtcngmajkkhipoaaGreatDoor
namespace Go.Proofs.YtcngmajkkhipoaaGreatDoor
set_option linter.unusedVariables false
open Go.RowKit
/-- as Q; by a goto to a label: what holds there -/
def Exit.jumps (J : Nat → Act → World → Prop) (Q : Exit → Act → World → Prop) : Exit → Act → World → Prop
  | .goto l, a, w => J l a w
  | e, a, w => Q e a w
theorem Exit.jumps_ret {J : Nat → Act → World → Prop} {Q : Exit → Act → World → Prop} : Exit.jumps J Q .ret = Q .ret := rfl
theorem Exit.jumps_goto {J : Nat → Act → World → Prop} {Q : Exit → Act → World → Prop} (l : Nat) (a : Act) (w : World) : Exit.jumps J Q (.goto l) a w = J l a w := rfl
theorem jumps_mono {J J' : Nat → Act → World → Prop} {Q : Exit → Act → World → Prop} (h : ∀ l a w, J l a w → J' l a w) : ∀ e a w, Exit.jumps J Q e a w → Exit.jumps J' Q e a w := by
  intro e a w hh
  cases e with
  | goto l => exact h l a w hh
  | normal => exact hh
  | exit id => exact hh
  | ret => exact hh
  | panic ch => exact hh
  | outgrown => exact hh
section
variable {P : Program} {a : Act} {w : World} {Q : Exit → Act → World → Prop}
theorem wp_scope_many {c : Code} (R : Nat → Code) (J : Nat → Act → World → Prop) (μ : Nat → Act → World → Nat) (hf : ∀ l a w, J l a w → findLabel c l = some (.seq .skip (R l)))
    (first : c.wp P (Exit.jumps J Q) a w)
    (pass : ∀ l a w, J l a w → (R l).wp P (Exit.jumps (fun l' a' w' => J l' a' w' ∧ μ l' a' w' < μ l a w) Q) a w) : (Code.scope c).wp P Q a w := by
  have sk : ∀ {r : Code} {Q : Exit → Act → World → Prop} {a : Act} {w : World}, r.wp P Q a w → (Code.seq .skip r).wp P Q a w := fun h => wp_seq (wp_skip h)
  intro b k cs
  have hg : ∀ l a w, J l a w → gotoIn l (.inScope c :: k) = some (.code (.seq .skip (R l)) :: .inScope c :: k) := fun l a w h => by simp [gotoIn, hf l a w h]
  have key : ∀ n l a w, μ l a w = n → J l a w → ∃ e a' w', Q e a' w' ∧ Arrives P (lone (b.at a (.code (.seq .skip (R l)) :: .inScope c :: k)) cs w) b k cs e a' w' := by
    intro n
    induction n using Nat.strongRecOn with
    | _ n ih =>
      intro l a w hn hJ
      obtain ⟨e, a₁, w₁, hq, harr⟩ := sk (pass l a w hJ) b (.inScope c :: k) cs
      cases e with
      | normal => exact ⟨.normal, a₁, w₁, hq, Steps.trans harr (.one step_inScope)⟩
      | exit id => exact ⟨.exit id, a₁, w₁, hq, fun k' hk => harr k' (by simp [exitTo, hk])⟩
      | goto l' =>
        obtain ⟨hJ', hlt⟩ := hq
        obtain ⟨e₂, a₂, w₂, hq₂, harr₂⟩ := ih _ (by omega) l' a₁ w₁ rfl hJ'
        exact ⟨e₂, a₂, w₂, hq₂, .of_steps (harr _ (hg l' a₁ w₁ hJ')) harr₂⟩
      | ret => exact ⟨_, a₁, w₁, hq, harr⟩
      | panic ch => exact ⟨_, a₁, w₁, hq, harr⟩
      | outgrown => exact ⟨_, a₁, w₁, hq, harr⟩
  obtain ⟨e, a₁, w₁, hq, harr⟩ := first b (.inScope c :: k) cs
  cases e with
  | normal => exact ⟨.normal, a₁, w₁, hq, .head step_scope (Steps.trans harr (.one step_inScope))⟩
  | exit id => exact ⟨.exit id, a₁, w₁, hq, fun k' hk => .head step_scope (harr k' (by simp [exitTo, hk]))⟩
  | goto l' =>
    have hJ' : J l' a₁ w₁ := hq
    obtain ⟨e₂, a₂, w₂, hq₂, harr₂⟩ := key _ l' a₁ w₁ rfl hJ'
    exact ⟨e₂, a₂, w₂, hq₂, .of_steps (.head step_scope (harr _ (hg l' a₁ w₁ hJ'))) harr₂⟩
  | ret => exact ⟨_, a₁, w₁, hq, .of_steps (.one step_scope) harr⟩
  | panic ch => exact ⟨_, a₁, w₁, hq, .of_steps (.one step_scope) harr⟩
  | outgrown => exact ⟨_, a₁, w₁, hq, .of_steps (.one step_scope) harr⟩
/-- what stands behind a label -/
def labelRest (c : Code) (l : Nat) : Code := match findLabel c l with
  | some (.seq _ r) => r
  | _ => .skip
theorem wp_of_find {c r : Code} {l : Nat} (h : findLabel c l = some (.seq .skip r)) (hr : r.wp P Q a w) : (labelRest c l).wp P Q a w := by
  have e : labelRest c l = r := by unfold labelRest; rw [h]
  rw [e]; exact hr
theorem find_wp {c r : Code} {l : Nat} (h : findLabel c l = some (.seq .skip r)) (hr : (labelRest c l).wp P Q a w) : r.wp P Q a w := by
  have e : labelRest c l = r := by unfold labelRest; rw [h]
  rw [← e]; exact hr
/-- .. where a pass that comes to the next label by falling through hands on to it -/
theorem wp_scope_labels {c : Code} (J : Nat → Act → World → Prop) (μ : Nat → Act → World → Nat) (hf0 : ∀ l a w, J l a w → ∃ r, findLabel c l = some (.seq .skip r))
    (pass : ∀ l a w, J l a w → (∀ l' a' w', J l' a' w' → μ l' a' w' < μ l a w → (labelRest c l').wp P (Exit.jumps (fun l'' a'' w'' => J l'' a'' w'' ∧ μ l'' a'' w'' < μ l a w) Q) a' w') → (labelRest c l).wp P (Exit.jumps (fun l' a' w' => J l' a' w' ∧ μ l' a' w' < μ l a w) Q) a w)
    (first : (∀ l a w, J l a w → (labelRest c l).wp P (Exit.jumps J Q) a w) → c.wp P (Exit.jumps J Q) a w) : (Code.scope c).wp P Q a w := by
  have hf : ∀ l a w, J l a w → findLabel c l = some (.seq .skip (labelRest c l)) := fun l a w h => by
    obtain ⟨r, hr⟩ := hf0 l a w h
    have e : labelRest c l = r := by unfold labelRest; rw [hr]
    rw [e]; exact hr
  generalize labelRest c = R at *
  have all : ∀ n l a w, μ l a w = n → J l a w → (R l).wp P (Exit.jumps (fun l' a' w' => J l' a' w' ∧ μ l' a' w' < μ l a w) Q) a w := by
    intro n
    induction n using Nat.strongRecOn with
    | _ n ih =>
      intro l a w hn hJ
      refine pass l a w hJ fun l' a' w' hJ' hlt => ?_
      refine Code.wp_mono (jumps_mono fun l'' a'' w'' h => ⟨h.1, Nat.lt_trans h.2 hlt⟩) (ih (μ l' a' w') (by omega) l' a' w' rfl hJ')
  exact wp_scope_many R J μ hf (first fun l a w h => Code.wp_mono (jumps_mono fun l' a' w' h => h.1) (all _ l a w rfl h)) fun l a w h => all _ l a w rfl h
end
end Go.Proofs.YtcngmajkkhipoaaGreatDoor
namespace Go.Proofs.YtcngmajkkhipoaaGreatDoor
set_option linter.unusedVariables false
open Go.RowKit
section
variable {P : Program} {ops : Array Oper} {Q : Exit → Act → World → Prop}
/-- how many are still to come -/
def todo (b : Nat → Bool) : Nat → Nat
  | 0 => 0
  | n + 1 => todo b n + if b n = true then 0 else 1
theorem todo_le (b : Nat → Bool) : ∀ n, todo b n ≤ n
  | 0 => Nat.le_refl _
  | n + 1 => by have := todo_le b n; unfold todo; split <;> omega
theorem todo_more (b : Nat → Bool) (i : Nat) (hb : b i = false) : ∀ n, i < n → todo (fun j => if j = i then true else b j) n + 1 = todo b n
  | 0, h => by omega
  | n + 1, h => by
    have hlow : ∀ m, m ≤ i → todo (fun j => if j = i then true else b j) m = todo b m := by
      intro m
      induction m with
      | zero => intro _; rfl
      | succ m ih =>
        intro hm
        unfold todo
        rw [ih (by omega), if_neg (show ¬ m = i by omega)]
    rcases Nat.lt_or_ge i n with hlt | hge
    · have := todo_more b i hb n hlt
      unfold todo
      rw [if_neg (show ¬ n = i by omega)]
      omega
    · have : n = i := by omega
      subst this
      unfold todo
      rw [hlow n (Nat.le_refl _), if_pos rfl, if_pos rfl, hb]
      simp
theorem todo_zero (b : Nat → Bool) : ∀ n, todo b n = 0 → ∀ i, i < n → b i = true
  | 0, _, i, hi => by omega
  | n + 1, h, i, hi => by
    unfold todo at h
    have h2 : b n = true := by
      cases hb : b n
      · simp [hb] at h
      · rfl
    rcases Nat.lt_or_ge i n with hlt | hge
    · exact todo_zero b n (by omega) i hlt
    · have : i = n := by omega
      subst this; exact h2
def bitsOf (n : Nat) (b : Nat → Bool) (l : Array Bool) : Prop := l.size = n ∧ ∀ i, i < n → l[i]? = some (b i)
theorem bits_set {n : Nat} {b : Nat → Bool} {l : Array Bool} (h : bitsOf n b l) (i : Nat) (hi : i < n) : bitsOf n (fun j => if j = i then true else b j) (l.setIfInBounds i true) := by
  refine ⟨by simpa using h.1, fun j hj => ?_⟩
  by_cases e : j = i
  · subst e
    have : j < l.size := by rw [h.1]; exact hi
    simp [this]
  · show _ = some (if j = i then true else b j)
    rw [if_neg e, Array.getElem?_setIfInBounds_ne (Ne.symm e)]
    exact h.2 j hj
theorem wpAny_inv (J : (Nat → Bool) → Act → World → Prop) (hord : ∀ (i : Nat) (o : Oper), ops[i]? = some o → ∀ e ∈ o.after, e.on < i)
    (step : ∀ b a w, J b a w → ∀ (i : Nat) (o : Oper), ops[i]? = some o → b i = false → (∀ e ∈ o.after, Region.binds .any e = true → b e.on = true) → ∀ K : Act → World → Prop, (∀ a' w', J (fun j => if j = i then true else b j) a' w' → K a' w') →
      if Region.wanted o (yielded ops a.tmps) = true then Oper.wp P o a w K Q else K (a.put o.dst undef) w)
    (done : ∀ b a w, J b a w → (∀ i, i < ops.size → b i = true) → Q .normal a w) :
    ∀ (fuel : Nat) (b : Nat → Bool) (l : Array Bool) (a : Act) (w : World), bitsOf ops.size b l → todo b ops.size ≤ fuel → J b a w → wpAny P .any ops Q fuel l a w := by
  have ready0 : ∀ (b : Nat → Bool) (l : Array Bool), bitsOf ops.size b l → Region.ready .any ops l = [] → ∀ i, i < ops.size → b i = true := by
    intro b l hb hr i
    induction i using Nat.strongRecOn with
    | ind i ih =>
      intro hi
      cases hbi : b i
      · exfalso
        have hm : i ∈ Region.ready .any ops l := by
          rw [mem_ready]
          refine ⟨by rw [Array.getD_eq_getD_getElem?, hb.2 i hi, hbi]; rfl, ops[i], by simp [hi], fun e he hbd => ?_⟩
          have hlt := hord i ops[i] (by simp [hi]) e he
          have := ih e.on hlt (by omega)
          rw [Array.getD_eq_getD_getElem?, hb.2 e.on (by omega), this]; rfl
        rw [hr] at hm
        cases hm
      · rfl
  intro fuel
  induction fuel with
  | zero =>
    intro b l a w hb ht hJ
    have hall := todo_zero b ops.size (by omega)
    refine ⟨?_, done b a w hJ hall⟩
    cases hr : Region.ready .any ops l with
    | nil => rfl
    | cons i rest =>
      exfalso
      have hm : i ∈ Region.ready .any ops l := by rw [hr]; simp
      obtain ⟨h0, o, ho, _⟩ := mem_ready.1 hm
      have hi := (Array.getElem?_eq_some_iff.1 ho).1
      rw [Array.getD_eq_getD_getElem?, hb.2 i hi, hall i hi] at h0
      cases h0
  | succ fuel ih =>
    intro b l a w hb ht hJ
    refine ⟨fun hr => done b a w hJ (ready0 b l hb hr), fun i hm => ?_⟩
    obtain ⟨h0, o, ho, hafter⟩ := mem_ready.1 hm
    have hi := (Array.getElem?_eq_some_iff.1 ho).1
    rw [Array.getD_eq_getD_getElem?, hb.2 i hi] at h0
    have hbi : b i = false := h0
    have haft : ∀ e ∈ o.after, Region.binds .any e = true → b e.on = true := fun e he hbd => by
      have h1 := hafter e he hbd
      have hlt := hord i o ho e he
      rw [Array.getD_eq_getD_getElem?, hb.2 e.on (by omega)] at h1
      exact h1
    refine wpOp_step ho (fun K hK => step b a w hJ i o ho hbi haft K fun a' w' hJ' => hK a' w' ?_)
    exact ih _ _ a' w' (bits_set hb i hi) (by have := todo_more b i hbi ops.size hi; omega) hJ'
/-- what holds at each state of a region, told by which of its operations have come up -/
theorem wp_region_inv {id : Nat} {a : Act} {w : World} (hm : P.follows .mixedOrders = true) (J : (Nat → Bool) → Act → World → Prop) (hord : (ops.toList.zipIdx.all fun p => p.1.after.all fun e => decide (e.on < p.2)) = true)
    (h0 : J (fun _ => false) a w.drew)
    (step : ∀ b a w, J b a w → ∀ (i : Nat) (o : Oper), ops[i]? = some o → b i = false → (∀ e ∈ o.after, Region.binds .any e = true → b e.on = true) → ∀ K : Act → World → Prop, (∀ a' w', J (fun j => if j = i then true else b j) a' w' → K a' w') →
      if Region.wanted o (yielded ops a.tmps) = true then Oper.wp P o a w K Q else K (a.put o.dst undef) w)
    (done : ∀ b a w, J b a w → (∀ i, i < ops.size → b i = true) → Q .normal a w) : (Code.region id ops true).wp P Q a w := by
  refine wp_region_any hm (wpAny_inv J ?_ step done ops.size (fun _ => false) _ a w.drew ⟨by simp, fun i hi => by simp [hi]⟩ (todo_le _ _) h0)
  intro i o ho e he
  rw [List.all_eq_true] at hord
  have := hord (o, i) (by
    rw [List.mem_zipIdx_iff_getElem?]
    simpa using ho)
  dsimp only at this
  rw [Array.all_eq_true_iff_forall_mem] at this
  simpa using this e he
/-- likewise, told by the state at the region's head -/
theorem wp_region_invA {id : Nat} {a : Act} {w : World} (hm : P.follows .mixedOrders = true) (J : Act → (Nat → Bool) → Act → World → Prop) (hord : (ops.toList.zipIdx.all fun p => p.1.after.all fun e => decide (e.on < p.2)) = true)
    (h0 : J a (fun _ => false) a w.drew)
    (step : ∀ b a' w, J a b a' w → ∀ (i : Nat) (o : Oper), ops[i]? = some o → b i = false → (∀ e ∈ o.after, Region.binds .any e = true → b e.on = true) → ∀ K : Act → World → Prop, (∀ a' w', J a (fun j => if j = i then true else b j) a' w' → K a' w') →
      if Region.wanted o (yielded ops a'.tmps) = true then Oper.wp P o a' w K Q else K (a'.put o.dst undef) w)
    (done : ∀ b a' w, J a b a' w → (∀ i, i < ops.size → b i = true) → Q .normal a' w) : (Code.region id ops true).wp P Q a w := wp_region_inv hm (J a) hord h0 step done
end
end Go.Proofs.YtcngmajkkhipoaaGreatDoor
