/-
  Contracts of word.Option and Lines. Conditions as named.
-/
import Derived.Test.YtohdmfedappenaaDoorParse
import Derived.Test.YtohdmfedappenaaDoorStr
import Derived.Test.YtohdmfedappenaaDoorShelf
import Derived.Lib.SplitLaws
namespace Go.Proofs.YtohdmfedappenaaDoor
set_option linter.unusedVariables false
open Go.RowKit
/-- the library's bound on short needles holds some number -/
def ML (w : World) : Prop := ∃ m, w.cell? ⟨2, 0, none⟩ = some (.int .i64 m)
theorem ML.t {w w' : World} (h : ML w) (hb : Below w.heap.size w w') : ML w' := by
  obtain ⟨m, hm⟩ := h
  exact ⟨m, (hb.cell (p := ⟨_, _, none⟩) (World.block_lt_of_cell? w _ hm)).trans hm⟩
theorem ML_of {w : World} (h : w.ShapedOpen Tryd.prog) : ML w := Tryd.laysM145.s1_3 w h
def opK (l : List UInt8) : Bool := (Lib.cut l [61]).2.2 && decide ((Lib.cut l [61]).1 ≠ [])
def opA (l : List UInt8) : List UInt8 := if opK l = true then (Lib.cut l [61]).1 else []
def opB (l : List UInt8) : List UInt8 := if opK l = true then (Lib.cut l [61]).2.1 else []
--%%
set_option maxHeartbeats 1600000 in
theorem option_c (s : ByteArray) (w : World) (hs : s.size ≤ 1000000) (hm : ML w) (ra rb : List UInt8) (rk : Bool) (ha : Hid (ra = opA s.data.toList)) (hb : Hid (rb = opB s.data.toList)) (hk : Hid (rk = opK s.data.toList)) :
    Calls Tryd.prog 16 #[.string s] w fun e w' => e = .returned (.tuple #[.string ⟨ra.toArray⟩, .string ⟨rb.toArray⟩, .bool rk]) ∧ Below w.heap.size w w' := by
  obtain ⟨m, hm⟩ := hm
  have KC := Lib.hid (fun W hm => Tryd.strings_Cut s ⟨#[61]⟩ m W (by omega) hm)
  have HA : Hid (ra = if opK s.data.toList = true then (Lib.cut s.data.toList [61]).1 else []) := ha
  have HB : Hid (rb = if opK s.data.toList = true then (Lib.cut s.data.toList [61]).2.1 else []) := hb
  have HK : Hid (opK s.data.toList = ((Lib.cut s.data.toList [61]).2.2 && decide ((Lib.cut s.data.toList [61]).1 ≠ []))) := rfl
  rw [← hk.out] at HA HB HK
  have e61 : (⟨#[61]⟩ : ByteArray).data.toList = [61] := rfl
  rw [e61] at KC
  generalize Lib.cut s.data.toList [61] = C at *
  obtain ⟨a, b, ok⟩ := C
  dsimp only at KC HA HB HK
  have HM := Lib.hid hm
  clear ha hb hk e61 hm
  have hsz : (⟨a.toArray⟩ : ByteArray).size = a.length := by show a.toArray.size = _; simp
  cases ok
  · obtain rfl : rk = false := HK.out
    obtain rfl : ra = [] := HA.out
    obtain rfl : rb = [] := HB.out
    clear HK HA HB
    go_enter Tryd.func16, Tryd.ntmps16
    go_wp2_with fail
    refine (KC.out _ HM.out).mono ?_
    rintro e w1 ⟨rfl, n, rfl⟩
    go_wp2_with fail
    go_ret3
    exact ⟨rfl, bD (b0 _) _⟩
  by_cases h0 : a = []
  · have e1 : rk = false := by rw [HK.out]; simp [h0]
    subst h0
    subst e1
    obtain rfl : ra = [] := HA.out
    obtain rfl : rb = [] := HB.out
    clear HK HA HB
    go_enter Tryd.func16, Tryd.ntmps16
    go_wp2_with fail
    refine (KC.out _ HM.out).mono ?_
    rintro e w1 ⟨rfl, n, rfl⟩
    go_wp2_with fail
    go_ret3
    exact ⟨rfl, bD (b0 _) _⟩
  · have e1 : rk = true := by rw [HK.out]; simp [h0]
    subst e1
    obtain rfl : ra = a := HA.out
    obtain rfl : rb = b := HB.out
    have hne : (⟨ra.toArray⟩ : ByteArray).size ≠ 0 := by rw [hsz]; simpa using h0
    obtain ⟨f1, f2⟩ := str_facts _ hne
    have f3 : ra.isEmpty = false := by cases ra; (exact absurd rfl h0); rfl
    clear HK HA HB hsz hne
    go_enter Tryd.func16, Tryd.ntmps16
    go_wp2_with fail
    refine (KC.out _ HM.out).mono ?_
    rintro e w1 ⟨rfl, n, rfl⟩
    go_wp2_with fail
    go_ret3
    exact ⟨rfl, bD (b0 _) _⟩
--%%
/-- a text's lines -/
def lnL (l : List UInt8) : List ByteArray := if l = [] then [] else Lib.splitB ⟨#[10]⟩ 0 (Lib.countB ⟨(Lib.trimSuffix l [10]).toArray⟩ ⟨#[10]⟩) ⟨(Lib.trimSuffix l [10]).toArray⟩
def LinesR (l : List UInt8) (w : World) (e : Ending) (w' : World) : Prop := (∃ A c, e = .returned (.slice A (lnL l).length c) ∧ StSl w' A (lnL l).length (lnL l)) ∧ Below w.heap.size w w'
theorem countB_le (t : ByteArray) : Lib.countB t ⟨#[10]⟩ ≤ t.size := Lib.countB_le ⟨#[10]⟩ (by decide) t.size t (Nat.le_refl _)
theorem splitN (t : ByteArray) : (Lib.splitB ⟨#[10]⟩ 0 (Lib.countB t ⟨#[10]⟩) t).length = Lib.countB t ⟨#[10]⟩ + 1 := Lib.splitB_all ⟨#[10]⟩ (by decide) 0 _ t rfl
theorem splitB_pos (sep : ByteArray) (k : Nat) (s : ByteArray) : (Lib.splitB sep 0 k s).length ≤ k + 1 := Lib.splitB_length_le sep 0 k s
set_option maxHeartbeats 1600000 in
theorem lines_c (s : ByteArray) (w : World) (hs : s.size ≤ 1000000) (hm : ML w) :
    Calls Tryd.prog 18 #[.string s] w (LinesR s.data.toList w) := by
  obtain ⟨m, hm⟩ := hm
  have hsl : s.data.toList.length = s.size := by simp
  by_cases h0 : s.size = 0
  · obtain ⟨f1, f2⟩ := str_none s h0
    have e : lnL s.data.toList = [] := by unfold lnL; rw [if_pos (List.length_eq_zero_iff.1 (by omega))]
    have HE := Lib.hid e
    clear e hsl
    go_enter Tryd.func18, Tryd.ntmps18
    go_wp2_with fail
    go_ret
    exact ⟨⟨none, 0, by rw [HE.out]; rfl, by rw [HE.out]; exact ⟨rfl, by decide, fun h => absurd h (by decide)⟩⟩, b0 _⟩
  obtain ⟨f1, f2⟩ := str_facts s h0
  obtain ⟨t, ht⟩ : ∃ t : ByteArray, t = ⟨(Lib.trimSuffix s.data.toList [10]).toArray⟩ := ⟨_, rfl⟩
  have hts : t.size ≤ s.size := by
    rw [ht, ← hsl]
    show (Lib.trimSuffix s.data.toList [10]).toArray.size ≤ _
    unfold Lib.trimSuffix
    split <;> simp
  have KT : Hid (∀ W, Calls Tryd.prog 29 #[.string s, .string ⟨#[10]⟩] W fun e w' => e = .returned (.string t) ∧ W = w') := fun W => by
    rw [ht]
    exact (Tryd.strings_TrimSuffix s ⟨#[10]⟩ W (by omega)).mono fun e w' ⟨h1, h2⟩ => ⟨h1, h2.symm⟩
  have KS := Lib.hid (fun W hm => Tryd.strings_Split t ⟨#[10]⟩ m W (by omega) hm (by decide))
  have e : lnL s.data.toList = Lib.splitB ⟨#[10]⟩ 0 (Lib.countB t ⟨#[10]⟩) t := by
    unfold lnL
    rw [if_neg (fun e => h0 (by rw [← hsl, e]; rfl)), ← ht]
  have hcl := splitN t
  have hcb := countB_le t
  have HE := Lib.hid e
  have HM := Lib.hid hm
  generalize Lib.splitB ⟨#[10]⟩ 0 (Lib.countB t ⟨#[10]⟩) t = P at *
  generalize Lib.countB t ⟨#[10]⟩ = cn at *
  clear e hm ht hsl
  go_enter Tryd.func18, Tryd.ntmps18
  go_wp2_with fail
  refine (KT.out _).mono ?_
  rintro e w1 ⟨rfl, rfl⟩
  go_wp2_with fail
  refine (KS.out _ HM.out).mono ?_
  rintro e w2 ⟨rfl, rfl⟩
  go_wp2_with fail
  go_ret
  refine ⟨⟨_, cn + 1, by rw [HE.out, hcl]; rfl, ?_⟩, below1 _ _⟩
  rw [HE.out]
  refine ⟨rfl, by rw [hcl]; omega, fun _ => ⟨w.heap.size, 0, rfl, by simp, fun j hj => ?_⟩⟩
  intro i v hv
  have hi : i < 1 := (List.getElem?_eq_some_iff.1 hv).1
  obtain rfl : i = 0 := by omega
  rw [cell_alloc, if_pos rfl]
  injection hv with hv; subst hv
  simp [List.getD, List.getElem?_eq_getElem hj]
--%%
end Go.Proofs.YtohdmfedappenaaDoor
