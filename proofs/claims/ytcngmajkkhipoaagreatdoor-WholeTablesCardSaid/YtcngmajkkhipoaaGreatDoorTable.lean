/-
  Contracts of the closures and searches that table.Check uses. Conditions as named.
-/
import Derived.Test.YtcngmajkkhipoaaGreatDoorM0
import Derived.Test.YtcngmajkkhipoaaGreatDoorM1
namespace Go.Proofs.YtcngmajkkhipoaaGreatDoor
set_option linter.unusedVariables false
open Go.RowKit
--%%
theorem cclos_c (x : Ct) (B : Nat) (A : Option Addr) (n c : Nat) (nm : ByteArray) (w : World) (hB : B < w.heap.size) (h : w.cell? ⟨B, 0, none⟩ = some (.string nm)) :
    Calls Tryz.prog 45 #[.agg #[.string x.nm, .int .i64 x.base, .slice A n c, .int .i64 x.pc, .int .i64 x.yc, .int .i64 x.rd], .pointer (some ⟨B, 0, none⟩)] w (SomeB w) := by
  have h' : ∀ o, (w.alloc o).cell? ⟨B, 0, none⟩ = some (.string nm) := fun o => by rw [World.cell?_alloc_lt _ _ _ hB]; exact h
  go_enter Tryz.func45, Tryz.ntmps45
  go_wp2
  go_ret
  exact ⟨_, rfl, below1 _ _⟩
--%%
theorem kclos_c (x : Kd) (B : Nat) (nm : ByteArray) (w : World) (hB : B < w.heap.size) (h : w.cell? ⟨B, 0, none⟩ = some (.string nm)) :
    Calls Tryz.prog 47 #[.agg #[.string x.nm, .int .i64 x.c, .int .i64 x.t, .int .i64 x.s], .pointer (some ⟨B, 0, none⟩)] w (SomeB w) := by
  have h' : ∀ o, (w.alloc o).cell? ⟨B, 0, none⟩ = some (.string nm) := fun o => by rw [World.cell?_alloc_lt _ _ _ hB]; exact h
  go_enter Tryz.func47, Tryz.ntmps47
  go_wp2
  go_ret
  exact ⟨_, rfl, below1 _ _⟩
--%%
theorem cindex_c (l : List Ct) (A : Option Addr) (n c B : Nat) (nm : ByteArray) (w : World) (hs : CtSl w A n l) (hB : B < w.heap.size) (h : w.cell? ⟨B, 0, none⟩ = some (.string nm)) :
    Calls Tryz.prog 66 #[.slice A n c, .func (.func 45) #[] #[.pointer (some ⟨B, 0, none⟩)]] w (SomeI w) := by
  obtain ⟨hn, hm, hc⟩ := hs
  have HC := Lib.hid hc
  clear hc hn
  go_enter Tryz.func66, Tryz.ntmps66
  go_wp2_with fail
  go_loopw [8] (fun i wr => ∃ k : Nat, k ≤ n ∧ i = .int .i64 k ∧ Below w.heap.size w wr) (fun i _ => n - (intOf i).toNat)
  case atStart => exact ⟨0, Nat.zero_le _, rfl, Below.refl _ _⟩
  case round =>
    obtain ⟨k, hk', rfl, hbl⟩ := hrel
    by_cases hk : k < n
    case neg =>
      go_wp2_with fail
      go_ret
      exact ⟨_, ⟨rfl, by decide⟩, hbl⟩
    obtain ⟨b, off, rfl, hlt, hat⟩ := HC.out (by omega)
    obtain ⟨c0, _, c1, ⟨A', n', c', c2, _⟩, c3, c4, c5⟩ := (hat k hk).below hlt hbl
    have hB' : B < wr.heap.size := Nat.lt_of_lt_of_le hB hbl.size
    have hcap := (hbl.cell (p := ⟨B, 0, none⟩) hB).trans h
    have K := Lib.hid (cclos_c (l.getD k ct0) B A' n' c' nm · )
    generalize l.getD k ct0 = x at *
    clear hat
    go_wp2_with fail
    refine (K.out _ hB' hcap).mono ?_
    rintro e w1 ⟨bb, rfl, hb1⟩
    have b1 : Below w.heap.size w w1 := hbl.trans (hb1.mono hbl.size)
    cases bb
    · go_wp2_with fail
      go_roundw
      case rel => exact ⟨k + 1, by omega, by go_num, b1⟩
      case measure => simp [intOf]; omega
    · go_wp2_with fail
      go_ret
      exact ⟨_, ⟨rfl, by omega⟩, b1⟩
--%%
theorem kindex_c (l : List Kd) (A : Option Addr) (n c B : Nat) (nm : ByteArray) (w : World) (hs : KdSl w A n l) (hB : B < w.heap.size) (h : w.cell? ⟨B, 0, none⟩ = some (.string nm)) :
    Calls Tryz.prog 67 #[.slice A n c, .func (.func 47) #[] #[.pointer (some ⟨B, 0, none⟩)]] w (SomeI w) := by
  obtain ⟨hn, hm, hc⟩ := hs
  have HC := Lib.hid hc
  clear hc hn
  go_enter Tryz.func67, Tryz.ntmps67
  go_wp2_with fail
  go_loopw [8] (fun i wr => ∃ k : Nat, k ≤ n ∧ i = .int .i64 k ∧ Below w.heap.size w wr) (fun i _ => n - (intOf i).toNat)
  case atStart => exact ⟨0, Nat.zero_le _, rfl, Below.refl _ _⟩
  case round =>
    obtain ⟨k, hk', rfl, hbl⟩ := hrel
    by_cases hk : k < n
    case neg =>
      go_wp2_with fail
      go_ret
      exact ⟨_, ⟨rfl, by decide⟩, hbl⟩
    obtain ⟨b, off, rfl, hlt, hat⟩ := HC.out (by omega)
    obtain ⟨c0, _, c1, c2, c3⟩ := (hat k hk).below hlt hbl
    have hB' : B < wr.heap.size := Nat.lt_of_lt_of_le hB hbl.size
    have hcap := (hbl.cell (p := ⟨B, 0, none⟩) hB).trans h
    have K := Lib.hid (kclos_c (l.getD k kd0) B nm · )
    generalize l.getD k kd0 = x at *
    clear hat
    go_wp2_with fail
    refine (K.out _ hB' hcap).mono ?_
    rintro e w1 ⟨bb, rfl, hb1⟩
    have b1 : Below w.heap.size w w1 := hbl.trans (hb1.mono hbl.size)
    cases bb
    · go_wp2_with fail
      go_roundw
      case rel => exact ⟨k + 1, by omega, by go_num, b1⟩
      case measure => simp [intOf]; omega
    · go_wp2_with fail
      go_ret
      exact ⟨_, ⟨rfl, by omega⟩, b1⟩
--%%
theorem ccontains_c (l : List Ct) (A : Option Addr) (n c B : Nat) (nm : ByteArray) (w : World) (hs : CtSl w A n l) (hB : B < w.heap.size) (h : w.cell? ⟨B, 0, none⟩ = some (.string nm)) :
    Calls Tryz.prog 44 #[.slice A n c, .func (.func 45) #[] #[.pointer (some ⟨B, 0, none⟩)]] w (SomeB w) := by
  go_enter Tryz.func44, Tryz.ntmps44
  go_wp2_with fail
  refine (cindex_c l A n c B nm _ hs hB h).mono ?_
  rintro e w1 ⟨i, ⟨rfl, hi⟩, hb1⟩
  go_wp2_with fail
  go_ret
  exact ⟨_, rfl, hb1⟩
--%%
theorem kcontains_c (l : List Kd) (A : Option Addr) (n c B : Nat) (nm : ByteArray) (w : World) (hs : KdSl w A n l) (hB : B < w.heap.size) (h : w.cell? ⟨B, 0, none⟩ = some (.string nm)) :
    Calls Tryz.prog 46 #[.slice A n c, .func (.func 47) #[] #[.pointer (some ⟨B, 0, none⟩)]] w (SomeB w) := by
  go_enter Tryz.func46, Tryz.ntmps46
  go_wp2_with fail
  refine (kindex_c l A n c B nm _ hs hB h).mono ?_
  rintro e w1 ⟨i, ⟨rfl, hi⟩, hb1⟩
  go_wp2_with fail
  go_ret
  exact ⟨_, rfl, hb1⟩
--%%
end Go.Proofs.YtcngmajkkhipoaaGreatDoor
