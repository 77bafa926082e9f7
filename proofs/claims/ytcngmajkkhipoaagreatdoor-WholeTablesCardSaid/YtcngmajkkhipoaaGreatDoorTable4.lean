/-
  Contracts of table.schemes and table.Check: an answer 0 tells that the table may be. Conditions as named.
-/
import Derived.Test.YtcngmajkkhipoaaGreatDoorTable3
import Derived.Deep.RegionHeld3
namespace Go.Proofs.YtcngmajkkhipoaaGreatDoor
set_option linter.unusedVariables false
open Go.RowKit
structure ScOK (x : List Bd) : Prop where
  bands : bandsErr x = 0
  e : ∀ i, i < x.length → (x.getD i bd0).e = 0
--%%
set_option maxRecDepth 100000 in
set_option maxHeartbeats 1600000 in
theorem schemes_c (l : List (List Bd)) (As Ac Ak : Option Addr) (ns cs nc cc nk ck : Nat) (lim rnd : Int) (w : World) (hs : ScSl w As ns l) :
    Calls Tryz.prog 20 #[.agg #[.slice As ns cs, .slice Ac nc cc, .slice Ak nk ck, .int .i64 lim, .int .i64 rnd]] w (Tells (1 ≤ ns ∧ ∀ k, k < ns → ScOK (l.getD k [])) w) := by
  by_cases h0 : ns = 0
  · have h0' : ((ns : Int) == 0) = true := by simp; omega
    have H0 := Lib.hid h0
    clear h0
    go_enter Tryz.func20, Tryz.ntmps20
    go_wp2_with fail
    go_ret
    exact ⟨_, ⟨rfl, fun h => absurd h (by decide)⟩, below1 _ _⟩
  have h0' : ((ns : Int) == 0) = false := by simp; omega
  by_cases h6 : 8 < ns
  · have h6' : (8 : Int) < (ns : Int) := by omega
    go_enter Tryz.func20, Tryz.ntmps20
    go_wp2_with fail
    go_ret
    exact ⟨_, ⟨rfl, fun h => absurd h (by decide)⟩, below1 _ _⟩
  have h6' : ¬ (8 : Int) < (ns : Int) := by omega
  have HS := Lib.hid hs
  go_enter Tryz.func20, Tryz.ntmps20
  go_wp2_with fail
  go_loopw [21] (fun i wr => ∃ k : Nat, k ≤ ns ∧ i = .int .i64 k ∧ Hid (∀ j, j < k → ScOK (l.getD j [])) ∧ Below w.heap.size w wr) (fun i _ => ns - (intOf i).toNat)
  case atStart => exact ⟨0, Nat.zero_le _, rfl, fun j hj => by omega, below1 _ _⟩
  case round =>
    obtain ⟨k, hk', rfl, hok, hbl⟩ := hrel
    obtain ⟨wo, rfl⟩ : ∃ wo : World, wo = wr := ⟨_, rfl⟩
    by_cases hk : k < ns
    case neg =>
      go_wp2_with fail
      go_ret
      exact ⟨_, ⟨rfl, fun _ => ⟨by omega, by have := hok.out; rwa [show ns = k by omega]⟩⟩, hbl⟩
    have hsr := HS.out.below hbl
    obtain ⟨b, off, rfl, hlt, hat⟩ := hsr.2.2 (by omega)
    obtain ⟨A', n', c', c0, hbs⟩ := hat k hk
    simp only [Nat.mul_one] at c0
    clear hat hsr hs
    generalize hxx : l.getD k [] = x at *
    have HXX := Lib.hid hxx
    clear hxx
    obtain ⟨r, hr⟩ : ∃ r, r = bandsErr x := ⟨_, rfl⟩
    have HRR := Lib.hid hr
    clear hr
    have KB := Lib.hid (fun w h => bcheck_c x A' n' c' w h r HRR)
    by_cases hr0 : r = 0
    case neg =>
      have tr : (r != 0) = true := by simpa using hr0
      have HR0 := Lib.hid hr0
      clear hr0
      go_wp2_with fail
      refine (KB.out _ hbs).mono ?_
      rintro e w2 ⟨rfl, hb2⟩
      go_wp2_with fail
      go_ret
      exact ⟨_, ⟨rfl, fun h => absurd h HR0.out⟩, hbl.trans (hb2.mono hbl.size)⟩
    subst hr0
    go_wp2_with fail
    refine (KB.out _ hbs).mono ?_
    rintro e w2 ⟨rfl, hb2⟩
    have b2 : Below w.heap.size w w2 := hbl.trans (hb2.mono hbl.size)
    have hbs2 := hbs.below hb2
    have hn' : n' = x.length := hbs2.1
    have hm' := hbs2.2.1
    have HN' := Lib.hid hn'
    have HB2 := Lib.hid hbs2
    clear hn' hbs2
    go_wp2_with fail
    go_loopw [32] (fun i wi => ∃ j : Nat, j ≤ n' ∧ i = .int .i64 j ∧ Hid (∀ i, i < j → (x.getD i bd0).e = 0) ∧ Below w2.heap.size w2 wi) (fun i _ => n' - (intOf i).toNat)
    case atStart => exact ⟨0, Nat.zero_le _, rfl, fun j hj => by omega, Below.refl _ _⟩
    case round =>
      obtain ⟨j, hj', rfl, hoj, hbj⟩ := hrel
      have bj : Below w.heap.size w wr := b2.trans (hbj.mono b2.size)
      by_cases hj : j < n'
      case neg =>
        have HG : Hid (ScOK x) := ⟨HRR.out.symm, by have := hoj.out; have e := HN'.out; intro i hi; exact this i (by omega)⟩
        go_wp2_with fail
        go_roundw
        case rel => exact ⟨k + 1, by omega, by go_num, fun i hi => by
          rcases (by omega : i = k ∨ i < k) with rfl | hi
          · exact HXX.out ▸ HG.out
          · exact hok.out i hi, bj⟩
        case measure => simp [intOf]; omega
      obtain ⟨b', off', rfl, hlt', hat'⟩ := (HB2.out.below hbj).2.2 (by omega)
      obtain ⟨d0, d1, d2⟩ := hat' j (by have e := HN'.out; omega)
      clear hat'
      have hsj := hbj.size
      by_cases he : (x.getD j bd0).e = 0
      · have HE := Lib.hid he
        generalize (x.getD j bd0).f = xf at *
        generalize (x.getD j bd0).r = xr at *
        rw [he] at d2
        clear he
        go_wp2_with fail
        go_roundw
        case rel => exact ⟨j + 1, by omega, by go_num, fun i hi => by
          rcases (by omega : i = j ∨ i < j) with rfl | hi
          · exact HE.out
          · exact hoj.out i hi, hbj.alloc hsj _⟩
        case measure => simp [intOf]; omega
      · have te : ((x.getD j bd0).e != 0) = true := by simpa using he
        clear he
        generalize (x.getD j bd0).f = xf at *
        generalize (x.getD j bd0).r = xr at *
        generalize (x.getD j bd0).e = xe at *
        go_wp2_with fail
        go_ret
        exact ⟨_, ⟨rfl, fun h => absurd h (by decide)⟩, bj.alloc bj.size _⟩
--%%
end Go.Proofs.YtcngmajkkhipoaaGreatDoor
