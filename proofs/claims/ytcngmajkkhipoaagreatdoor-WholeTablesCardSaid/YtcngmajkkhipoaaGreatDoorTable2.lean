/-
  Contracts of table.Check and its parts: an answer 0 tells that the table may be. Conditions as named.
-/
import Derived.Test.YtcngmajkkhipoaaGreatDoorTable
namespace Go.Proofs.YtcngmajkkhipoaaGreatDoor
set_option linter.unusedVariables false
open Go.RowKit
/-- may a contribution be? -/
structure CtOK (x : Ct) : Prop where
  nm : nameB x.nm = true
  base : x.base = 1 ∨ x.base = 2
  rd : modeB x.rd = true
  pc : 0 ≤ x.pc ∧ x.pc ≤ 100000000000
  yc : 0 ≤ x.yc ∧ x.yc ≤ 100000000000
  bands : bandsErr x.bands = 0
structure KdOK (x : Kd) : Prop where
  nm : nameB x.nm = true
  c : -1 ≤ x.c ∧ x.c ≤ 1
  t : -1 ≤ x.t ∧ x.t ≤ 1
  s : -1 ≤ x.s ∧ x.s ≤ 1
/-- an error's number, of which 0 tells something -/
def Tells (ok : Prop) (w : World) (e : Ending) (w' : World) : Prop := ∃ r : Int, (e = .returned (.int .i64 r) ∧ (r = 0 → ok)) ∧ Below w.heap.size w w'
theorem Blk.all5 {w : World} {g : Nat} {t : TypeId} {a b c d e : Value} (h : Blk w g t #[a, b, c, d, e]) : w.cell? ⟨g, 0, none⟩ = some a ∧ w.cell? ⟨g, 1, none⟩ = some b ∧ w.cell? ⟨g, 2, none⟩ = some c ∧ w.cell? ⟨g, 3, none⟩ = some d ∧ w.cell? ⟨g, 4, none⟩ = some e :=
  ⟨h.cell 0, h.cell 1, h.cell 2, h.cell 3, h.cell 4⟩
theorem Blk.all6 {w : World} {g : Nat} {t : TypeId} {a b c d e f : Value} (h : Blk w g t #[a, b, c, d, e, f]) : w.cell? ⟨g, 0, none⟩ = some a ∧ w.cell? ⟨g, 1, none⟩ = some b ∧ w.cell? ⟨g, 2, none⟩ = some c ∧ w.cell? ⟨g, 3, none⟩ = some d ∧ w.cell? ⟨g, 4, none⟩ = some e ∧ w.cell? ⟨g, 5, none⟩ = some f :=
  ⟨h.cell 0, h.cell 1, h.cell 2, h.cell 3, h.cell 4, h.cell 5⟩
theorem getD_take {α : Type} (l : List α) (k j : Nat) (h : j < k) (d : α) : (l.take k).getD j d = l.getD j d := by
  simp [List.getD, h]
theorem SlOf.take {α : Type} {At : World → Nat → Nat → α → Prop} {K : Nat} {d : α} {w : World} {A : Option Addr} {n : Nat} {l : List α} (h : SlOf At K d w A n l) (k : Nat) (hk : k ≤ n) : SlOf At K d w A k (l.take k) := by
  obtain ⟨h1, h2, h3⟩ := h
  refine ⟨by rw [List.length_take]; omega, by omega, fun h0 => ?_⟩
  obtain ⟨b, off, hA, hlt, hc⟩ := h3 (by omega)
  exact ⟨b, off, hA, hlt, fun j hj => by rw [getD_take _ _ _ hj]; exact hc j (by omega)⟩
--%%
set_option maxRecDepth 100000 in
set_option maxHeartbeats 1600000 in
theorem contribs_c (l : List Ct) (As Ac Ak : Option Addr) (ns cs nc cc nk ck : Nat) (lim rnd : Int) (w : World) (hs : CtSl w Ac nc l) (hcap : nc ≤ cc) :
    Calls Tryz.prog 21 #[.agg #[.slice As ns cs, .slice Ac nc cc, .slice Ak nk ck, .int .i64 lim, .int .i64 rnd]] w (Tells (∀ k, k < nc → CtOK (l.getD k ct0)) w) := by
  by_cases h6 : 6 < nc
  · have h6' : (6 : Int) < (nc : Int) := by omega
    go_enter Tryz.func21, Tryz.ntmps21
    go_wp2_with fail
    go_ret
    exact ⟨_, ⟨rfl, fun h => absurd h (by decide)⟩, below1 _ _⟩
  have h6' : ¬ (6 : Int) < (nc : Int) := by omega
  have HS := Lib.hid hs
  go_enter Tryz.func21, Tryz.ntmps21
  go_wp2_with fail
  go_loopw [13] (fun i wr => ∃ k : Nat, k ≤ nc ∧ i = .int .i64 k ∧ Hid (∀ j, j < k → CtOK (l.getD j ct0)) ∧ Below w.heap.size w wr ∧ Blk wr w.heap.size 26 #[.slice As ns cs, .slice Ac nc cc, .slice Ak nk ck, .int .i64 lim, .int .i64 rnd]) (fun i _ => nc - (intOf i).toNat)
  case atStart => exact ⟨0, Nat.zero_le _, rfl, fun j hj => by omega, below1 _ _, Blk.mk _ _ _⟩
  case round =>
    obtain ⟨k, hk', rfl, hok, hbl, z⟩ := hrel
    by_cases hk : k < nc
    case neg =>
      go_wp2_with fail
      go_ret
      exact ⟨_, ⟨rfl, fun _ => by have := hok.out; rwa [show nc = k by omega]⟩, hbl⟩
    have hsr := HS.out.below hbl
    obtain ⟨b, off, rfl, hlt, hat⟩ := hsr.2.2 (by omega)
    obtain ⟨c0, hsz, c1, ⟨A', n', c', c2, hbs⟩, c3, c4, c5⟩ := hat k hk
    obtain ⟨z0, z1, z2, z3, z4⟩ := z.all5
    have hzl := z.lt
    have HX : Hid (∀ (_ : nameB (l.getD k ct0).nm = true) (_ : (l.getD k ct0).base = 1 ∨ (l.getD k ct0).base = 2) (_ : modeB (l.getD k ct0).rd = true) (_ : 0 ≤ (l.getD k ct0).pc ∧ (l.getD k ct0).pc ≤ 100000000000) (_ : 0 ≤ (l.getD k ct0).yc ∧ (l.getD k ct0).yc ≤ 100000000000) (_ : bandsErr (l.getD k ct0).bands = 0), CtOK (l.getD k ct0)) := fun a b c d e f => ⟨a, b, c, d, e, f⟩
    have HR := Lib.hid hsr
    clear hat hsr hs
    generalize hxx : l.getD k ct0 = x at *
    have HXX := Lib.hid hxx
    clear hxx
    obtain ⟨nm, base, bands, pc, yc, rd⟩ := x
    simp only at c0 c1 c2 c3 c4 c5 hsz hbs HX
    cases hnm : nameB nm
    · go_wp2_with fail
      refine (name_c nm _ hsz).mono ?_
      rintro e w' ⟨rfl, rfl⟩
      go_wp2_with fail
      go_ret
      exact ⟨_, ⟨rfl, fun h => absurd h (by decide)⟩, hbl.alloc hbl.size _⟩
    go_wp2_with fail
    refine (name_c nm _ hsz).mono ?_
    rintro e w' ⟨rfl, rfl⟩
    go_wp2_with fail
    refine (ccontains_c (l.take k) _ k cc _ nm _ ((SlOf.take HR.out k (by omega)).below (fun b off x hx hlt => hx.below hlt (below1 _ _)) (below1 _ _)) (by simp) (by simp)).mono ?_
    rintro e w1 ⟨bb, rfl, hb1⟩
    have b1 : Below w.heap.size w w1 := (hbl.alloc hbl.size _).trans (hb1.mono (by have := hbl.size; simp; omega))
    have zz := (z.alloc _).below hb1 (by simp; omega)
    have cb := (Blk.mk wr _ _).below hb1 (by simp)
    obtain ⟨y0, y1, y2, y3, y4⟩ := zz.all5
    obtain ⟨q0, q1, q2, q3, q4, q5⟩ := cb.all6
    have hbs1 := hbs.below ((below1 wr _).trans (hb1.mono (by simp)))
    cases bb
    case true =>
      go_wp2_with fail
      go_ret
      exact ⟨_, ⟨rfl, fun h => absurd h (by decide)⟩, b1⟩
    by_cases e1 : base = 1 ∨ base = 2
    case neg =>
      have t1 : (base != 1) = true := by simp; omega
      have t2 : (base != 2) = true := by simp; omega
      clear e1
      go_wp2_with fail
      go_ret
      exact ⟨_, ⟨rfl, fun h => absurd h (by decide)⟩, b1⟩
    have E1 := Lib.hid e1
    cases hrd : modeB rd
    · rcases e1 with e1 | e1
      · subst e1
        go_wp2_with fail
        refine (mode_f rd hrd _).mono ?_
        rintro e w' ⟨rfl, rfl⟩
        go_wp2_with fail
        go_ret
        exact ⟨_, ⟨rfl, fun h => absurd h (by decide)⟩, b1⟩
      · subst e1
        go_wp2_with fail
        refine (mode_f rd hrd _).mono ?_
        rintro e w' ⟨rfl, rfl⟩
        go_wp2_with fail
        go_ret
        exact ⟨_, ⟨rfl, fun h => absurd h (by decide)⟩, b1⟩
    obtain ⟨r, hr⟩ : ∃ r, r = bandsErr bands := ⟨_, rfl⟩
    have HRR := Lib.hid hr
    clear hr
    have KB := Lib.hid (fun w h => bcheck_c bands A' n' c' w h r HRR)
    rcases e1 with e1 | e1
    · subst e1
      by_cases d1 : pc < 0
      · go_wp2_with fail
        refine (mode_t rd hrd _).mono ?_
        rintro e w' ⟨rfl, rfl⟩
        go_wp2_with fail
        go_ret
        exact ⟨_, ⟨rfl, fun h => absurd h (by decide)⟩, b1⟩
      by_cases d2 : 100000000000 < pc
      · go_wp2_with fail
        refine (mode_t rd hrd _).mono ?_
        rintro e w' ⟨rfl, rfl⟩
        go_wp2_with fail
        go_ret
        exact ⟨_, ⟨rfl, fun h => absurd h (by decide)⟩, b1⟩
      by_cases d3 : yc < 0
      · go_wp2_with fail
        refine (mode_t rd hrd _).mono ?_
        rintro e w' ⟨rfl, rfl⟩
        go_wp2_with fail
        go_ret
        exact ⟨_, ⟨rfl, fun h => absurd h (by decide)⟩, b1⟩
      by_cases d4 : 100000000000 < yc
      · go_wp2_with fail
        refine (mode_t rd hrd _).mono ?_
        rintro e w' ⟨rfl, rfl⟩
        go_wp2_with fail
        go_ret
        exact ⟨_, ⟨rfl, fun h => absurd h (by decide)⟩, b1⟩
      by_cases hr0 : r = 0
      · subst hr0
        have HG : Hid (CtOK ⟨nm, 1, bands, pc, yc, rd⟩) := HX.out hnm E1.out hrd (by omega) (by omega) HRR.out.symm
        go_wp2_with fail
        refine (mode_t rd hrd _).mono ?_
        rintro e w' ⟨rfl, rfl⟩
        go_wp2_with fail
        refine (KB.out _ hbs1).mono ?_
        rintro e w2 ⟨rfl, hb2⟩
        go_wp2_with fail
        go_roundw
        case rel => exact ⟨k + 1, by omega, by go_num, fun j hj => by
          rcases (by omega : j = k ∨ j < k) with rfl | hj
          · exact HXX.out ▸ HG.out
          · exact hok.out j hj, b1.trans (hb2.mono b1.size), zz.below hb2 zz.lt⟩
        case measure => simp [intOf]; omega
      · have tr : (r != 0) = true := by simpa using hr0
        have HR0 := Lib.hid hr0
        clear hr0
        go_wp2_with fail
        refine (mode_t rd hrd _).mono ?_
        rintro e w' ⟨rfl, rfl⟩
        go_wp2_with fail
        refine (KB.out _ hbs1).mono ?_
        rintro e w2 ⟨rfl, hb2⟩
        go_wp2_with fail
        go_ret
        exact ⟨_, ⟨rfl, fun h => absurd h HR0.out⟩, b1.trans (hb2.mono b1.size)⟩
    · subst e1
      by_cases d1 : pc < 0
      · go_wp2_with fail
        refine (mode_t rd hrd _).mono ?_
        rintro e w' ⟨rfl, rfl⟩
        go_wp2_with fail
        go_ret
        exact ⟨_, ⟨rfl, fun h => absurd h (by decide)⟩, b1⟩
      by_cases d2 : 100000000000 < pc
      · go_wp2_with fail
        refine (mode_t rd hrd _).mono ?_
        rintro e w' ⟨rfl, rfl⟩
        go_wp2_with fail
        go_ret
        exact ⟨_, ⟨rfl, fun h => absurd h (by decide)⟩, b1⟩
      by_cases d3 : yc < 0
      · go_wp2_with fail
        refine (mode_t rd hrd _).mono ?_
        rintro e w' ⟨rfl, rfl⟩
        go_wp2_with fail
        go_ret
        exact ⟨_, ⟨rfl, fun h => absurd h (by decide)⟩, b1⟩
      by_cases d4 : 100000000000 < yc
      · go_wp2_with fail
        refine (mode_t rd hrd _).mono ?_
        rintro e w' ⟨rfl, rfl⟩
        go_wp2_with fail
        go_ret
        exact ⟨_, ⟨rfl, fun h => absurd h (by decide)⟩, b1⟩
      by_cases hr0 : r = 0
      · subst hr0
        have HG : Hid (CtOK ⟨nm, 2, bands, pc, yc, rd⟩) := HX.out hnm E1.out hrd (by omega) (by omega) HRR.out.symm
        go_wp2_with fail
        refine (mode_t rd hrd _).mono ?_
        rintro e w' ⟨rfl, rfl⟩
        go_wp2_with fail
        refine (KB.out _ hbs1).mono ?_
        rintro e w2 ⟨rfl, hb2⟩
        go_wp2_with fail
        go_roundw
        case rel => exact ⟨k + 1, by omega, by go_num, fun j hj => by
          rcases (by omega : j = k ∨ j < k) with rfl | hj
          · exact HXX.out ▸ HG.out
          · exact hok.out j hj, b1.trans (hb2.mono b1.size), zz.below hb2 zz.lt⟩
        case measure => simp [intOf]; omega
      · have tr : (r != 0) = true := by simpa using hr0
        have HR0 := Lib.hid hr0
        clear hr0
        go_wp2_with fail
        refine (mode_t rd hrd _).mono ?_
        rintro e w' ⟨rfl, rfl⟩
        go_wp2_with fail
        refine (KB.out _ hbs1).mono ?_
        rintro e w2 ⟨rfl, hb2⟩
        go_wp2_with fail
        go_ret
        exact ⟨_, ⟨rfl, fun h => absurd h HR0.out⟩, b1.trans (hb2.mono b1.size)⟩
--%%
end Go.Proofs.YtcngmajkkhipoaaGreatDoor
