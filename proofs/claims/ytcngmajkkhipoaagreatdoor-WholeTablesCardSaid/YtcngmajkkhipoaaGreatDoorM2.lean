/-
  Plain: what a table keeps of a coin, at its worst choice. No program.
  Plain: tables that differ in their rates alone. No program.
  Tables that the call owns: what stays, what is put to them; what table.Put answers. Conditions as named.
  Plain: the lines of a table, as words. No program.
  Plain: a table that may be, put together of its lines, is that table. No program.
  What table.Lines leans on: the lines one by one; strings.Join on a row of strings; a row beside another. Conditions as named.
  Plain: the example's lines, words and table. No program.
-/
import Derived.Test.YtcngmajkkhipoaaGreatDoorTabX2
import Derived.Test.YtcngmajkkhipoaaGreatDoorClone
import Derived.Test.YtcngmajkkhipoaaGreatDoorTabC
import Derived.Test.YtcngmajkkhipoaaGreatDoorTabK
import Derived.Test.YtcngmajkkhipoaaGreatDoorM1
import Derived.Test.YtcngmajkkhipoaaGreatDoorTabX
import Derived.Test.YtcngmajkkhipoaaGreatDoorTabB
import Derived.Test.YtcngmajkkhipoaaGreatDoorM0
import Derived.Test.YtcngmajkkhipoaaGreatDoorCut
import Derived.Lib.Join
namespace Go.Proofs.YtcngmajkkhipoaaGreatDoor
set_option linter.unusedVariables false
open Go.RowKit
theorem tb_of {t : Tb} (h : tbE t = 0) : TbOK t.sch t.cts t.kds t.lim t.rnd ∧ t.sch.length ≤ 8 ∧ t.cts.length ≤ 6 ∧ t.kds.length ≤ 12 ∧ 1 ≤ t.kds.length := by
  unfold tbE at h
  have h1 : rateB t.lim = true := by
    cases hh : rateB t.lim with
    | true => rfl
    | false => rw [if_pos hh] at h; cases h
  rw [if_neg (by rw [h1]; decide)] at h
  have h2 : modeB t.rnd = true := by
    cases hh : modeB t.rnd with
    | true => rfl
    | false => rw [if_pos hh] at h; cases h
  rw [if_neg (by rw [h2]; decide)] at h
  have h3 : scsE t.sch = 0 := by
    by_cases e : scsE t.sch = 0
    · exact e
    · rw [if_pos e] at h; exact absurd h e
  rw [if_neg (fun e => e h3)] at h
  have h4 : ctsE t.cts = 0 := by
    by_cases e : ctsE t.cts = 0
    · exact e
    · rw [if_pos e] at h; exact absurd h e
  rw [if_neg (fun e => e h4)] at h
  unfold scsE at h3
  by_cases e3 : t.sch.length = 0 ∨ 8 < t.sch.length
  · rw [if_pos e3] at h3; cases h3
  rw [if_neg e3] at h3
  unfold ctsE at h4
  by_cases e4 : 6 < t.cts.length
  · rw [if_pos e4] at h4; cases h4
  rw [if_neg e4] at h4
  unfold kdsE at h
  by_cases e5 : t.kds.length = 0 ∨ 12 < t.kds.length
  · rw [if_pos e5] at h; cases h
  rw [if_neg e5] at h
  have g3 := firstNZ_all _ _ h3
  have g4 := firstNZ_all _ _ h4
  have g5 := firstNZ_all _ _ h
  refine ⟨⟨h1, h2, by omega, fun k hk => ?_, fun k hk => ?_, fun k hk => ?_⟩, by omega, by omega, by omega, by omega⟩
  · have g := g3 k hk
    unfold scsF scE1 at g
    generalize t.sch.getD k [] = x at *
    by_cases e : bandsErr x = 0
    · rw [if_neg (fun h => h e)] at g
      refine ⟨e, fun i hi => ?_⟩
      by_cases e2 : (x.getD i bd0).e = 0
      · exact e2
      · rw [if_pos ⟨i, hi, e2⟩] at g; cases g
    · rw [if_pos e] at g; exact absurd g e
  · have g := g4 k hk
    unfold ctsF ctE at g
    generalize t.cts.getD k ct0 = x at *
    by_cases a1 : nameB x.nm = false
    · rw [if_pos a1] at g; cases g
    rw [if_neg a1] at g
    by_cases a2 : 0 ≤ nmX Ct.nm (t.cts.take k) x.nm
    · rw [if_pos a2] at g; cases g
    rw [if_neg a2] at g
    by_cases a3 : x.base ≠ 1 ∧ x.base ≠ 2
    · rw [if_pos a3] at g; cases g
    rw [if_neg a3] at g
    by_cases a4 : modeB x.rd = false
    · rw [if_pos a4] at g; cases g
    rw [if_neg a4] at g
    by_cases a5 : x.pc < 0
    · rw [if_pos a5] at g; cases g
    rw [if_neg a5] at g
    by_cases a6 : 100000000000 < x.pc
    · rw [if_pos a6] at g; cases g
    rw [if_neg a6] at g
    by_cases a7 : x.yc < 0
    · rw [if_pos a7] at g; cases g
    rw [if_neg a7] at g
    by_cases a8 : 100000000000 < x.yc
    · rw [if_pos a8] at g; cases g
    rw [if_neg a8] at g
    exact ⟨by simpa using a1, by omega, by simpa using a4, by omega, by omega, g⟩
  · have g := g5 k hk
    unfold kdsF kdE1 at g
    generalize t.kds.getD k kd0 = x at *
    by_cases a1 : nameB x.nm = false
    · rw [if_pos a1] at g; cases g
    rw [if_neg a1] at g
    by_cases a2 : 0 ≤ nmX Kd.nm (t.kds.take k) x.nm
    · rw [if_pos a2] at g; cases g
    rw [if_neg a2] at g
    by_cases a3 : decide (-1 ≤ x.c ∧ x.c ≤ 1) = false
    · rw [if_pos a3] at g; cases g
    rw [if_neg a3] at g
    by_cases a4 : decide (-1 ≤ x.t ∧ x.t ≤ 1) = false
    · rw [if_pos a4] at g; cases g
    rw [if_neg a4] at g
    by_cases a5 : decide (-1 ≤ x.s ∧ x.s ≤ 1) = false
    · rw [if_pos a5] at g; cases g
    exact ⟨by simpa using a1, by simpa using a3, by simpa using a4, by simpa using a5⟩
/-- the greatest rate of the first bands, from a number on -/
def maxTo (acc : Int) (l : List Bd) : Nat → Int
  | 0 => acc
  | k + 1 => max (maxTo acc l k) (l.getD k bd0).r
/-- the greatest rate of the first schemes, from the limit on -/
def maxS (lim : Int) (sch : List (List Bd)) : Nat → Int
  | 0 => lim
  | i + 1 => maxTo (maxS lim sch i) (sch.getD i []) (sch.getD i []).length
/-- the greatest rates of the first contributions together -/
def cutC (cts : List Ct) : Nat → Int
  | 0 => 0
  | i + 1 => cutC cts i + maxTo 0 (cts.getD i ct0).bands (cts.getD i ct0).bands.length
/-- what is kept of a whole by the worst choice -/
def keptI (t : Tb) : Int := 10000 - maxS t.lim t.sch t.sch.length - cutC t.cts t.cts.length
/-- keep.Check's error -/
def keepE (t : Tb) : Int := if tbE t ≠ 0 then tbE t else if keptI t * 20 < 10000 then 100 else 0
theorem maxTo_bd {acc : Int} {l : List Bd} (ha : 0 ≤ acc ∧ acc ≤ 10000) : ∀ n, (∀ k, k < n → 0 ≤ (l.getD k bd0).r ∧ (l.getD k bd0).r ≤ 10000) → 0 ≤ maxTo acc l n ∧ maxTo acc l n ≤ 10000
  | 0, _ => ha
  | n + 1, h => by
    have h1 := maxTo_bd ha n (fun k hk => h k (by omega))
    have h2 := h n (by omega)
    rw [maxTo]; omega
theorem maxS_bd {lim : Int} {sch : List (List Bd)} (hl : 0 ≤ lim ∧ lim ≤ 10000) : ∀ n, (∀ i, i < n → bandsErr (sch.getD i []) = 0) → 0 ≤ maxS lim sch n ∧ maxS lim sch n ≤ 10000
  | 0, _ => hl
  | n + 1, h => by
    have h1 := maxS_bd hl n (fun i hi => h i (by omega))
    exact maxTo_bd h1 _ (fun k hk => (goodB _ (h n (by omega))).r k hk)
theorem cutC_bd {cts : List Ct} : ∀ n, (∀ i, i < n → bandsErr (cts.getD i ct0).bands = 0) → 0 ≤ cutC cts n ∧ cutC cts n ≤ n * 10000
  | 0, _ => by simp [cutC]
  | n + 1, h => by
    have h1 := cutC_bd n (fun i hi => h i (by omega))
    have h2 := maxTo_bd (acc := 0) (by decide) _ (fun k hk => (goodB _ (h n (by omega))).r k hk)
    rw [cutC]; push_cast; omega
end Go.Proofs.YtcngmajkkhipoaaGreatDoor
namespace Go.Proofs.YtcngmajkkhipoaaGreatDoor
set_option linter.unusedVariables false
open Go.RowKit
theorem firstNZ_zero' (f : Nat → Int) : ∀ n, (∀ k, k < n → f k = 0) → firstNZ f n = 0
  | 0, _ => rfl
  | n + 1, h => firstNZ_step f n (firstNZ_zero' f n fun k hk => h k (by omega)) (h n (by omega))
/-- bands with other rates, each of which may be -/
def SameB (x y : List Bd) : Prop := y.length = x.length ∧ ∀ k, k < x.length → (y.getD k bd0).f = (x.getD k bd0).f ∧ (y.getD k bd0).e = (x.getD k bd0).e ∧ 0 ≤ (y.getD k bd0).r ∧ (y.getD k bd0).r ≤ 10000
/-- none of the rates is greater -/
def LeB (x y : List Bd) : Prop := ∀ k, k < x.length → (y.getD k bd0).r ≤ (x.getD k bd0).r
theorem SameB.refl {x : List Bd} (h : bandsErr x = 0) : SameB x x := ⟨rfl, fun k hk => ⟨rfl, rfl, (goodB x h).r k hk⟩⟩
theorem SameB.err {x y : List Bd} (h : SameB x y) (hx : bandsErr x = 0) : bandsErr y = 0 := by
  have g := goodB x hx
  unfold bandsErr at hx ⊢
  by_cases h1 : x.length = 0 ∨ 8 < x.length
  · rw [if_pos h1] at hx; cases hx
  rw [if_neg h1] at hx
  rw [h.1, if_neg h1]
  refine firstNZ_zero' _ _ fun k hk => ?_
  have hk0 := firstNZ_all _ _ hx k hk
  obtain ⟨f, e, r0, r1⟩ := h.2 k hk
  have hpf : (y.getD (k - 1) bd0).f = (x.getD (k - 1) bd0).f := (h.2 (k - 1) (by omega)).1
  unfold bandAt bandV at hk0 ⊢
  rw [f, e, hpf]
  have hr := g.r k hk
  have t1 : rateB (y.getD k bd0).r = true := rateB_iff.2 ⟨r0, r1⟩
  have t2 : rateB (x.getD k bd0).r = true := rateB_iff.2 hr
  rw [t2] at hk0
  rw [t1]
  exact hk0
theorem SameB.sc {x y : List Bd} (h : SameB x y) (hx : scE1 x = 0) : scE1 y = 0 := by
  unfold scE1 at hx ⊢
  by_cases h1 : bandsErr x = 0
  · rw [if_neg (fun g => g h1)] at hx
    rw [if_neg (fun g => g (h.err h1))]
    by_cases h2 : ∃ i, i < x.length ∧ (x.getD i bd0).e ≠ 0
    · rw [if_pos h2] at hx; cases hx
    · rw [if_neg]
      rintro ⟨i, hi, he⟩
      rw [h.1] at hi
      rw [(h.2 i hi).2.1] at he
      exact h2 ⟨i, hi, he⟩
  · rw [if_pos h1] at hx
    exact absurd hx h1
/-- a contribution with other rates -/
structure SameC (x y : Ct) : Prop where
  nm : y.nm = x.nm
  base : y.base = x.base
  pc : y.pc = x.pc
  yc : y.yc = x.yc
  rd : y.rd = x.rd
  b : SameB x.bands y.bands
theorem nmX_of_map {l l' : List Ct} {nm : ByteArray} (h : l.map Ct.nm = l'.map Ct.nm) : nmX Ct.nm l nm = nmX Ct.nm l' nm := by
  have e : ∀ l : List Ct, l.findIdx? (fun x => decide (x.nm = nm)) = (l.map Ct.nm).findIdx? (fun s => decide (s = nm)) := by
    intro l
    rw [List.findIdx?_map]; rfl
  unfold nmX
  rw [e, e, h]
/-- tables with other rates -/
structure SameT (sch sch' : List (List Bd)) (cts cts' : List Ct) : Prop where
  sn : sch'.length = sch.length
  s : ∀ i, i < sch.length → SameB (sch.getD i []) (sch'.getD i [])
  cn : cts'.length = cts.length
  c : ∀ j, j < cts.length → SameC (cts.getD j ct0) (cts'.getD j ct0)
theorem SameT.refl {t : Tb} (h : tbE t = 0) : SameT t.sch t.sch t.cts t.cts := by
  have o := (tb_of h).1
  exact ⟨rfl, fun i hi => .refl (o.sch i hi).bands, rfl, fun j hj => ⟨rfl, rfl, rfl, rfl, rfl, .refl (o.cts j hj).bands⟩⟩
theorem SameT.ok {sch sch' : List (List Bd)} {cts cts' : List Ct} {kds : List Kd} {lim rnd : Int} (h : SameT sch sch' cts cts') (ht : tbE ⟨sch, cts, kds, lim, rnd⟩ = 0) : tbE ⟨sch', cts', kds, lim, rnd⟩ = 0 := by
  obtain ⟨o, _⟩ := tb_of ht
  unfold tbE at ht ⊢
  dsimp only at ht o ⊢
  have l1 : ¬ rateB lim = false := by rw [o.lim]; decide
  have l2 : ¬ modeB rnd = false := by rw [o.rnd]; decide
  rw [if_neg l1, if_neg l2] at ht ⊢
  have h3 : scsE sch = 0 := by
    by_cases e : scsE sch = 0
    · exact e
    · rw [if_pos e] at ht; exact absurd ht e
  rw [if_neg (fun e => e h3)] at ht
  have h4 : ctsE cts = 0 := by
    by_cases e : ctsE cts = 0
    · exact e
    · rw [if_pos e] at ht; exact absurd ht e
  rw [if_neg (fun e => e h4)] at ht
  have g3 : scsE sch' = 0 := by
    unfold scsE at h3 ⊢
    rw [h.sn]
    by_cases e : sch.length = 0 ∨ 8 < sch.length
    · rw [if_pos e] at h3; cases h3
    rw [if_neg e] at h3 ⊢
    refine firstNZ_zero' _ _ fun k hk => ?_
    exact (h.s k hk).sc (firstNZ_all _ _ h3 k hk)
  have g4 : ctsE cts' = 0 := by
    unfold ctsE at h4 ⊢
    rw [h.cn]
    by_cases e : 6 < cts.length
    · rw [if_pos e] at h4; cases h4
    rw [if_neg e] at h4 ⊢
    refine firstNZ_zero' _ _ fun k hk => ?_
    have hk0 := firstNZ_all _ _ h4 k hk
    have hc := h.c k hk
    have hb := (o.cts k hk).bands
    have hm : (cts'.take k).map Ct.nm = (cts.take k).map Ct.nm := by
      apply List.ext_getElem
      · simp [h.cn]
      · intro i h1 h2
        simp only [List.length_map, List.length_take] at h1 h2
        have hi := h.c i (by omega)
        have e1 : cts'.getD i ct0 = cts'[i]'(by omega) := getD_get (by omega)
        have e2 : cts.getD i ct0 = cts[i]'(by omega) := getD_get (by omega)
        have := hi.nm
        rw [e1, e2] at this
        simpa using this
    unfold ctsF ctE at hk0 ⊢
    rw [hc.nm, hc.base, hc.pc, hc.yc, hc.rd, nmX_of_map hm, hc.b.err hb]
    rw [hb] at hk0
    exact hk0
  rw [if_neg (fun e => e g3), if_neg (fun e => e g4)]
  exact ht
theorem maxTo_mono {a b : Int} {x y : List Bd} (hab : a ≤ b) : ∀ n, (∀ k, k < n → (x.getD k bd0).r ≤ (y.getD k bd0).r) → maxTo a x n ≤ maxTo b y n
  | 0, _ => hab
  | n + 1, h => by
    have h1 := maxTo_mono hab n (fun k hk => h k (by omega))
    have h2 := h n (by omega)
    rw [maxTo, maxTo]; omega
theorem maxS_mono {lim : Int} {s s' : List (List Bd)} : ∀ n, (∀ i, i < n → (s'.getD i []).length = (s.getD i []).length ∧ LeB (s.getD i []) (s'.getD i [])) → maxS lim s' n ≤ maxS lim s n
  | 0, _ => Int.le_refl _
  | n + 1, h => by
    have h1 := maxS_mono (lim := lim) n (fun i hi => h i (by omega))
    obtain ⟨h2, h3⟩ := h n (by omega)
    rw [maxS, maxS, h2]
    exact maxTo_mono h1 _ (fun k hk => h3 k hk)
theorem cutC_mono {c c' : List Ct} : ∀ n, (∀ i, i < n → (c'.getD i ct0).bands.length = (c.getD i ct0).bands.length ∧ LeB (c.getD i ct0).bands (c'.getD i ct0).bands) → cutC c' n ≤ cutC c n
  | 0, _ => Int.le_refl _
  | n + 1, h => by
    have h1 := cutC_mono n (fun i hi => h i (by omega))
    obtain ⟨h2, h3⟩ := h n (by omega)
    have h4 := maxTo_mono (Int.le_refl 0) (c'.getD n ct0).bands.length (x := (c'.getD n ct0).bands) (y := (c.getD n ct0).bands) (fun k hk => h3 k (by omega))
    rw [cutC, cutC, h2]
    rw [h2] at h4
    omega
/-- of a table with no greater rates no less is kept -/
theorem kept_less {sch sch' : List (List Bd)} {cts cts' : List Ct} {kds : List Kd} {lim rnd : Int} (h : SameT sch sch' cts cts') (h1 : ∀ i, i < sch.length → LeB (sch.getD i []) (sch'.getD i [])) (h2 : ∀ j, j < cts.length → LeB (cts.getD j ct0).bands (cts'.getD j ct0).bands) : keptI ⟨sch, cts, kds, lim, rnd⟩ ≤ keptI ⟨sch', cts', kds, lim, rnd⟩ := by
  have a := maxS_mono (lim := lim) sch.length (fun i hi => ⟨(h.s i hi).1, h1 i hi⟩)
  have b := cutC_mono cts.length (fun i hi => ⟨(h.c i hi).b.1, h2 i hi⟩)
  unfold keptI
  rw [h.sn, h.cn]
  dsimp only
  omega
theorem LeB.swap {x y : List Bd} (hl : y.length = x.length) (h : ∀ k, k < x.length → (x.getD k bd0).r ≤ (y.getD k bd0).r) : LeB y x := fun k hk => h k (by omega)
/-- of a table with no less rates no more is kept -/
theorem kept_more {sch sch' : List (List Bd)} {cts : List Ct} {kds : List Kd} {lim rnd : Int} (hn : sch'.length = sch.length) (h1 : ∀ i, i < sch.length → (sch'.getD i []).length = (sch.getD i []).length ∧ ∀ k, k < (sch.getD i []).length → ((sch.getD i []).getD k bd0).r ≤ ((sch'.getD i []).getD k bd0).r) : keptI ⟨sch', cts, kds, lim, rnd⟩ ≤ keptI ⟨sch, cts, kds, lim, rnd⟩ := by
  have a := maxS_mono (lim := lim) (s := sch') (s' := sch) sch.length (fun i hi => ⟨(h1 i hi).1.symm, LeB.swap (h1 i hi).1 (h1 i hi).2⟩)
  unfold keptI
  rw [hn]
  dsimp only
  omega
/-- one that is accepted stays so -/
theorem keep_stays {sch sch' : List (List Bd)} {cts cts' : List Ct} {kds : List Kd} {lim rnd : Int} (ht : tbE ⟨sch, cts, kds, lim, rnd⟩ = 0) (h : SameT sch sch' cts cts') (h1 : ∀ i, i < sch.length → LeB (sch.getD i []) (sch'.getD i [])) (h2 : ∀ j, j < cts.length → LeB (cts.getD j ct0).bands (cts'.getD j ct0).bands) (hk : keepE ⟨sch, cts, kds, lim, rnd⟩ = 0) : keepE ⟨sch', cts', kds, lim, rnd⟩ = 0 := by
  have a := kept_less (kds := kds) (lim := lim) (rnd := rnd) h h1 h2
  unfold keepE at hk ⊢
  rw [if_neg (fun g => g ht)] at hk
  rw [if_neg (fun g => g (h.ok ht))]
  by_cases e : keptI ⟨sch, cts, kds, lim, rnd⟩ * 20 < 10000
  · rw [if_pos e] at hk; cases hk
  · rw [if_neg (by omega)]
/-- a rate, put in its place -/
def putR (x : List Bd) (k : Nat) (v : Int) : List Bd := x.set k { x.getD k bd0 with r := v }
theorem putR_len (x : List Bd) (k : Nat) (v : Int) : (putR x k v).length = x.length := by simp [putR]
theorem putR_at {x : List Bd} {k : Nat} {v : Int} (hk : k < x.length) : (putR x k v).getD k bd0 = { x.getD k bd0 with r := v } := by
  unfold putR
  generalize ({ x.getD k bd0 with r := v } : Bd) = y
  simp [List.getD, hk]
theorem putR_ne {x : List Bd} {k j : Nat} {v : Int} (h : j ≠ k) : (putR x k v).getD j bd0 = x.getD j bd0 := by
  unfold putR
  simp [List.getD, Ne.symm h]
theorem SameB.put {x y : List Bd} (h : SameB x y) {k : Nat} {v : Int} (hv : 0 ≤ v ∧ v ≤ 10000) : SameB x (putR y k v) := by
  refine ⟨by rw [putR_len]; exact h.1, fun j hj => ?_⟩
  by_cases e : j = k
  · subst e
    rw [putR_at (by rw [h.1]; exact hj)]
    have := h.2 j hj
    exact ⟨this.1, this.2.1, hv⟩
  · rw [putR_ne e]; exact h.2 j hj
end Go.Proofs.YtcngmajkkhipoaaGreatDoor
namespace Go.Proofs.YtcngmajkkhipoaaGreatDoor
set_option linter.unusedVariables false
open Go.RowKit
section
variable {w w' : World} {base : Nat} {sch : List (List Bd)} {cts : List Ct} {kds : List Kd} {As Ac Ak : Option Addr} {ns cs nc cc nk ck : Nat}
theorem OwnT.len (h : OwnT w base sch cts kds As Ac Ak ns cs nc cc nk ck) : ns = sch.length ∧ nc = cts.length ∧ nk = kds.length := by
  obtain ⟨⟨ls, e1, o1, _⟩, ⟨lc, e2, o2, _⟩, o3, _⟩ := h
  have f1 : ∀ l : List ScP, (l.flatMap scPC).length = l.length * 1 := fun l => by
    induction l with
    | nil => rfl
    | cons x l ih => rw [List.flatMap_cons, List.length_append, ih, scPC_len, List.length_cons]; omega
  have f2 : ∀ l : List CtP, (l.flatMap ctPC).length = l.length * 6 := fun l => by
    induction l with
    | nil => rfl
    | cons x l ih => rw [List.flatMap_cons, List.length_append, ih, ctPC_len, List.length_cons]; omega
  have f3 : ∀ l : List Kd, (l.flatMap kdC).length = l.length * 4 := fun l => by
    induction l with
    | nil => rfl
    | cons x l ih => rw [List.flatMap_cons, List.length_append, ih, kdC_len, List.length_cons]; omega
  have g1 := o1.1
  have g2 := o2.1
  have g3 := o3.1
  rw [f1] at g1
  rw [f2] at g2
  rw [f3] at g3
  refine ⟨?_, ?_, by omega⟩
  · rw [← e1, List.length_map]; omega
  · rw [← e2, List.length_map]; omega
theorem OwnT.below (h : OwnT w base sch cts kds As Ac Ak ns cs nc cc nk ck) (hb : Below w.heap.size w w') : OwnT w' base sch cts kds As Ac Ak ns cs nc cc nk ck := by
  obtain ⟨⟨ls, e1, o1, b1⟩, ⟨lc, e2, o2, b2⟩, o3, b3⟩ := h
  exact ⟨⟨ls, e1, own_below o1 hb, fun p hp => (b1 p hp).below hb⟩, ⟨lc, e2, own_below o2 hb, fun p hp => ⟨(b2 p hp).1.below hb, (b2 p hp).2⟩⟩, own_below o3 hb, b3⟩
theorem OwnT.setO (h : OwnT w base sch cts kds As Ac Ak ns cs nc cc nk ck) {g : Nat} {xs : Array Value} (hk : Blk w g 26 xs) (j : Nat) (u : Value) : OwnT (w.setCell ⟨g, j, none⟩ u) base sch cts kds As Ac Ak ns cs nc cc nk ck := by
  obtain ⟨⟨ls, e1, o1, b1⟩, ⟨lc, e2, o2, b2⟩, o3, b3⟩ := h
  exact ⟨⟨ls, e1, own_setO o1 hk (by decide) j u, fun p hp => (b1 p hp).setO hk (by decide) j u⟩, ⟨lc, e2, own_setO o2 hk (by decide) j u, fun p hp => ⟨(b2 p hp).1.setO hk (by decide) j u, (b2 p hp).2⟩⟩, own_setO o3 hk (by decide) j u, b3⟩
theorem OwnT.set5 (h : OwnT w base sch cts kds As Ac Ak ns cs nc cc nk ck) {g : Nat} {xs : Array Value} (hk : Blk w g 26 xs) (v0 v1 v2 v3 v4 : Value) : OwnT (((((w.setCell ⟨g, 0, none⟩ v0).setCell ⟨g, 1, none⟩ v1).setCell ⟨g, 2, none⟩ v2).setCell ⟨g, 3, none⟩ v3).setCell ⟨g, 4, none⟩ v4) base sch cts kds As Ac Ak ns cs nc cc nk ck :=
  ((((h.setO hk 0 v0).setO (hk.setJ 0 v0) 1 v1).setO ((hk.setJ 0 v0).setJ 1 v1) 2 v2).setO (((hk.setJ 0 v0).setJ 1 v1).setJ 2 v2) 3 v3).setO ((((hk.setJ 0 v0).setJ 1 v1).setJ 2 v2).setJ 3 v3) 4 v4
theorem OwnB.band {l : List Bd} {A : Option Addr} {n c : Nat} (h : OwnB w base (.slice A n c) n l) : BandSl w A n l := by
  obtain ⟨A', c', he, _, hs⟩ := h.sl
  injection he with h1 _ _
  subst h1
  exact hs
/-- such a table is one that can be read -/
theorem OwnT.view (h : OwnT w base sch cts kds As Ac Ak ns cs nc cc nk ck) : TbIn w sch cts kds As Ac Ak ns cs nc cc nk ck := by
  obtain ⟨n1, n2, n3⟩ := h.len
  obtain ⟨⟨ls, e1, o1, b1⟩, ⟨lc, e2, o2, b2⟩, o3, b3⟩ := h
  obtain ⟨A1, c1, he1, hc1, hs1⟩ := own_sl scPC 1 scp0 scPC_len o1 (by rw [n1, ← e1, List.length_map]) (by decide)
  obtain ⟨A2, c2, he2, hc2, hs2⟩ := own_sl ctPC 6 ctp0 ctPC_len o2 (by rw [n2, ← e2, List.length_map]) (by decide)
  obtain ⟨A3, c3, he3, hc3, hs3⟩ := own_sl kdC 4 kd0 kdC_len o3 n3 (by decide)
  injection he1 with x1 _ x2
  injection he2 with y1 _ y2
  injection he3 with z1 _ z2
  subst x1; subst x2; subst y1; subst y2; subst z1; subst z2
  refine ⟨?_, ?_, rows_kd hs3 b3, hc1, hc2, hc3⟩
  · rw [← e1]; exact rows_sc hs1 (fun p hp => (b1 p hp).band)
  · rw [← e2]; exact rows_ct hs2 (fun p hp => ⟨(b2 p hp).1.band, (b2 p hp).2⟩)
/-- one scheme, one contribution, one kind more -/
theorem OwnT.app_s (h : OwnT w base sch cts kds As Ac Ak ns cs nc cc nk ck) : ∃ row : List Value, w.ownsRow base 42 1 (.slice As ns cs) ns row ∧ ∀ (w' : World) (L : List Bd) (Aa : Option Addr) (pm ca : Nat) (A7 : Option Addr) (c7 : Nat), OwnB w base (.slice Aa pm ca) pm L → w'.ownsRow base 42 1 (.slice A7 (ns + 1) c7) (ns + 1) (row ++ [.slice Aa pm ca]) → w.grownBy w' (Value.slice As ns cs).ownBlock →
    OwnT w' base (sch ++ [L]) cts kds A7 Ac Ak (ns + 1) c7 nc cc nk ck := by
  obtain ⟨⟨ls, e1, o1, b1⟩, ⟨lc, e2, o2, b2⟩, o3, b3⟩ := h
  refine ⟨_, o1, fun w' L Aa pm ca A7 c7 hL ho hg => ⟨⟨ls ++ [(⟨L, Aa, pm, ca⟩ : ScP)], by rw [List.map_append, e1]; rfl, ?_, fun p hp => ?_⟩, ⟨lc, e2, o2.kept hg (own_own o2 o1 (by decide)), fun p hp => ⟨(b2 p hp).1.grown o1 (by decide) hg, (b2 p hp).2⟩⟩, o3.kept hg (own_own o3 o1 (by decide)), b3⟩⟩
  · rw [List.flatMap_append]; simpa [scPC] using ho
  · rcases List.mem_append.1 hp with hp | hp
    · exact (b1 p hp).grown o1 (by decide) hg
    · simp at hp; subst hp; exact hL.grown o1 (by decide) hg
theorem OwnT.app_c (h : OwnT w base sch cts kds As Ac Ak ns cs nc cc nk ck) : ∃ row : List Value, w.ownsRow base 46 6 (.slice Ac nc cc) nc row ∧ ∀ (w' : World) (x : Ct) (Aa : Option Addr) (pm ca : Nat) (A7 : Option Addr) (c7 : Nat), OwnB w base (.slice Aa pm ca) pm x.bands → x.nm.size ≤ 9223372036854775807 → w'.ownsRow base 46 6 (.slice A7 (nc + 1) c7) (nc + 1) (row ++ ctPC ⟨x, Aa, pm, ca⟩) → w.grownBy w' (Value.slice Ac nc cc).ownBlock →
    OwnT w' base sch (cts ++ [x]) kds As A7 Ak ns cs (nc + 1) c7 nk ck := by
  obtain ⟨⟨ls, e1, o1, b1⟩, ⟨lc, e2, o2, b2⟩, o3, b3⟩ := h
  refine ⟨_, o2, fun w' x Aa pm ca A7 c7 hL hz ho hg => ⟨⟨ls, e1, o1.kept hg (own_own o1 o2 (by decide)), fun p hp => (b1 p hp).grown o2 (by decide) hg⟩, ⟨lc ++ [(⟨x, Aa, pm, ca⟩ : CtP)], by rw [List.map_append, e2]; rfl, ?_, fun p hp => ?_⟩, o3.kept hg (own_own o3 o2 (by decide)), b3⟩⟩
  · rw [List.flatMap_append]; simpa using ho
  · rcases List.mem_append.1 hp with hp | hp
    · exact ⟨(b2 p hp).1.grown o2 (by decide) hg, (b2 p hp).2⟩
    · simp at hp; subst hp; exact ⟨hL.grown o2 (by decide) hg, hz⟩
theorem OwnT.app_k (h : OwnT w base sch cts kds As Ac Ak ns cs nc cc nk ck) {x : Kd} (hz : x.nm.size ≤ 9223372036854775807) {A7 : Option Addr} {c7 : Nat}
    (ho : w'.ownsRow base 56 4 (.slice A7 (nk + 1) c7) (nk + 1) (kds.flatMap kdC ++ kdC x)) (hg : w.grownBy w' (Value.slice Ak nk ck).ownBlock) :
    OwnT w' base sch cts (kds ++ [x]) As Ac A7 ns cs nc cc (nk + 1) c7 := by
  obtain ⟨⟨ls, e1, o1, b1⟩, ⟨lc, e2, o2, b2⟩, o3, b3⟩ := h
  refine ⟨⟨ls, e1, o1.kept hg (own_own o1 o3 (by decide)), fun p hp => (b1 p hp).grown o3 (by decide) hg⟩, ⟨lc, e2, o2.kept hg (own_own o2 o3 (by decide)), fun p hp => ⟨(b2 p hp).1.grown o3 (by decide) hg, (b2 p hp).2⟩⟩, ?_, fun p hp => ?_⟩
  · rw [List.flatMap_append]; simpa using ho
  · rcases List.mem_append.1 hp with hp | hp
    · exact b3 p hp
    · simp at hp; subst hp; exact hz
end
theorem getD_drop (L : List ByteArray) (j k : Nat) : (L.drop j).getD k st0 = L.getD (j + k) st0 := by simp [List.getD, List.getElem?_drop]
/-! ### what Put answers -/
def putE (n : Nat) (L : List ByteArray) : Int :=
  if n < 2 then 5
  else if L.getD 0 st0 = ⟨#[108, 105, 109, 105, 116]⟩ then (if n = 2 then inE (L.getD 1 st0).data.toList else 5)
  else if L.getD 0 st0 = ⟨#[114, 111, 117, 110, 100]⟩ then (if n = 2 then modeE (L.getD 1 st0) else 5)
  else if L.getD 0 st0 = ⟨#[115, 99, 104, 101, 109, 101]⟩ then rdE false (L.drop 1)
  else if L.getD 0 st0 = ⟨#[99, 111, 110, 116, 114, 105, 98]⟩ then cwE (n - 1) (L.drop 1)
  else if L.getD 0 st0 = ⟨#[107, 105, 110, 100]⟩ then kwE (n - 1) (L.drop 1) else 5
def putV (t : Tb) (L : List ByteArray) : Tb :=
  if L.getD 0 st0 = ⟨#[108, 105, 109, 105, 116]⟩ then { t with lim := inV (L.getD 1 st0).data.toList }
  else if L.getD 0 st0 = ⟨#[114, 111, 117, 110, 100]⟩ then { t with rnd := modeV (L.getD 1 st0) }
  else if L.getD 0 st0 = ⟨#[115, 99, 104, 101, 109, 101]⟩ then { t with sch := t.sch ++ [rdL false (L.drop 1)] }
  else if L.getD 0 st0 = ⟨#[99, 111, 110, 116, 114, 105, 98]⟩ then { t with cts := t.cts ++ [cwV (L.drop 1)] }
  else { t with kds := t.kds ++ [kwV (L.drop 1)] }
/-- a table in memory, as a value -/
def tbV (As Ac Ak : Option Addr) (ns cs nc cc nk ck : Nat) (lim rnd : Int) : Value := .agg #[.slice As ns cs, .slice Ac nc cc, .slice Ak nk ck, .int .i64 lim, .int .i64 rnd]
def PutR (t : Tb) (As Ac Ak : Option Addr) (ns cs nc cc nk ck : Nat) (n : Nat) (L : List ByteArray) (w : World) (e : Ending) (w' : World) : Prop :=
  ((putE n L = 0 ∧ ∃ As' cs' Ac' cc' Ak' ck', e = .returned (.tuple #[tbV As' Ac' Ak' (putV t L).sch.length cs' (putV t L).cts.length cc' (putV t L).kds.length ck' (putV t L).lim (putV t L).rnd, .int .i64 0]) ∧ OwnT w' w.heap.size (putV t L).sch (putV t L).cts (putV t L).kds As' Ac' Ak' (putV t L).sch.length cs' (putV t L).cts.length cc' (putV t L).kds.length ck') ∨
   (putE n L ≠ 0 ∧ e = .returned (.tuple #[tbV As Ac Ak ns cs nc cc nk ck t.lim t.rnd, .int .i64 (putE n L)]))) ∧ Below w.heap.size w w'
theorem put_yes {t : Tb} {As Ac Ak : Option Addr} {ns cs nc cc nk ck n : Nat} {L : List ByteArray} {w w' : World} {sch : List (List Bd)} {cts : List Ct} {kds : List Kd} {lim rnd : Int} {As' Ac' Ak' : Option Addr} {ns' cs' nc' cc' nk' ck' : Nat}
    (he : putE n L = 0) (hv : putV t L = ⟨sch, cts, kds, lim, rnd⟩) (hO : OwnT w' w.heap.size sch cts kds As' Ac' Ak' ns' cs' nc' cc' nk' ck') (hb : Below w.heap.size w w') :
    PutR t As Ac Ak ns cs nc cc nk ck n L w (.returned (.tuple #[.agg #[.slice As' ns' cs', .slice Ac' nc' cc', .slice Ak' nk' ck', .int .i64 lim, .int .i64 rnd], .int .i64 0])) w' := by
  obtain ⟨n1, n2, n3⟩ := hO.len
  subst n1; subst n2; subst n3
  exact ⟨Or.inl ⟨he, As', cs', Ac', cc', Ak', ck', by rw [hv]; rfl, by rw [hv]; exact hO⟩, hb⟩
theorem put_no {t : Tb} {As Ac Ak : Option Addr} {ns cs nc cc nk ck n : Nat} {L : List ByteArray} {w w' : World} {r : Int} (he : putE n L = r) (h : r ≠ 0) (hb : Below w.heap.size w w') :
    PutR t As Ac Ak ns cs nc cc nk ck n L w (.returned (.tuple #[.agg #[.slice As ns cs, .slice Ac nc cc, .slice Ak nk ck, .int .i64 t.lim, .int .i64 t.rnd], .int .i64 r])) w' :=
  ⟨Or.inr ⟨by rw [he]; exact h, by rw [he]; rfl⟩, hb⟩
/-- what contrib and kind answer, in letters -/
def ContribQ (nm : ByteArray) (bs : Int) (bands : List Bd) (pc yc rd er : Int) (w : World) (e : Ending) (w' : World) : Prop :=
  ((er = 0 ∧ ∃ A m c, e = .returned (.tuple #[.agg #[.string nm, .int .i64 bs, .slice A m c, .int .i64 pc, .int .i64 yc, .int .i64 rd], .int .i64 0]) ∧ OwnB w' w.heap.size (.slice A m c) m bands) ∨ (er ≠ 0 ∧ e = .returned (.tuple #[.agg #[.string ⟨#[]⟩, .int .i64 0, .slice none 0 0, .int .i64 0, .int .i64 0, .int .i64 0], .int .i64 er]))) ∧ Below w.heap.size w w'
theorem contribQ {n : Nat} {L : List ByteArray} {w w' : World} {e : Ending} {nm : ByteArray} {bs : Int} {bands : List Bd} {pc yc rd : Int} (hz : cwV L = ⟨nm, bs, bands, pc, yc, rd⟩) (h : ContribR n L w e w') : ContribQ nm bs bands pc yc rd (cwE n L) w e w' := by
  obtain ⟨h1 | h1, hb⟩ := h
  · obtain ⟨h0, A, m, c, he, ho⟩ := h1
    have hbd : rdL true (L.drop 5) = bands := congrArg Ct.bands hz
    rw [hz] at he
    rw [hbd] at ho
    exact ⟨Or.inl ⟨h0, A, m, c, he, ho⟩, hb⟩
  · exact ⟨Or.inr h1, hb⟩
def KindQ (nm : ByteArray) (x1 x2 x3 er : Int) (w : World) (e : Ending) (w' : World) : Prop :=
  ((er = 0 ∧ e = .returned (.tuple #[.agg #[.string nm, .int .i64 x1, .int .i64 x2, .int .i64 x3], .int .i64 0])) ∨ (er ≠ 0 ∧ e = .returned (.tuple #[.agg #[.string ⟨#[]⟩, .int .i64 0, .int .i64 0, .int .i64 0], .int .i64 5]))) ∧ Below w.heap.size w w'
theorem kindQ {n : Nat} {L : List ByteArray} {w w' : World} {e : Ending} {nm : ByteArray} {x1 x2 x3 : Int} (hz : kwV L = ⟨nm, x1, x2, x3⟩) (h : KindR n L w e w') : KindQ nm x1 x2 x3 (kwE n L) w e w' := by
  obtain ⟨h1 | h1, hb⟩ := h
  · rw [hz] at h1
    exact ⟨Or.inl h1, hb⟩
  · exact ⟨Or.inr h1, hb⟩
theorem Blk.set6 {w : World} {g : Nat} {t : TypeId} {a b c d e f : Value} (h : Blk w g t #[a, b, c, d, e, f]) (v0 v1 v2 v3 v4 v5 : Value) : Blk ((((((w.setCell ⟨g, 0, none⟩ v0).setCell ⟨g, 1, none⟩ v1).setCell ⟨g, 2, none⟩ v2).setCell ⟨g, 3, none⟩ v3).setCell ⟨g, 4, none⟩ v4).setCell ⟨g, 5, none⟩ v5) g t #[v0, v1, v2, v3, v4, v5] := (((((h.setJ 0 v0).setJ 1 v1).setJ 2 v2).setJ 3 v3).setJ 4 v4).setJ 5 v5
theorem Blk.set4 {w : World} {g : Nat} {t : TypeId} {a b c d : Value} (h : Blk w g t #[a, b, c, d]) (v0 v1 v2 v3 : Value) : Blk ((((w.setCell ⟨g, 0, none⟩ v0).setCell ⟨g, 1, none⟩ v1).setCell ⟨g, 2, none⟩ v2).setCell ⟨g, 3, none⟩ v3) g t #[v0, v1, v2, v3] := (((h.setJ 0 v0).setJ 1 v1).setJ 2 v2).setJ 3 v3
end Go.Proofs.YtcngmajkkhipoaaGreatDoor
namespace Go.Proofs.YtcngmajkkhipoaaGreatDoor
set_option linter.unusedVariables false
open Go.RowKit
def wLimit : List UInt8 := [108, 105, 109, 105, 116]
def wRound : List UInt8 := [114, 111, 117, 110, 100]
def wScheme : List UInt8 := [115, 99, 104, 101, 109, 101]
def wContrib : List UInt8 := [99, 111, 110, 116, 114, 105, 98]
def wKind : List UInt8 := [107, 105, 110, 100]
def wTaxable : List UInt8 := [116, 97, 120, 97, 98, 108, 101]
def wSocial : List UInt8 := [115, 111, 99, 105, 97, 108]
/-- how -1, 0 and 1 are written -/
def sgC (n : Int) : UInt8 := if n = -1 then 45 else if n = 0 then 48 else 43
def spJ (ws : List (List UInt8)) : List UInt8 := Lib.join ws [32]
def limW (n : Int) : List (List UInt8) := [wLimit, Lib.itoa n]
def rndW (n : Int) : List (List UInt8) := [wRound, (modeN n).data.toList]
def schW (x : List Bd) : List (List UInt8) := wScheme :: x.map (bdT false)
def ctW (x : Ct) : List (List UInt8) := [wContrib, x.nm.data.toList, if x.base = 2 then wSocial else wTaxable, (modeN x.rd).data.toList, textB x.pc, textB x.yc] ++ x.bands.map (bdT true)
def kdW (x : Kd) : List (List UInt8) := [wKind, x.nm.data.toList, [sgC x.c], [sgC x.t], [sgC x.s]]
def tbW (t : Tb) : List (List (List UInt8)) := limW t.lim :: rndW t.rnd :: (t.sch.map schW ++ (t.cts.map ctW ++ t.kds.map kdW))
/-- the lines -/
def tbL (t : Tb) : List ByteArray := (tbW t).map fun ws => mkB (spJ ws)
/-! ### what may be -/
theorem tbE_ok {t : Tb} (h : tbE t = 0) : TbOK t.sch t.cts t.kds t.lim t.rnd ∧ t.sch.length ≤ 8 ∧ t.cts.length ≤ 6 ∧ t.kds.length ≤ 12 ∧ 1 ≤ t.kds.length := by
  unfold tbE at h
  have h1 : rateB t.lim = true := by
    cases hh : rateB t.lim with
    | true => rfl
    | false => rw [if_pos hh] at h; cases h
  rw [if_neg (by rw [h1]; decide)] at h
  have h2 : modeB t.rnd = true := by
    cases hh : modeB t.rnd with
    | true => rfl
    | false => rw [if_pos hh] at h; cases h
  rw [if_neg (by rw [h2]; decide)] at h
  have h3 : scsE t.sch = 0 := by
    by_cases e : scsE t.sch = 0
    · exact e
    · rw [if_pos e] at h; exact absurd h e
  rw [if_neg (fun e => e h3)] at h
  have h4 : ctsE t.cts = 0 := by
    by_cases e : ctsE t.cts = 0
    · exact e
    · rw [if_pos e] at h; exact absurd h e
  rw [if_neg (fun e => e h4)] at h
  unfold scsE at h3
  by_cases e3 : t.sch.length = 0 ∨ 8 < t.sch.length
  · rw [if_pos e3] at h3; cases h3
  rw [if_neg e3] at h3
  unfold ctsE at h4
  by_cases e4 : 6 < t.cts.length
  · rw [if_pos e4] at h4; cases h4
  rw [if_neg e4] at h4
  unfold kdsE at h
  by_cases e5 : t.kds.length = 0 ∨ 12 < t.kds.length
  · rw [if_pos e5] at h; cases h
  rw [if_neg e5] at h
  have g3 := firstNZ_all _ _ h3
  have g4 := firstNZ_all _ _ h4
  have g5 := firstNZ_all _ _ h
  refine ⟨⟨h1, h2, by omega, fun k hk => ?_, fun k hk => ?_, fun k hk => ?_⟩, by omega, by omega, by omega, by omega⟩
  · have g := g3 k hk
    unfold scsF scE1 at g
    generalize t.sch.getD k [] = x at *
    by_cases e : bandsErr x = 0
    · rw [if_neg (fun h => h e)] at g
      refine ⟨e, fun i hi => ?_⟩
      by_cases e2 : (x.getD i bd0).e = 0
      · exact e2
      · rw [if_pos ⟨i, hi, e2⟩] at g; cases g
    · rw [if_pos e] at g; exact absurd g e
  · have g := g4 k hk
    unfold ctsF ctE at g
    generalize t.cts.getD k ct0 = x at *
    by_cases a1 : nameB x.nm = false
    · rw [if_pos a1] at g; cases g
    rw [if_neg a1] at g
    by_cases a2 : 0 ≤ nmX Ct.nm (t.cts.take k) x.nm
    · rw [if_pos a2] at g; cases g
    rw [if_neg a2] at g
    by_cases a3 : x.base ≠ 1 ∧ x.base ≠ 2
    · rw [if_pos a3] at g; cases g
    rw [if_neg a3] at g
    by_cases a4 : modeB x.rd = false
    · rw [if_pos a4] at g; cases g
    rw [if_neg a4] at g
    by_cases a5 : x.pc < 0
    · rw [if_pos a5] at g; cases g
    rw [if_neg a5] at g
    by_cases a6 : 100000000000 < x.pc
    · rw [if_pos a6] at g; cases g
    rw [if_neg a6] at g
    by_cases a7 : x.yc < 0
    · rw [if_pos a7] at g; cases g
    rw [if_neg a7] at g
    by_cases a8 : 100000000000 < x.yc
    · rw [if_pos a8] at g; cases g
    rw [if_neg a8] at g
    exact ⟨by simpa using a1, by omega, by simpa using a4, by omega, by omega, g⟩
  · have g := g5 k hk
    unfold kdsF kdE1 at g
    generalize t.kds.getD k kd0 = x at *
    by_cases a1 : nameB x.nm = false
    · rw [if_pos a1] at g; cases g
    rw [if_neg a1] at g
    by_cases a2 : 0 ≤ nmX Kd.nm (t.kds.take k) x.nm
    · rw [if_pos a2] at g; cases g
    rw [if_neg a2] at g
    by_cases a3 : decide (-1 ≤ x.c ∧ x.c ≤ 1) = false
    · rw [if_pos a3] at g; cases g
    rw [if_neg a3] at g
    by_cases a4 : decide (-1 ≤ x.t ∧ x.t ≤ 1) = false
    · rw [if_pos a4] at g; cases g
    rw [if_neg a4] at g
    by_cases a5 : decide (-1 ≤ x.s ∧ x.s ≤ 1) = false
    · rw [if_pos a5] at g; cases g
    exact ⟨by simpa using a1, by simpa using a3, by simpa using a4, by simpa using a5⟩
/-! ### words without quotes -/
theorem joinQ_bare : ∀ (ws : List (List UInt8)), (∀ w ∈ ws, bareB w = true) → joinQ ws = spJ ws
  | [], _ => rfl
  | [w], h => by
    rw [show joinQ [w] = qT w ++ [] from rfl, (qT_bare (h w (by simp))).2, List.append_nil]
    exact (Lib.join_one w [32]).symm
  | w :: v :: ws, h => by
    have ih := joinQ_bare (v :: ws) (fun x hx => h x (by simp at hx ⊢; exact Or.inr hx))
    rw [show joinQ (w :: v :: ws) = qT w ++ 32 :: joinQ (v :: ws) from rfl, (qT_bare (h w (by simp))).2, ih]
    unfold spJ
    rw [Lib.join_cons, Lib.join_cons]
    simp [Lib.joinTail]
theorem bare_sh {l : List UInt8} (h : bareB l = true) : allB shB l = true := by
  unfold bareB at h
  simp only [Bool.and_eq_true] at h
  have h2 := h.2
  unfold allB at h2 ⊢
  rw [List.all_eq_true] at h2 ⊢
  exact fun c hc => plB_sh (h2 c hc)
/-- a line of plain words is cut into them -/
theorem cut_sp (ws : List (List UInt8)) (hn : ws.length ≤ 32) (hb : ∀ w ∈ ws, bareB w = true) (hl : (spJ ws).length ≤ 512) : cutR (mkB (spJ ws)).data.toList = (0, ws) := by
  have e : (mkB (spJ ws)).data.toList = joinQ ws := by rw [joinQ_bare ws hb]; simp [mkB]
  rw [e]
  unfold cutR
  rw [if_neg (by rw [joinQ_bare ws hb]; omega)]
  exact cut_join ws 0 (by omega) (fun w hw => bare_sh (hb w hw))
theorem spJ_len : ∀ (ws : List (List UInt8)) (m : Nat), (∀ w ∈ ws, w.length ≤ m) → (spJ ws).length ≤ ws.length * (m + 1)
  | [], m, _ => by simp [spJ, Lib.join_nil]
  | [w], m, h => by
    have := h w (by simp)
    simp [spJ, Lib.join_one]; omega
  | w :: v :: ws, m, h => by
    have ih := spJ_len (v :: ws) m (fun x hx => h x (by simp at hx ⊢; exact Or.inr hx))
    have h0 := h w (by simp)
    have e : (spJ (w :: v :: ws)).length = w.length + 1 + (spJ (v :: ws)).length := by
      unfold spJ
      rw [Lib.join_cons, Lib.join_cons]
      simp [Lib.joinTail]
      omega
    rw [e]
    simp only [List.length_cons] at ih ⊢
    have : (ws.length + 1 + 1) * (m + 1) = (ws.length + 1) * (m + 1) + (m + 1) := by rw [Nat.succ_mul]
    omega
theorem plB_dig (b : UInt8) (h : 48 ≤ b.toNat ∧ b.toNat ≤ 57) : plB (bI b) = true := by
  unfold plB bI
  simp
  omega
theorem dec_pl (u : Nat) : ∀ c ∈ Lib.decDigits u, 48 ≤ c.toNat ∧ c.toNat ≤ 57 := by
  induction u using Nat.strongRecOn with
  | ind u ih =>
    intro c hc
    rw [Lib.decDigits] at hc
    split at hc
    · rw [List.mem_singleton.1 hc, toNat_dig u (by assumption)]
      omega
    · rcases List.mem_append.1 hc with hc | hc
      · exact ih (u / 10) (by omega) c hc
      · rw [List.mem_singleton.1 hc, toNat_dig (u % 10) (by omega)]
        omega
theorem dec_ne (u : Nat) : Lib.decDigits u ≠ [] := by
  rw [Lib.decDigits]
  split
  · simp
  · simp
/-- the bytes of a number: a sign, a point, digits -/
def numB (c : UInt8) : Prop := c = 45 ∨ c = 46 ∨ (48 ≤ c.toNat ∧ c.toNat ≤ 57)
theorem num_pl {c : UInt8} (h : numB c) : plB (bI c) = true := by
  rcases h with rfl | rfl | h
  · decide
  · decide
  · exact plB_dig c h
theorem num_ne {c : UInt8} (h : numB c) : c ≠ 58 := by
  rcases h with rfl | rfl | h
  · decide
  · decide
  · intro e
    subst e
    exact absurd h.2 (by decide)
theorem itoa_num (n : Int) : (∀ c ∈ Lib.itoa n, numB c) ∧ Lib.itoa n ≠ [] := by
  unfold Lib.itoa
  split
  · refine ⟨fun c hc => ?_, by simp⟩
    rcases List.mem_cons.1 hc with rfl | hc
    · exact Or.inl rfl
    · exact Or.inr (Or.inr (dec_pl _ c hc))
  · exact ⟨fun c hc => Or.inr (Or.inr (dec_pl _ c hc)), dec_ne _⟩
theorem text_num (x : Int) : (∀ c ∈ textB x, numB c) ∧ textB x ≠ [] := by
  have key : ∀ (a : Int) (neg : Bool), (∀ c ∈ textI a neg, numB c) ∧ textI a neg ≠ [] := by
    intro a neg
    unfold textI
    constructor
    · intro c hc
      rcases List.mem_append.1 hc with hc | hc
      · cases neg
        · simp at hc
        · simp at hc; exact Or.inl hc
      rcases List.mem_append.1 hc with hc | hc
      · rcases List.mem_append.1 hc with hc | hc
        · rcases List.mem_append.1 hc with hc | hc
          · exact Or.inr (Or.inr (dec_pl _ c hc))
          · simp at hc; exact Or.inr (Or.inl hc)
        · by_cases h : a % 100 < 10
          · rw [if_pos h] at hc; simp at hc; subst hc; exact Or.inr (Or.inr (by decide))
          · rw [if_neg h] at hc; simp at hc
      · exact Or.inr (Or.inr (dec_pl _ c hc))
    · simp
  exact key _ _
theorem bare_of {l : List UInt8} (h0 : l ≠ []) (h : ∀ c ∈ l, plB (bI c) = true) : bareB l = true := by
  unfold bareB allB
  simp only [Bool.and_eq_true, decide_eq_true_eq, List.all_eq_true]
  exact ⟨h0, h⟩
theorem bdT_bare (both : Bool) (b : Bd) : bareB (bdT both b) = true := by
  have h1 := text_num b.f
  have h2 := itoa_num b.r
  have h3 := itoa_num b.e
  refine bare_of ?_ fun c hc => ?_
  · unfold bdT; simp
  · unfold bdT at hc
    rcases List.mem_append.1 hc with hc | hc
    · exact num_pl (h1.1 c hc)
    rcases List.mem_cons.1 hc with rfl | hc
    · decide
    rcases List.mem_append.1 hc with hc | hc
    · exact num_pl (h2.1 c hc)
    cases both with
    | false => simp at hc
    | true =>
      rw [if_pos rfl] at hc
      rcases List.mem_cons.1 hc with rfl | hc
      · decide
      · exact num_pl (h3.1 c hc)
/-! ### parts of a word -/
theorem idx_no : ∀ (a : List UInt8), (∀ c ∈ a, c ≠ 58) → Lib.indexByte a 58 = -1
  | [], _ => rfl
  | x :: a, h => by
    have h0 : (x == 58) = false := by simpa using h x (by simp)
    have ih := idx_no a (fun c hc => h c (by simp [hc]))
    unfold Lib.indexByte
    rw [h0, ih]; rfl
theorem idx_at : ∀ (a b : List UInt8), (∀ c ∈ a, c ≠ 58) → Lib.indexByte (a ++ 58 :: b) 58 = a.length
  | [], b, _ => by simp [Lib.indexByte]
  | x :: a, b, h => by
    have h0 : (x == 58) = false := by simpa using h x (by simp)
    have ih := idx_at a b (fun c hc => h c (by simp [hc]))
    rw [List.cons_append]
    unfold Lib.indexByte
    rw [h0, ih]
    have : ((a.length : Int) == -1) = false := by
      rw [beq_eq_false_iff_ne]; omega
    rw [this]
    simp
theorem mkB_list (l : List UInt8) : (mkB l).data.toList = l := by simp [mkB]
theorem mkB_back (s : ByteArray) : mkB s.data.toList = s := by cases s; simp [mkB]
theorem mkB_size (l : List UInt8) : (mkB l).size = l.length := by rw [Lib.size_eq, mkB_list]
theorem split_no (k : Nat) (a : List UInt8) (h : ∀ c ∈ a, c ≠ 58) : Lib.splitB ⟨#[58]⟩ 0 k (mkB a) = [mkB a] := by
  refine Lib.splitB_miss _ _ _ _ ?_
  show Lib.index (mkB a).data.toList [58] = -1
  rw [Lib.index_one, mkB_list, idx_no a h]
theorem split_at (k : Nat) (a b : List UInt8) (h : ∀ c ∈ a, c ≠ 58) : Lib.splitB ⟨#[58]⟩ 0 (k + 1) (mkB (a ++ 58 :: b)) = mkB a :: Lib.splitB ⟨#[58]⟩ 0 k (mkB b) := by
  have e : Lib.indexB (mkB (a ++ 58 :: b)) ⟨#[58]⟩ = a.length := by
    show Lib.index (mkB (a ++ 58 :: b)).data.toList [58] = _
    rw [Lib.index_one, mkB_list, idx_at a b h]
  have e2 : (Lib.indexB (mkB (a ++ 58 :: b)) ⟨#[58]⟩ == -1) = false := by rw [e, beq_eq_false_iff_ne]; omega
  rw [Lib.splitB, e2, if_neg (by decide), e]
  have s1 : (mkB (a ++ 58 :: b)).extract 0 ((a.length : Int).toNat + 0) = mkB a := by
    rw [mkB_ext, mkB_list]
    congr 1
    simp
  have s2 : (mkB (a ++ 58 :: b)).extract ((a.length : Int).toNat + (⟨#[58]⟩ : ByteArray).size) (mkB (a ++ 58 :: b)).size = mkB b := by
    rw [mkB_ext, mkB_list, mkB_size, show (⟨#[58]⟩ : ByteArray).size = 1 from rfl]
    congr 1
    have e3 : (a ++ 58 :: b).drop ((a.length : Int).toNat + 1) = b := by
      rw [show (a.length : Int).toNat + 1 = a.length + 1 by omega]
      rw [List.drop_append, List.drop_of_length_le (by omega), show a.length + 1 - a.length = 1 by omega]
      rfl
    rw [e3]
    apply List.take_of_length_le
    simp
    omega
  rw [s1, s2]
theorem count58 (l : List UInt8) : Lib.countB (mkB l) ⟨#[58]⟩ = l.count 58 := by
  show Lib.count (mkB l).data.toList [58] = _
  rw [Lib.count_one, mkB_list]
theorem count_no {a : List UInt8} (h : ∀ c ∈ a, c ≠ 58) : a.count 58 = 0 := List.count_eq_zero.2 (fun hc => h 58 hc rfl)
theorem ptS_two (a b : List UInt8) (ha : ∀ c ∈ a, c ≠ 58) (hb : ∀ c ∈ b, c ≠ 58) : ptS (mkB (a ++ 58 :: b)) = [mkB a, mkB b] := by
  unfold ptS
  rw [count58, List.count_append, List.count_cons, count_no ha, count_no hb, show 0 + (0 + if ((58 : UInt8) == 58) = true then 1 else 0) = 0 + 1 from rfl, split_at 0 a b ha, split_no 0 b hb]
theorem ptS_three (a b c : List UInt8) (ha : ∀ x ∈ a, x ≠ 58) (hb : ∀ x ∈ b, x ≠ 58) (hc : ∀ x ∈ c, x ≠ 58) : ptS (mkB (a ++ 58 :: (b ++ 58 :: c))) = [mkB a, mkB b, mkB c] := by
  unfold ptS
  rw [count58, List.count_append, List.count_cons, List.count_append, List.count_cons, count_no ha, count_no hb, count_no hc, show 0 + (0 + (0 + if ((58 : UInt8) == 58) = true then 1 else 0) + if ((58 : UInt8) == 58) = true then 1 else 0) = 1 + 1 from rfl, split_at 1 a _ ha, split_at 0 b c hb, split_no 0 c hc]
/-- a band, read of what is written -/
theorem rd_bdT (both : Bool) (b : Bd) (h : BdOK b) (he : both = false → b.e = 0) : rdE1 both (ptS (mkB (bdT both b))) = 0 ∧ rdV1 both (ptS (mkB (bdT both b))) = b := by
  obtain ⟨⟨f0, f1⟩, ⟨r0, r1⟩, e0, e1⟩ := h
  have h1 := text_num b.f
  have h2 := itoa_num b.r
  have h3 := itoa_num b.e
  have n1 : ∀ c ∈ textB b.f, c ≠ 58 := fun c hc => num_ne (h1.1 c hc)
  have n2 : ∀ c ∈ Lib.itoa b.r, c ≠ 58 := fun c hc => num_ne (h2.1 c hc)
  have n3 : ∀ c ∈ Lib.itoa b.e, c ≠ 58 := fun c hc => num_ne (h3.1 c hc)
  obtain ⟨p1, p2⟩ := parse_text b.f f0 f1
  obtain ⟨q1, q2⟩ := int_itoa b.r (by omega) (by omega)
  obtain ⟨s1, s2⟩ := int_itoa b.e (by omega) (by omega)
  cases both with
  | false =>
    have e : bdT false b = textB b.f ++ 58 :: Lib.itoa b.r := by unfold bdT; simp
    rw [e, ptS_two _ _ n1 n2, (rd2 _ _).1, (rd2 _ _).2]
    simp only [mkB_list, p1, p2, q1, q2]
    refine ⟨rfl, ?_⟩
    have := he rfl
    cases b
    simp at this ⊢
    exact this.symm
  | true =>
    have e : bdT true b = textB b.f ++ 58 :: (Lib.itoa b.r ++ 58 :: Lib.itoa b.e) := by unfold bdT; simp
    rw [e, ptS_three _ _ _ n1 n2 n3, (rd3 _ _ _).1, (rd3 _ _ _).2]
    simp only [mkB_list, p1, p2, q1, q2, s1, s2]
    exact ⟨rfl, trivial⟩
theorem fnz_zero (f : Nat → Int) (n : Nat) (h : ∀ k, k < n → f k = 0) : firstNZ f n = 0 := by
  induction n with
  | zero => rfl
  | succ n ih => exact firstNZ_step f n (ih fun k hk => h k (by omega)) (h n (by omega))
theorem rd_bands (both : Bool) (l : List Bd) (h : ∀ b ∈ l, BdOK b) (he : both = false → ∀ b ∈ l, b.e = 0) : rdE both ((l.map (bdT both)).map mkB) = 0 ∧ rdL both ((l.map (bdT both)).map mkB) = l := by
  constructor
  · refine fnz_zero _ _ fun k hk => ?_
    rw [List.length_map, List.length_map] at hk
    unfold rdF
    rw [getD_get (by simpa using hk), List.getElem_map, List.getElem_map]
    exact (rd_bdT both l[k] (h _ (List.getElem_mem hk)) (fun hb => he hb _ (List.getElem_mem hk))).1
  · unfold rdL
    rw [List.map_map, List.map_map]
    conv => rhs; rw [← List.map_id l]
    refine List.map_congr_left fun b hb => ?_
    exact (rd_bdT both b (h b hb) (fun e => he e b hb)).2
/-! ### ways of rounding and signs -/
theorem mode_back (m : Int) (h : modeB m = true) : modeE (modeN m) = 0 ∧ modeV (modeN m) = m ∧ bareB (modeN m).data.toList = true ∧ (modeN m).data.toList.length ≤ 8 := by
  obtain ⟨h0, h1⟩ := modeB_iff.1 h
  rcases (by omega : m = 1 ∨ m = 2 ∨ m = 3 ∨ m = 4 ∨ m = 5 ∨ m = 6) with rfl | rfl | rfl | rfl | rfl | rfl <;> decide +kernel
theorem sign_back (n : Int) (h : -1 ≤ n ∧ n ≤ 1) : sgB (mkB [sgC n]) = true ∧ sgX (mkB [sgC n]) - 1 = n ∧ bareB [sgC n] = true := by
  rcases (by omega : n = -1 ∨ n = 0 ∨ n = 1) with rfl | rfl | rfl <;> decide +kernel
theorem nameC_pl {f : Bool} {c : UInt8} (h : nameC f c.toNat = true) : plB (bI c) = true := by
  unfold nameC at h
  simp only [decide_eq_true_eq] at h
  unfold plB bI
  simp only [Bool.and_eq_true, decide_eq_true_eq]
  omega
theorem name_bare {s : ByteArray} (h : nameB s = true) : bareB s.data.toList = true ∧ s.data.toList.length ≤ 16 := by
  unfold nameB at h
  simp only [Bool.and_eq_true, decide_eq_true_eq, List.all_eq_true, List.mem_range] at h
  have hs : s.data.toList.length = s.size := by simp
  refine ⟨bare_of (fun e => h.1.1 (by rw [← hs, e]; rfl)) fun c hc => ?_, by omega⟩
  obtain ⟨i, hi, rfl⟩ := List.getElem_of_mem hc
  have := h.2 i (by omega)
  rw [getD_get hi] at this
  exact nameC_pl this
theorem itoa_short (n : Int) (h0 : 0 ≤ n) (h1 : n ≤ 10000) : (Lib.itoa n).length ≤ 5 := by
  unfold Lib.itoa
  rw [if_neg (by omega)]
  exact dec_len_le 4 _ (by omega)
theorem bdT_len (both : Bool) (b : Bd) (h : BdOK b) : (bdT both b).length ≤ 32 := by
  obtain ⟨⟨f0, f1⟩, ⟨r0, r1⟩, e0, e1⟩ := h
  have h1 := textB_len b.f f0 f1
  have h2 := itoa_short b.r r0 r1
  have h3 := itoa_short b.e e0 e1
  unfold bdT
  cases both with
  | false => simp; omega
  | true => simp; omega
end Go.Proofs.YtcngmajkkhipoaaGreatDoor
namespace Go.Proofs.YtcngmajkkhipoaaGreatDoor
set_option linter.unusedVariables false
open Go.RowKit
def wsB (ws : List (List UInt8)) : List ByteArray := ws.map mkB
theorem band_ok {x : List Bd} (h : bandsErr x = 0) : ∀ b ∈ x, BdOK b := fun b hb => by
  have g := goodB x h
  obtain ⟨k, hk, rfl⟩ := List.getElem_of_mem hb
  have e : x.getD k bd0 = x[k] := getD_get hk
  have f := g.f k hk
  have r := g.r k hk
  have e' := g.e k hk
  rw [e] at f r e'
  exact ⟨by omega, r, e'⟩
theorem sc_zero {x : List Bd} (h : ScOK x) : ∀ b ∈ x, b.e = 0 := fun b hb => by
  obtain ⟨k, hk, rfl⟩ := List.getElem_of_mem hb
  have := h.e k hk
  rwa [getD_get hk] at this
theorem kw_ne : (mkB wRound = ⟨#[108, 105, 109, 105, 116]⟩) = False ∧ (mkB wScheme = ⟨#[108, 105, 109, 105, 116]⟩) = False ∧ (mkB wScheme = ⟨#[114, 111, 117, 110, 100]⟩) = False ∧ (mkB wContrib = ⟨#[108, 105, 109, 105, 116]⟩) = False ∧ (mkB wContrib = ⟨#[114, 111, 117, 110, 100]⟩) = False ∧ (mkB wContrib = ⟨#[115, 99, 104, 101, 109, 101]⟩) = False ∧
    (mkB wKind = ⟨#[108, 105, 109, 105, 116]⟩) = False ∧ (mkB wKind = ⟨#[114, 111, 117, 110, 100]⟩) = False ∧ (mkB wKind = ⟨#[115, 99, 104, 101, 109, 101]⟩) = False ∧ (mkB wKind = ⟨#[99, 111, 110, 116, 114, 105, 98]⟩) = False := by
  simp only [eq_iff_iff, iff_false]
  decide +kernel
theorem put_lim (u : Tb) (n : Int) (h : -999999999 ≤ n ∧ n ≤ 999999999) : putE (limW n).length (wsB (limW n)) = 0 ∧ putV u (wsB (limW n)) = { u with lim := n } := by
  obtain ⟨h1, h2⟩ := int_itoa n h.1 h.2
  have e0 : (wsB (limW n)).getD 0 st0 = ⟨#[108, 105, 109, 105, 116]⟩ := rfl
  have e1 : (wsB (limW n)).getD 1 st0 = mkB (Lib.itoa n) := rfl
  unfold putE putV
  rw [show (limW n).length = 2 from rfl, e0, e1, if_neg (by decide), if_pos rfl, if_pos rfl, if_pos rfl, mkB_list, h1, h2]
  exact ⟨rfl, rfl⟩
theorem put_rnd (u : Tb) (m : Int) (h : modeB m = true) : putE (rndW m).length (wsB (rndW m)) = 0 ∧ putV u (wsB (rndW m)) = { u with rnd := m } := by
  obtain ⟨h1, h2, _⟩ := mode_back m h
  have e0 : (wsB (rndW m)).getD 0 st0 = mkB wRound := rfl
  have e1 : (wsB (rndW m)).getD 1 st0 = mkB (modeN m).data.toList := rfl
  have t0 : mkB wRound = ⟨#[114, 111, 117, 110, 100]⟩ := rfl
  unfold putE putV
  rw [show (rndW m).length = 2 from rfl, e0, e1, if_neg (by decide), if_neg (by rw [kw_ne.1]; exact not_false), if_pos t0, if_pos rfl, if_neg (by rw [kw_ne.1]; exact not_false), if_pos t0, mkB_back, h1, h2]
  exact ⟨rfl, rfl⟩
theorem put_sch (u : Tb) (x : List Bd) (h : ScOK x) : putE (schW x).length (wsB (schW x)) = 0 ∧ putV u (wsB (schW x)) = { u with sch := u.sch ++ [x] } := by
  have g := goodB x h.bands
  obtain ⟨_, n2, n3, _⟩ := kw_ne
  have t0 : mkB wScheme = ⟨#[115, 99, 104, 101, 109, 101]⟩ := rfl
  have e0 : (wsB (schW x)).getD 0 st0 = mkB wScheme := rfl
  have e1 : (wsB (schW x)).drop 1 = (x.map (bdT false)).map mkB := rfl
  obtain ⟨r1, r2⟩ := rd_bands false x (band_ok h.bands) (fun _ => sc_zero h)
  have hl := g.lo
  unfold putE putV
  rw [e0, e1, if_neg (by simp [schW]; omega), if_neg (by rw [n2]; exact not_false), if_neg (by rw [n3]; exact not_false), if_pos t0, if_neg (by rw [n2]; exact not_false), if_neg (by rw [n3]; exact not_false), if_pos t0, r1, r2]
  exact ⟨rfl, rfl⟩
theorem base_back (b : Int) (h : b = 1 ∨ b = 2) : cwS (mkB (if b = 2 then wSocial else wTaxable)) = b ∧ bareB (if b = 2 then wSocial else wTaxable) = true ∧ (if b = 2 then wSocial else wTaxable).length ≤ 8 := by
  rcases h with rfl | rfl <;> decide +kernel
theorem put_ct (u : Tb) (x : Ct) (h : CtOK x) : putE (ctW x).length (wsB (ctW x)) = 0 ∧ putV u (wsB (ctW x)) = { u with cts := u.cts ++ [x] } := by
  obtain ⟨_, _, _, n1, n2, n3, _⟩ := kw_ne
  have t0 : mkB wContrib = ⟨#[99, 111, 110, 116, 114, 105, 98]⟩ := rfl
  have e0 : (wsB (ctW x)).getD 0 st0 = mkB wContrib := rfl
  have e1 : (wsB (ctW x)).drop 1 = [mkB x.nm.data.toList, mkB (if x.base = 2 then wSocial else wTaxable), mkB (modeN x.rd).data.toList, mkB (textB x.pc), mkB (textB x.yc)] ++ (x.bands.map (bdT true)).map mkB := rfl
  have r := rd_bands true x.bands (band_ok h.bands) (fun e => by cases e)
  obtain ⟨b1, b2, _⟩ := base_back x.base h.base
  obtain ⟨m1, m2, _⟩ := mode_back x.rd h.rd
  obtain ⟨p1, p2⟩ := parse_text x.pc (by have := h.pc; omega) (by have := h.pc; omega)
  obtain ⟨y1, y2⟩ := parse_text x.yc (by have := h.yc; omega) (by have := h.yc; omega)
  have hlen : (ctW x).length = 6 + x.bands.length := by simp [ctW]; omega
  have hE : cwE ((ctW x).length - 1) ((wsB (ctW x)).drop 1) = 0 := by
    rw [e1]
    unfold cwE
    rw [if_neg (by omega)]
    show (if cwS (mkB (if x.base = 2 then wSocial else wTaxable)) = 0 then _ else if modeE (mkB (modeN x.rd).data.toList) ≠ 0 then _ else if parseE (mkB (textB x.pc)).data.toList ≠ 0 then _ else if parseE (mkB (textB x.yc)).data.toList ≠ 0 then _ else rdE true ((x.bands.map (bdT true)).map mkB)) = 0
    rw [b1, if_neg (by have := h.base; omega), mkB_back, m1, if_neg (by decide), mkB_list, p1, if_neg (by decide), mkB_list, y1, if_neg (by decide), r.1]
  have hV : cwV ((wsB (ctW x)).drop 1) = x := by
    rw [e1]
    show (⟨mkB x.nm.data.toList, cwS (mkB (if x.base = 2 then wSocial else wTaxable)), rdL true ((x.bands.map (bdT true)).map mkB), parseV (mkB (textB x.pc)).data.toList, parseV (mkB (textB x.yc)).data.toList, modeV (mkB (modeN x.rd).data.toList)⟩ : Ct) = x
    rw [mkB_back, mkB_back, b1, r.2, mkB_list, mkB_list, p2, y2, m2]
  unfold putE putV
  rw [e0, if_neg (by omega), if_neg (by rw [n1]; exact not_false), if_neg (by rw [n2]; exact not_false), if_neg (by rw [n3]; exact not_false), if_pos t0, if_neg (by rw [n1]; exact not_false), if_neg (by rw [n2]; exact not_false), if_neg (by rw [n3]; exact not_false), if_pos t0, hE, hV]
  exact ⟨rfl, rfl⟩
theorem put_kd (u : Tb) (x : Kd) (h : KdOK x) : putE (kdW x).length (wsB (kdW x)) = 0 ∧ putV u (wsB (kdW x)) = { u with kds := u.kds ++ [x] } := by
  obtain ⟨_, _, _, _, _, _, n1, n2, n3, n4⟩ := kw_ne
  have t0 : mkB wKind = ⟨#[107, 105, 110, 100]⟩ := rfl
  have e0 : (wsB (kdW x)).getD 0 st0 = mkB wKind := rfl
  have e1 : (wsB (kdW x)).drop 1 = [mkB x.nm.data.toList, mkB [sgC x.c], mkB [sgC x.t], mkB [sgC x.s]] := rfl
  obtain ⟨a1, a2, _⟩ := sign_back x.c h.c
  obtain ⟨b1, b2, _⟩ := sign_back x.t h.t
  obtain ⟨c1, c2, _⟩ := sign_back x.s h.s
  have hE : kwE ((kdW x).length - 1) ((wsB (kdW x)).drop 1) = 0 := by
    rw [e1]
    unfold kwE
    rw [if_pos ⟨rfl, a1, b1, c1⟩]
  have hV : kwV ((wsB (kdW x)).drop 1) = x := by
    rw [e1]
    show (⟨mkB x.nm.data.toList, sgX (mkB [sgC x.c]) - 1, sgX (mkB [sgC x.t]) - 1, sgX (mkB [sgC x.s]) - 1⟩ : Kd) = x
    rw [mkB_back, a2, b2, c2]
  unfold putE putV
  rw [e0, if_neg (by simp [kdW]), if_neg (by rw [n1]; exact not_false), if_neg (by rw [n2]; exact not_false), if_neg (by rw [n3]; exact not_false), if_neg (by rw [n4]; exact not_false), if_pos t0, if_neg (by rw [n1]; exact not_false), if_neg (by rw [n2]; exact not_false), if_neg (by rw [n3]; exact not_false), if_neg (by rw [n4]; exact not_false), hE, hV]
  exact ⟨rfl, rfl⟩
/-! ### all lines -/
def tb0 : Tb := ⟨[], [], [], 0, 0⟩
def putW (u : Tb) (ws : List (List UInt8)) : Tb := putV u (wsB ws)
theorem fold_sch : ∀ (l : List (List Bd)) (u : Tb), (∀ x ∈ l, ScOK x) → (l.map schW).foldl putW u = { u with sch := u.sch ++ l }
  | [], u, _ => by simp
  | x :: l, u, h => by
    rw [List.map_cons, List.foldl_cons, show putW u (schW x) = _ from (put_sch u x (h x (by simp))).2, fold_sch l _ (fun y hy => h y (by simp [hy]))]
    simp
theorem fold_ct : ∀ (l : List Ct) (u : Tb), (∀ x ∈ l, CtOK x) → (l.map ctW).foldl putW u = { u with cts := u.cts ++ l }
  | [], u, _ => by simp
  | x :: l, u, h => by
    rw [List.map_cons, List.foldl_cons, show putW u (ctW x) = _ from (put_ct u x (h x (by simp))).2, fold_ct l _ (fun y hy => h y (by simp [hy]))]
    simp
theorem fold_kd : ∀ (l : List Kd) (u : Tb), (∀ x ∈ l, KdOK x) → (l.map kdW).foldl putW u = { u with kds := u.kds ++ l }
  | [], u, _ => by simp
  | x :: l, u, h => by
    rw [List.map_cons, List.foldl_cons, show putW u (kdW x) = _ from (put_kd u x (h x (by simp))).2, fold_kd l _ (fun y hy => h y (by simp [hy]))]
    simp
theorem all_of {α : Type} {P : α → Prop} {l : List α} {d : α} (h : ∀ k, k < l.length → P (l.getD k d)) : ∀ x ∈ l, P x := fun x hx => by
  obtain ⟨k, hk, rfl⟩ := List.getElem_of_mem hx
  have := h k hk
  rwa [getD_get hk] at this
theorem tb_fold {t : Tb} (h : tbE t = 0) : (tbW t).foldl putW tb0 = t := by
  obtain ⟨o, _⟩ := tbE_ok h
  have hl := rateB_iff.1 o.lim
  unfold tbW
  rw [List.foldl_cons, List.foldl_cons, show putW tb0 (limW t.lim) = _ from (put_lim tb0 t.lim (by omega)).2, show putW _ (rndW t.rnd) = _ from (put_rnd _ t.rnd o.rnd).2,
    List.foldl_append, List.foldl_append, fold_sch _ _ (all_of o.sch), fold_ct _ _ (all_of o.cts), fold_kd _ _ (all_of o.kds)]
  rfl
/-- what each line is -/
structure LnOK (ws : List (List UInt8)) : Prop where
  put : putE ws.length (wsB ws) = 0
  bare : ∀ w ∈ ws, bareB w = true
  two : 2 ≤ ws.length
  few : ws.length ≤ 14
  len : (spJ ws).length ≤ 500
theorem tb_lines {t : Tb} (h : tbE t = 0) : ∀ ws ∈ tbW t, LnOK ws := by
  obtain ⟨o, _⟩ := tbE_ok h
  have hl := rateB_iff.1 o.lim
  intro ws hw
  unfold tbW at hw
  rcases List.mem_cons.1 hw with rfl | hw
  · have i1 := itoa_num t.lim
    have i2 := itoa_short t.lim hl.1 hl.2
    refine ⟨(put_lim tb0 t.lim (by omega)).1, fun w hw => ?_, by simp [limW], by simp [limW], ?_⟩
    · simp [limW] at hw
      rcases hw with rfl | rfl
      · decide
      · exact bare_of i1.2 (fun c hc => num_pl (i1.1 c hc))
    · have := spJ_len (limW t.lim) 32 (fun w hw => by
        simp [limW] at hw
        rcases hw with rfl | rfl
        · decide
        · omega)
      simp [limW] at this ⊢
      omega
  rcases List.mem_cons.1 hw with rfl | hw
  · obtain ⟨_, _, m3, m4⟩ := mode_back t.rnd o.rnd
    refine ⟨(put_rnd tb0 t.rnd o.rnd).1, fun w hw => ?_, by simp [rndW], by simp [rndW], ?_⟩
    · simp [rndW] at hw
      rcases hw with rfl | rfl
      · decide
      · exact m3
    · have := spJ_len (rndW t.rnd) 32 (fun w hw => by
        simp [rndW] at hw
        rcases hw with rfl | rfl
        · decide
        · omega)
      simp [rndW] at this ⊢
      omega
  rcases List.mem_append.1 hw with hw | hw
  · obtain ⟨x, hx, rfl⟩ := List.mem_map.1 hw
    have ox := all_of o.sch x hx
    have g := goodB x ox.bands
    have hlo := g.lo
    have hhi := g.hi
    refine ⟨(put_sch tb0 x ox).1, fun w hw => ?_, by simp [schW]; omega, by simp [schW]; omega, ?_⟩
    · rcases List.mem_cons.1 hw with rfl | hw
      · decide
      · obtain ⟨b, _, rfl⟩ := List.mem_map.1 hw
        exact bdT_bare false b
    · have := spJ_len (schW x) 32 (fun w hw => by
        rcases List.mem_cons.1 hw with rfl | hw
        · decide
        · obtain ⟨b, hb, rfl⟩ := List.mem_map.1 hw
          exact bdT_len false b (band_ok ox.bands b hb))
      have e : (schW x).length = x.length + 1 := by simp [schW]
      rw [e] at this
      omega
  rcases List.mem_append.1 hw with hw | hw
  · obtain ⟨x, hx, rfl⟩ := List.mem_map.1 hw
    have ox := all_of o.cts x hx
    have g := goodB x.bands ox.bands
    have hlo := g.lo
    have hhi := g.hi
    obtain ⟨n1, n2⟩ := name_bare ox.nm
    obtain ⟨_, b2, b3⟩ := base_back x.base ox.base
    obtain ⟨_, _, m3, m4⟩ := mode_back x.rd ox.rd
    have p1 := text_num x.pc
    have y1 := text_num x.yc
    have p2 := textB_len x.pc (by have := ox.pc; omega) (by have := ox.pc; omega)
    have y2 := textB_len x.yc (by have := ox.yc; omega) (by have := ox.yc; omega)
    have key : ∀ w ∈ ctW x, bareB w = true ∧ w.length ≤ 32 := fun w hw => by
      rcases List.mem_append.1 hw with hw | hw
      · simp only [List.mem_cons, List.not_mem_nil, or_false] at hw
        rcases hw with rfl | rfl | rfl | rfl | rfl | rfl
        · decide
        · exact ⟨n1, by omega⟩
        · exact ⟨b2, by omega⟩
        · exact ⟨m3, by omega⟩
        · exact ⟨bare_of p1.2 (fun c hc => num_pl (p1.1 c hc)), by omega⟩
        · exact ⟨bare_of y1.2 (fun c hc => num_pl (y1.1 c hc)), by omega⟩
      · obtain ⟨b, hb, rfl⟩ := List.mem_map.1 hw
        exact ⟨bdT_bare true b, bdT_len true b (band_ok ox.bands b hb)⟩
    have e : (ctW x).length = 6 + x.bands.length := by simp [ctW]; omega
    refine ⟨(put_ct tb0 x ox).1, fun w hw => (key w hw).1, by omega, by omega, ?_⟩
    have := spJ_len (ctW x) 32 (fun w hw => (key w hw).2)
    rw [e] at this
    omega
  · obtain ⟨x, hx, rfl⟩ := List.mem_map.1 hw
    have ox := all_of o.kds x hx
    obtain ⟨n1, n2⟩ := name_bare ox.nm
    have key : ∀ w ∈ kdW x, bareB w = true ∧ w.length ≤ 32 := fun w hw => by
      simp only [kdW, List.mem_cons, List.not_mem_nil, or_false] at hw
      rcases hw with rfl | rfl | rfl | rfl | rfl
      · decide
      · exact ⟨n1, by omega⟩
      · exact ⟨(sign_back x.c ox.c).2.2, by simp⟩
      · exact ⟨(sign_back x.t ox.t).2.2, by simp⟩
      · exact ⟨(sign_back x.s ox.s).2.2, by simp⟩
    refine ⟨(put_kd tb0 x ox).1, fun w hw => (key w hw).1, by simp [kdW], by simp [kdW], ?_⟩
    have := spJ_len (kdW x) 32 (fun w hw => (key w hw).2)
    simp [kdW] at this ⊢
    omega
end Go.Proofs.YtcngmajkkhipoaaGreatDoor
namespace Go.Proofs.YtcngmajkkhipoaaGreatDoor
set_option linter.unusedVariables false
open Go.RowKit
theorem take_snoc {α : Type} (L : List α) (d : α) (i : Nat) (h : i < L.length) : L.take (i + 1) = L.take i ++ [L.getD i d] := by
  rw [List.take_add_one, List.getElem?_eq_getElem h, getD_get h]; rfl
theorem tbL_len (t : Tb) : (tbL t).length = 2 + (t.sch.length + (t.cts.length + t.kds.length)) := by
  simp [tbL, tbW]; omega
theorem tbL_two (t : Tb) : (tbL t).take 2 = [mkB (spJ (limW t.lim)), mkB (spJ (rndW t.rnd))] := rfl
theorem tbL_s (t : Tb) (k : Nat) (hk : k < t.sch.length) : (tbL t).take (2 + (k + 1)) = (tbL t).take (2 + k) ++ [mkB (spJ (schW (t.sch.getD k [])))] := by
  rw [show 2 + (k + 1) = 2 + k + 1 by omega, take_snoc (tbL t) st0 (2 + k) (by rw [tbL_len]; omega)]
  congr 2
  rw [getD_get (by rw [tbL_len]; omega), getD_get hk]
  simp only [tbL, tbW, List.map_cons, List.map_append, List.map_map]
  simp only [show 2 + k = k + 1 + 1 by omega, List.getElem_cons_succ]
  rw [List.getElem_append_left (by simpa using hk)]
  simp
theorem tbL_c (t : Tb) (k : Nat) (hk : k < t.cts.length) : (tbL t).take (2 + t.sch.length + (k + 1)) = (tbL t).take (2 + t.sch.length + k) ++ [mkB (spJ (ctW (t.cts.getD k ct0)))] := by
  rw [show 2 + t.sch.length + (k + 1) = 2 + t.sch.length + k + 1 by omega, take_snoc (tbL t) st0 (2 + t.sch.length + k) (by rw [tbL_len]; omega)]
  congr 2
  rw [getD_get (by rw [tbL_len]; omega), getD_get hk]
  simp only [tbL, tbW, List.map_cons, List.map_append, List.map_map]
  simp only [show 2 + t.sch.length + k = t.sch.length + k + 1 + 1 by omega, List.getElem_cons_succ]
  rw [List.getElem_append_right (by simp)]
  rw [List.getElem_append_left (by simp; omega)]
  simp
theorem tbL_k (t : Tb) (k : Nat) (hk : k < t.kds.length) : (tbL t).take (2 + t.sch.length + t.cts.length + (k + 1)) = (tbL t).take (2 + t.sch.length + t.cts.length + k) ++ [mkB (spJ (kdW (t.kds.getD k kd0)))] := by
  rw [show 2 + t.sch.length + t.cts.length + (k + 1) = 2 + t.sch.length + t.cts.length + k + 1 by omega, take_snoc (tbL t) st0 (2 + t.sch.length + t.cts.length + k) (by rw [tbL_len]; omega)]
  congr 2
  rw [getD_get (by rw [tbL_len]; omega), getD_get hk]
  simp only [tbL, tbW, List.map_cons, List.map_append, List.map_map]
  simp only [show 2 + t.sch.length + t.cts.length + k = t.sch.length + (t.cts.length + k) + 1 + 1 by omega, List.getElem_cons_succ]
  rw [List.getElem_append_right (by simp)]
  rw [List.getElem_append_right (by simp)]
  simp
theorem spJ_lim (n : Int) : spJ (limW n) = wLimit ++ [32] ++ Lib.itoa n := by
  unfold spJ limW
  rw [Lib.join_cons]
  simp [Lib.joinTail]
theorem spJ_rnd (m : Int) : spJ (rndW m) = wRound ++ [32] ++ (modeN m).data.toList := by
  unfold spJ rndW
  rw [Lib.join_cons]
  simp [Lib.joinTail]
theorem spJ_cons (w v : List UInt8) (ws : List (List UInt8)) : spJ (w :: v :: ws) = w ++ [32] ++ spJ (v :: ws) := by
  unfold spJ
  rw [Lib.join_cons, Lib.join_cons]
  simp [Lib.joinTail]
theorem spJ_sch (x : List Bd) (h : 1 ≤ x.length) : spJ (schW x) = wScheme ++ [32] ++ Lib.join ((bdsT false x).map (·.data.toList)) [32] := by
  have e : (bdsT false x).map (·.data.toList) = x.map (bdT false) := by
    unfold bdsT; rw [List.map_map]; rfl
  rw [e]
  unfold schW
  cases x with
  | nil => simp at h
  | cons b x => rw [List.map_cons, spJ_cons]; rfl
theorem spJ_kd (x : Kd) : spJ (kdW x) = wKind ++ [32] ++ x.nm.data.toList ++ ([32] ++ [sgC x.c]) ++ ([32] ++ [sgC x.t]) ++ ([32] ++ [sgC x.s]) := by
  unfold spJ kdW
  rw [Lib.join_cons]
  simp [Lib.joinTail]
theorem spJ_ct (x : Ct) (B : ByteArray) (M : ByteArray) (hB : B = mkB (if x.base = 2 then wSocial else wTaxable)) (hM : M = modeN x.rd) : Lib.join (([mkB wContrib, x.nm, B, M, mkB (textB x.pc), mkB (textB x.yc)] ++ bdsT true x.bands).map (·.data.toList)) [32] = spJ (ctW x) := by
  subst hB; subst hM
  have e : (bdsT true x.bands).map (·.data.toList) = x.bands.map (bdT true) := by
    unfold bdsT; rw [List.map_map]; rfl
  rw [List.map_append, e]
  simp only [List.map_cons, List.map_nil, mkB_list]
  rfl
theorem st_one {l : List ByteArray} : ∀ u ∈ l.flatMap stC, u.oneCell' = true := fun u hu => by
  obtain ⟨x, _, hx⟩ := List.mem_flatMap.1 hu
  simp [stC] at hx
  subst hx
  rfl
theorem sg_ext (n : Int) (h : -1 ≤ n ∧ n ≤ 1) : (⟨#[45, 48, 43]⟩ : ByteArray).extract (n + 1).toNat (n + 2).toNat = mkB [sgC n] := by
  rcases (by omega : n = -1 ∨ n = 0 ∨ n = 1) with rfl | rfl | rfl <;> decide +kernel
theorem mkB_app (a b : List UInt8) : mkB (a ++ b) = mkB a ++ mkB b := (ba_app a b).symm
theorem kd_line (nm : ByteArray) (c t z : Int) : ((((⟨#[107, 105, 110, 100, 32]⟩ : ByteArray) ++ nm) ++ (⟨#[32]⟩ ++ mkB [sgC c])) ++ (⟨#[32]⟩ ++ mkB [sgC t])) ++ (⟨#[32]⟩ ++ mkB [sgC z]) = mkB (spJ (kdW ⟨nm, c, t, z⟩)) := by
  rw [spJ_kd]
  simp only [mkB_app, mkB_back]
  rfl
/-- a row beside one that begins behind all that was there -/
theorem own_far {w : World} {base size n : Nat} {e : TypeId} {v : Value} {xs : List Value} (h : w.ownsRow base e size v n xs) {g m c : Nat} (hg : w.heap.size ≤ g) : v.ownBlock = none ∨ v.ownBlock ≠ (Value.slice (some ⟨g, 0, none⟩) m c).ownBlock := by
  right
  intro hk
  have := (h.lt g hk).2
  omega
--%%
theorem join_c (sep : ByteArray) (A : Option Addr) (n c : Nat) (L : List ByteArray) (w : World) (hl : StSl w A n L) (hc : n ≤ c) (h1 : 1 ≤ n) (hn : n ≤ 1000000) (J : List UInt8) (hJ : Lib.join (L.map (·.data.toList)) sep.data.toList = J) (hlen : J.length ≤ 1000000) :
    Calls Tryz.prog 25 #[.slice A n c, .string sep] w fun e w' => e = .returned (.string ⟨J.toArray⟩) ∧ Below w.heap.size w w' := by
  obtain ⟨e1, _, h3⟩ := hl
  obtain ⟨b, off, rfl, hlt, hat⟩ := h3 (by omega)
  subst hJ
  subst e1
  refine Tryz.strings_Join b off c L sep w (fun j x hx => ?_) hlt (by omega) hc (by omega)
  have hj : j < L.length := (List.getElem?_eq_some_iff.1 hx).1
  have h := hat j hj 0 (.string (L.getD j st0)) rfl
  rw [getD_get hj] at h
  rw [(List.getElem?_eq_some_iff.1 hx).2] at h
  simpa using h
--%%
end Go.Proofs.YtcngmajkkhipoaaGreatDoor
namespace Go.Proofs.YtcngmajkkhipoaaGreatDoor
set_option linter.unusedVariables false
open Go.RowKit
set_option maxRecDepth 100000
def linesB : ByteArray := ⟨#[108, 105, 109, 105, 116, 32, 53, 48, 48, 48, 10, 114, 111, 117, 110, 100, 32, 100, 111, 119, 110, 10, 115, 99, 104, 101, 109, 101, 32, 48, 46, 48, 48, 58, 48, 32, 49, 48, 48, 46, 48, 48, 58, 50, 48, 48, 48, 10, 99, 111, 110, 116, 114, 105, 98, 32, 104, 101, 97, 108, 116, 104, 32, 115, 111, 99, 105, 97, 108, 32, 104, 97, 108, 102, 117, 112, 32, 48, 46, 48, 48, 32, 53, 48, 48, 48, 46, 48, 48, 32, 48, 46, 48, 48, 58, 53, 48, 48, 58, 55, 48, 48, 10, 107, 105, 110, 100, 32, 115, 97, 108, 97, 114, 121, 32, 43, 32, 43, 32, 43, 10, 107, 105, 110, 100, 32, 99, 97, 114, 32, 48, 32, 43, 32, 48, 10]⟩
def trimB : ByteArray := ⟨#[108, 105, 109, 105, 116, 32, 53, 48, 48, 48, 10, 114, 111, 117, 110, 100, 32, 100, 111, 119, 110, 10, 115, 99, 104, 101, 109, 101, 32, 48, 46, 48, 48, 58, 48, 32, 49, 48, 48, 46, 48, 48, 58, 50, 48, 48, 48, 10, 99, 111, 110, 116, 114, 105, 98, 32, 104, 101, 97, 108, 116, 104, 32, 115, 111, 99, 105, 97, 108, 32, 104, 97, 108, 102, 117, 112, 32, 48, 46, 48, 48, 32, 53, 48, 48, 48, 46, 48, 48, 32, 48, 46, 48, 48, 58, 53, 48, 48, 58, 55, 48, 48, 10, 107, 105, 110, 100, 32, 115, 97, 108, 97, 114, 121, 32, 43, 32, 43, 32, 43, 10, 107, 105, 110, 100, 32, 99, 97, 114, 32, 48, 32, 43, 32, 48]⟩
def lnS : List ByteArray := [⟨#[108, 105, 109, 105, 116, 32, 53, 48, 48, 48]⟩, ⟨#[114, 111, 117, 110, 100, 32, 100, 111, 119, 110]⟩, ⟨#[115, 99, 104, 101, 109, 101, 32, 48, 46, 48, 48, 58, 48, 32, 49, 48, 48, 46, 48, 48, 58, 50, 48, 48, 48]⟩, ⟨#[99, 111, 110, 116, 114, 105, 98, 32, 104, 101, 97, 108, 116, 104, 32, 115, 111, 99, 105, 97, 108, 32, 104, 97, 108, 102, 117, 112, 32, 48, 46, 48, 48, 32, 53, 48, 48, 48, 46, 48, 48, 32, 48, 46, 48, 48, 58, 53, 48, 48, 58, 55, 48, 48]⟩, ⟨#[107, 105, 110, 100, 32, 115, 97, 108, 97, 114, 121, 32, 43, 32, 43, 32, 43]⟩, ⟨#[107, 105, 110, 100, 32, 99, 97, 114, 32, 48, 32, 43, 32, 48]⟩]
theorem trim_eq : (⟨(Lib.trimSuffix linesB.data.toList [10]).toArray⟩ : ByteArray) = trimB := by decide +kernel
theorem split_eq : Lib.splitB ⟨#[10]⟩ 0 (Lib.countB trimB ⟨#[10]⟩) trimB = lnS := by decide +kernel
theorem count_eq : Lib.countB trimB ⟨#[10]⟩ + 1 = 6 := by decide +kernel
def bdW (k : Nat) : List (List UInt8) := (cutR (lnS.getD k st0).data.toList).2
def bdSt : Nat → Tb
  | 0 => tb0
  | k + 1 => putW (bdSt k) (bdW k)
def T0 : Tb := ⟨[[⟨0, 0, 0⟩, ⟨10000, 2000, 0⟩]], [⟨⟨#[104, 101, 97, 108, 116, 104]⟩, 2, [⟨0, 500, 700⟩], 0, 500000, 4⟩], [⟨⟨#[115, 97, 108, 97, 114, 121]⟩, 1, 1, 1⟩, ⟨⟨#[99, 97, 114]⟩, 0, 1, 0⟩], 5000, 1⟩
theorem bd_cut : ∀ k, k < 6 → (cutR (lnS.getD k st0).data.toList).1 = 0 := by decide +kernel
theorem bd_put : ∀ k, k < 6 → putE (bdW k).length (wsB (bdW k)) = 0 := by decide +kernel
theorem bd_size : ∀ k, k < 6 → (bdW k).length ≤ 10 ∧ ∀ x ∈ wsB (bdW k), x.size ≤ 20 := by decide +kernel
theorem bd_len : ∀ k, k < 7 → (bdSt k).sch.length ≤ 10 ∧ (bdSt k).cts.length ≤ 10 ∧ (bdSt k).kds.length ≤ 10 ∧ (∀ x ∈ (bdSt k).sch, x.length ≤ 10) ∧ (∀ x ∈ (bdSt k).cts, x.bands.length ≤ 10) := by decide +kernel
theorem bd_end : bdSt 6 = T0 := by rfl
theorem T0_ok : tbE T0 = 0 := by decide +kernel
theorem T0_lines : (mkB (Lib.join ((tbL T0).map (·.data.toList)) [10]) ++ ⟨#[10]⟩ : ByteArray) = linesB := by decide +kernel
end Go.Proofs.YtcngmajkkhipoaaGreatDoor
