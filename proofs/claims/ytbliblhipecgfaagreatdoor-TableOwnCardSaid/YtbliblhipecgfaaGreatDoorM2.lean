/-
  Tables in memory whose slices the call owns; slices.Clone at their types. Conditions as named.
-/
import Derived.Test.YtbliblhipecgfaaGreatDoorM1
import Derived.Test.YtbliblhipecgfaaGreatDoorTabC
import Derived.Test.YtbliblhipecgfaaGreatDoorTabK
import Derived.Lib.SliceRun
namespace Go.Proofs.YtbliblhipecgfaaGreatDoor
set_option linter.unusedVariables false
open Go.RowKit
/-- a contribution, with where its bands lie -/
structure CtP where
  x : Ct
  A : Option Addr
  m : Nat
  c : Nat
def ctp0 : CtP := ⟨ct0, none, 0, 0⟩
def ctPC (p : CtP) : List Value := [.string p.x.nm, .int .i64 p.x.base, .slice p.A p.m p.c, .int .i64 p.x.pc, .int .i64 p.x.yc, .int .i64 p.x.rd]
theorem ctPC_len (p : CtP) : (ctPC p).length = 6 := rfl
/-- a scheme, with where its bands lie -/
structure ScP where
  x : List Bd
  A : Option Addr
  m : Nat
  c : Nat
def scp0 : ScP := ⟨[], none, 0, 0⟩
def scPC (p : ScP) : List Value := [.slice p.A p.m p.c]
theorem scPC_len (p : ScP) : (scPC p).length = 1 := rfl
theorem kdC_len (p : Kd) : (kdC p).length = 4 := rfl
/-! ### out of what is read, and back -/
theorem ct_rows {w : World} {A : Option Addr} {n : Nat} {l : List Ct} (h : CtSl w A n l) : ∃ lp : List CtP, lp.map CtP.x = l ∧ RowSl ctPC 6 ctp0 w A n lp ∧ (∀ p ∈ lp, BandSl w p.A p.m p.x.bands ∧ p.x.nm.size ≤ 9223372036854775807) := by
  obtain ⟨h1, h2, h3⟩ := h
  rcases Nat.eq_zero_or_pos n with h0 | h0
  · subst h0
    have : l = [] := List.eq_nil_of_length_eq_zero h1.symm
    subst this
    exact ⟨[], rfl, ⟨rfl, by decide, fun h => absurd h (by decide)⟩, fun p hp => by simp at hp⟩
  obtain ⟨b, off, hA, hlt, hat⟩ := h3 h0
  have key : ∀ m, m ≤ n → ∃ lp : List CtP, lp.map CtP.x = l.take m ∧ (∀ k, k < m → RowAt ctPC w b (off + k * 6) (lp.getD k ctp0)) ∧ (∀ p ∈ lp, BandSl w p.A p.m p.x.bands ∧ p.x.nm.size ≤ 9223372036854775807) := by
    intro m
    induction m with
    | zero => exact fun _ => ⟨[], by simp, fun k hk => absurd hk (by omega), fun p hp => by simp at hp⟩
    | succ m ih =>
      intro hm
      obtain ⟨lp, e, hr, hb⟩ := ih (by omega)
      obtain ⟨c0, cz, c1, ⟨A', m', c', c2, hl'⟩, c3, c4, c5⟩ := hat m (by omega)
      have hlp : lp.length = m := by
        have := congrArg List.length e
        simp at this; omega
      refine ⟨lp ++ [⟨l.getD m ct0, A', m', c'⟩], ?_, fun k hk => ?_, fun p hp => ?_⟩
      · rw [List.map_append, e, List.take_add_one, List.getElem?_eq_getElem (show m < l.length by omega)]
        simp [List.getD, List.getElem?_eq_getElem (show m < l.length by omega)]
      · rcases (by omega : k < m ∨ k = m) with hk' | rfl
        · have : (lp ++ [(⟨l.getD m ct0, A', m', c'⟩ : CtP)]).getD k ctp0 = lp.getD k ctp0 := by simp [List.getD, List.getElem?_append_left (show k < lp.length by omega)]
          rw [this]; exact hr k hk'
        · have : (lp ++ [(⟨l.getD k ct0, A', m', c'⟩ : CtP)]).getD k ctp0 = ⟨l.getD k ct0, A', m', c'⟩ := by
            generalize l.getD k ct0 = zz
            simp [List.getD, ← hlp]
          rw [this]
          intro i u hu
          have hi : i < 6 := (List.getElem?_eq_some_iff.1 hu).1
          rcases (by omega : i = 0 ∨ i = 1 ∨ i = 2 ∨ i = 3 ∨ i = 4 ∨ i = 5) with rfl | rfl | rfl | rfl | rfl | rfl <;> (injection hu with hu; subst hu; assumption)
      · rcases List.mem_append.1 hp with hp | hp
        · exact hb p hp
        · simp at hp; subst hp; exact ⟨hl', cz⟩
  obtain ⟨lp, e, hr, hb⟩ := key n (Nat.le_refl _)
  have e' : lp.map CtP.x = l := by rw [e, h1, List.take_length]
  have hlp : lp.length = n := by rw [← List.length_map (f := CtP.x), e', h1]
  exact ⟨lp, e', ⟨hlp.symm, h2, fun _ => ⟨b, off, hA, hlt, hr⟩⟩, hb⟩
theorem sc_rows {w : World} {A : Option Addr} {n : Nat} {l : List (List Bd)} (h : ScSl w A n l) : ∃ lp : List ScP, lp.map ScP.x = l ∧ RowSl scPC 1 scp0 w A n lp ∧ (∀ p ∈ lp, BandSl w p.A p.m p.x) := by
  obtain ⟨h1, h2, h3⟩ := h
  rcases Nat.eq_zero_or_pos n with h0 | h0
  · subst h0
    have : l = [] := List.eq_nil_of_length_eq_zero h1.symm
    subst this
    exact ⟨[], rfl, ⟨rfl, by decide, fun h => absurd h (by decide)⟩, fun p hp => by simp at hp⟩
  obtain ⟨b, off, hA, hlt, hat⟩ := h3 h0
  have key : ∀ m, m ≤ n → ∃ lp : List ScP, lp.map ScP.x = l.take m ∧ (∀ k, k < m → RowAt scPC w b (off + k * 1) (lp.getD k scp0)) ∧ (∀ p ∈ lp, BandSl w p.A p.m p.x) := by
    intro m
    induction m with
    | zero => exact fun _ => ⟨[], by simp, fun k hk => absurd hk (by omega), fun p hp => by simp at hp⟩
    | succ m ih =>
      intro hm
      obtain ⟨lp, e, hr, hb⟩ := ih (by omega)
      obtain ⟨A', m', c', c2, hl'⟩ := hat m (by omega)
      have hlp : lp.length = m := by
        have := congrArg List.length e
        simp at this; omega
      refine ⟨lp ++ [⟨l.getD m [], A', m', c'⟩], ?_, fun k hk => ?_, fun p hp => ?_⟩
      · rw [List.map_append, e, List.take_add_one, List.getElem?_eq_getElem (show m < l.length by omega)]
        simp [List.getD, List.getElem?_eq_getElem (show m < l.length by omega)]
      · rcases (by omega : k < m ∨ k = m) with hk' | rfl
        · have : (lp ++ [(⟨l.getD m [], A', m', c'⟩ : ScP)]).getD k scp0 = lp.getD k scp0 := by simp [List.getD, List.getElem?_append_left (show k < lp.length by omega)]
          rw [this]; exact hr k hk'
        · have : (lp ++ [(⟨l.getD k [], A', m', c'⟩ : ScP)]).getD k scp0 = ⟨l.getD k [], A', m', c'⟩ := by
            generalize l.getD k [] = zz
            simp [List.getD, ← hlp]
          rw [this]
          intro i u hu
          have hi : i < 1 := (List.getElem?_eq_some_iff.1 hu).1
          obtain rfl : i = 0 := by omega
          injection hu with hu; subst hu; exact c2
      · rcases List.mem_append.1 hp with hp | hp
        · exact hb p hp
        · simp at hp; subst hp; exact hl'
  obtain ⟨lp, e, hr, hb⟩ := key n (Nat.le_refl _)
  have e' : lp.map ScP.x = l := by rw [e, h1, List.take_length]
  have hlp : lp.length = n := by rw [← List.length_map (f := ScP.x), e', h1]
  exact ⟨lp, e', ⟨hlp.symm, h2, fun _ => ⟨b, off, hA, hlt, hr⟩⟩, hb⟩
theorem kd_rows {w : World} {A : Option Addr} {n : Nat} {l : List Kd} (h : KdSl w A n l) : RowSl kdC 4 kd0 w A n l ∧ (∀ p ∈ l, p.nm.size ≤ 9223372036854775807) := by
  obtain ⟨h1, h2, h3⟩ := h
  refine ⟨⟨h1, h2, fun h0 => ?_⟩, fun p hp => ?_⟩
  · obtain ⟨b, off, hA, hlt, hat⟩ := h3 h0
    refine ⟨b, off, hA, hlt, fun k hk i u hu => ?_⟩
    obtain ⟨c0, cz, c1, c2, c3⟩ := hat k hk
    have hi : i < 4 := (List.getElem?_eq_some_iff.1 hu).1
    rcases (by omega : i = 0 ∨ i = 1 ∨ i = 2 ∨ i = 3) with rfl | rfl | rfl | rfl <;> (injection hu with hu; subst hu; assumption)
  · obtain ⟨k, hk, rfl⟩ := List.getElem_of_mem hp
    obtain ⟨b, off, hA, hlt, hat⟩ := h3 (by omega)
    obtain ⟨c0, cz, _⟩ := hat k (by omega)
    have : l.getD k kd0 = l[k] := by simp [List.getD, List.getElem?_eq_getElem hk]
    rwa [this] at cz
theorem getD_mem {α : Type} {l : List α} {d : α} {k : Nat} (h : k < l.length) : l.getD k d ∈ l := by
  simp [List.getD, List.getElem?_eq_getElem h]
theorem rows_ct {w : World} {A : Option Addr} {n : Nat} {lp : List CtP} (h : RowSl ctPC 6 ctp0 w A n lp) (hb : ∀ p ∈ lp, BandSl w p.A p.m p.x.bands ∧ p.x.nm.size ≤ 9223372036854775807) : CtSl w A n (lp.map CtP.x) := by
  obtain ⟨h1, h2, h3⟩ := h
  refine ⟨by rw [List.length_map]; exact h1, h2, fun h0 => ?_⟩
  obtain ⟨b, off, hA, hlt, hat⟩ := h3 h0
  refine ⟨b, off, hA, hlt, fun k hk => ?_⟩
  have e : (lp.map CtP.x).getD k ct0 = (lp.getD k ctp0).x := by
    have hk' : k < lp.length := by omega
    simp [List.getD, List.getElem?_eq_getElem hk']
  rw [e]
  obtain ⟨hb1, hb2⟩ := hb _ (getD_mem (d := ctp0) (show k < lp.length by omega))
  have hr := hat k hk
  exact ⟨hr 0 _ rfl, hb2, hr 1 _ rfl, ⟨_, _, _, hr 2 _ rfl, hb1⟩, hr 3 _ rfl, hr 4 _ rfl, hr 5 _ rfl⟩
theorem rows_sc {w : World} {A : Option Addr} {n : Nat} {lp : List ScP} (h : RowSl scPC 1 scp0 w A n lp) (hb : ∀ p ∈ lp, BandSl w p.A p.m p.x) : ScSl w A n (lp.map ScP.x) := by
  obtain ⟨h1, h2, h3⟩ := h
  refine ⟨by rw [List.length_map]; exact h1, h2, fun h0 => ?_⟩
  obtain ⟨b, off, hA, hlt, hat⟩ := h3 h0
  refine ⟨b, off, hA, hlt, fun k hk => ?_⟩
  have e : (lp.map ScP.x).getD k [] = (lp.getD k scp0).x := by
    have hk' : k < lp.length := by omega
    simp [List.getD, List.getElem?_eq_getElem hk']
  rw [e]
  exact ⟨_, _, _, hat k hk 0 _ rfl, hb _ (getD_mem (d := scp0) (show k < lp.length by omega))⟩
theorem rows_kd {w : World} {A : Option Addr} {n : Nat} {l : List Kd} (h : RowSl kdC 4 kd0 w A n l) (hb : ∀ p ∈ l, p.nm.size ≤ 9223372036854775807) : KdSl w A n l := by
  obtain ⟨h1, h2, h3⟩ := h
  refine ⟨h1, h2, fun h0 => ?_⟩
  obtain ⟨b, off, hA, hlt, hat⟩ := h3 h0
  refine ⟨b, off, hA, hlt, fun k hk => ?_⟩
  have hr := hat k hk
  exact ⟨hr 0 _ rfl, hb _ (getD_mem (d := kd0) (show k < l.length by omega)), hr 1 _ rfl, hr 2 _ rfl, hr 3 _ rfl⟩
theorem ct_one {l : List CtP} : ∀ u ∈ l.flatMap ctPC, u.oneCell' = true := fun u hu => by
  obtain ⟨z, _, hz⟩ := List.mem_flatMap.1 hu
  simp only [ctPC, List.mem_cons, List.not_mem_nil, or_false] at hz
  rcases hz with rfl | rfl | rfl | rfl | rfl | rfl <;> rfl
theorem kd_one {l : List Kd} : ∀ u ∈ l.flatMap kdC, u.oneCell' = true := fun u hu => by
  obtain ⟨z, _, hz⟩ := List.mem_flatMap.1 hu
  simp only [kdC, List.mem_cons, List.not_mem_nil, or_false] at hz
  rcases hz with rfl | rfl | rfl | rfl <;> rfl
theorem bd_one {l : List Bd} : ∀ u ∈ l.flatMap bdC, u.oneCell' = true := fun u hu => by
  obtain ⟨z, _, hz⟩ := List.mem_flatMap.1 hu
  simp only [bdC, List.mem_cons, List.not_mem_nil, or_false] at hz
  rcases hz with rfl | rfl | rfl <;> rfl
theorem band_src {w : World} {A : Option Addr} {n : Nat} {l : List Bd} (h : BandSl w A n l) : SrcAt w A n 3 (l.flatMap bdC) := by
  obtain ⟨h1, h2, h3⟩ := h
  have : RowSl bdC 3 bd0 w A n l := ⟨h1, h2, fun h0 => by
    obtain ⟨b, off, hA, hlt, hat⟩ := h3 h0
    refine ⟨b, off, hA, hlt, fun k hk i u hu => ?_⟩
    obtain ⟨c0, c1, c2⟩ := hat k (by omega)
    have hi : i < 3 := (List.getElem?_eq_some_iff.1 hu).1
    rcases (by omega : i = 0 ∨ i = 1 ∨ i = 2) with rfl | rfl | rfl <;> (injection hu with hu; subst hu; assumption)⟩
  exact this.src bdC_len
def GivesV (E : TypeId) (K n : Nat) (news : List Value) (w : World) (e : Ending) (w' : World) : Prop := (∃ v, e = .returned v ∧ w'.ownsRow w.heap.size E K v n news) ∧ Below w.heap.size w w'
theorem info_contrib : (Tryz.prog.info? 37).map (fun i => (i.zero, i.size, i.bytes)) = some (some (.agg #[.string ⟨#[]⟩, .int .i64 0, .slice none 0 0, .int .i64 0, .int .i64 0, .int .i64 0]), 6, 72) := by kernel_rfl
theorem info_kind : (Tryz.prog.info? 60).map (fun i => (i.zero, i.size, i.bytes)) = some (some (.agg #[.string ⟨#[]⟩, .int .i64 0, .int .i64 0, .int .i64 0]), 4, 40) := by kernel_rfl
theorem info_bands : (Tryz.prog.info? 35).map (fun i => (i.zero, i.size, i.bytes)) = some (some (.slice none 0 0), 1, 24) := by kernel_rfl
--%%
theorem clone_ct (A : Option Addr) (n c : Nat) (news : List Value) (w : World) (h : SrcAt w A n 6 news) (h1 : ∀ u ∈ news, u.oneCell' = true) (hn : n ≤ 1000000) :
    Calls Tryz.prog 57 #[.slice A n c] w (GivesV 37 6 n news w) := by
  have hq := fun W => Lib.run_eql_slice_nil (P := Tryz.prog) W 23 37 A n c 0 0 Tryz.underlying23
  cases hA : A with
  | none =>
    subst hA
    obtain ⟨h2, h3⟩ := h
    have h0 : n = 0 := by
      rcases Nat.eq_zero_or_pos n with h0 | h0
      · exact h0
      · obtain ⟨b, off, h, _⟩ := h3 h0
        cases h
    subst h0
    have hl : news = [] := List.eq_nil_of_length_eq_zero (by simpa using h2)
    subst hl
    clear h3 h2 h1
    go_enter Tryz.func57, Tryz.ntmps57
    go_wp2
    go_ret
    exact ⟨⟨_, rfl, World.ownsRow_nil _ _ _ _⟩, Below.refl _ _⟩
  | some ad =>
    subst hA
    have HS := Lib.hid (h.below (below1 w (.cells #[] 37)))
    have H1 := Lib.hid h1
    clear h h1
    have HO := Lib.hid (World.ownsRow_lit (e := 37) (size := 6) (base := w.heap.size) w #[] 0 (Nat.le_refl _) (by decide) rfl)
    go_enter Tryz.func57, Tryz.ntmps57
    go_wp2_with (at_builtin; refine wpList_appN _ rfl _ _ 23 rfl 37 _ 6 72 Tryz.underlying23 info_contrib rfl (by decide) rfl HO.out _ _ _ _ rfl HS.out H1.out (by omega) (by omega) (by simp) ?_; intro v' w1 ho hg)
    go_ret
    refine ⟨⟨_, rfl, ?_⟩, (below1 _ _).grown hg (by simp) (fun k hk => by injection hk with hk; exact Nat.le_of_eq hk)⟩
    simpa using ho
--%%
theorem clone_kd (A : Option Addr) (n c : Nat) (news : List Value) (w : World) (h : SrcAt w A n 4 news) (h1 : ∀ u ∈ news, u.oneCell' = true) (hn : n ≤ 1000000) :
    Calls Tryz.prog 58 #[.slice A n c] w (GivesV 60 4 n news w) := by
  have hq := fun W => Lib.run_eql_slice_nil (P := Tryz.prog) W 24 60 A n c 0 0 Tryz.underlying24
  cases hA : A with
  | none =>
    subst hA
    obtain ⟨h2, h3⟩ := h
    have h0 : n = 0 := by
      rcases Nat.eq_zero_or_pos n with h0 | h0
      · exact h0
      · obtain ⟨b, off, h, _⟩ := h3 h0
        cases h
    subst h0
    have hl : news = [] := List.eq_nil_of_length_eq_zero (by simpa using h2)
    subst hl
    clear h3 h2 h1
    go_enter Tryz.func58, Tryz.ntmps58
    go_wp2
    go_ret
    exact ⟨⟨_, rfl, World.ownsRow_nil _ _ _ _⟩, Below.refl _ _⟩
  | some ad =>
    subst hA
    have HS := Lib.hid (h.below (below1 w (.cells #[] 60)))
    have H1 := Lib.hid h1
    clear h h1
    have HO := Lib.hid (World.ownsRow_lit (e := 60) (size := 4) (base := w.heap.size) w #[] 0 (Nat.le_refl _) (by decide) rfl)
    go_enter Tryz.func58, Tryz.ntmps58
    go_wp2_with (at_builtin; refine wpList_appN _ rfl _ _ 24 rfl 60 _ 4 40 Tryz.underlying24 info_kind rfl (by decide) rfl HO.out _ _ _ _ rfl HS.out H1.out (by omega) (by omega) (by simp) ?_; intro v' w1 ho hg)
    go_ret
    refine ⟨⟨_, rfl, ?_⟩, (below1 _ _).grown hg (by simp) (fun k hk => by injection hk with hk; exact Nat.le_of_eq hk)⟩
    simpa using ho
--%%
theorem clone_bd (A : Option Addr) (n c : Nat) (news : List Value) (w : World) (h : SrcAt w A n 3 news) (h1 : ∀ u ∈ news, u.oneCell' = true) (hn : n ≤ 1000000) :
    Calls Tryz.prog 59 #[.slice A n c] w (GivesV 63 3 n news w) := by
  have hq := fun W => Lib.run_eql_slice_nil (P := Tryz.prog) W 35 63 A n c 0 0 Tryz.underlying35
  cases hA : A with
  | none =>
    subst hA
    obtain ⟨h2, h3⟩ := h
    have h0 : n = 0 := by
      rcases Nat.eq_zero_or_pos n with h0 | h0
      · exact h0
      · obtain ⟨b, off, h, _⟩ := h3 h0
        cases h
    subst h0
    have hl : news = [] := List.eq_nil_of_length_eq_zero (by simpa using h2)
    subst hl
    clear h3 h2 h1
    go_enter Tryz.func59, Tryz.ntmps59
    go_wp2
    go_ret
    exact ⟨⟨_, rfl, World.ownsRow_nil _ _ _ _⟩, Below.refl _ _⟩
  | some ad =>
    subst hA
    have HS := Lib.hid (h.below (below1 w (.cells #[] 63)))
    have H1 := Lib.hid h1
    clear h h1
    have HO := Lib.hid (World.ownsRow_lit (e := 63) (size := 3) (base := w.heap.size) w #[] 0 (Nat.le_refl _) (by decide) rfl)
    go_enter Tryz.func59, Tryz.ntmps59
    go_wp2_with (at_builtin; refine wpList_appN _ rfl _ _ 35 rfl 63 _ 3 24 Tryz.underlying35 info_band rfl (by decide) rfl HO.out _ _ _ _ rfl HS.out H1.out (by omega) (by omega) (by simp) ?_; intro v' w1 ho hg)
    go_ret
    refine ⟨⟨_, rfl, ?_⟩, (below1 _ _).grown hg (by simp) (fun k hk => by injection hk with hk; exact Nat.le_of_eq hk)⟩
    simpa using ho
--%%
end Go.Proofs.YtbliblhipecgfaaGreatDoor
