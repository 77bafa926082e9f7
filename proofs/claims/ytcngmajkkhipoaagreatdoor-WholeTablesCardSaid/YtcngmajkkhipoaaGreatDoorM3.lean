/-
  A table of the call's own, of which rates are written. Conditions as named.
  Contract of table.Put: the seven walks joined. Conditions as named.
  Contract of the law's builds: the example table is put together, and all is well. Conditions as named.
  One line's words put to a table of the call's own; how large such a table gets. Conditions as named.
-/
import Derived.Test.YtcngmajkkhipoaaGreatDoorM2
import Derived.Test.YtcngmajkkhipoaaGreatDoorClone2
import Derived.Test.YtcngmajkkhipoaaGreatDoorPut
import Derived.Test.YtcngmajkkhipoaaGreatDoorLines
import Derived.Test.YtcngmajkkhipoaaGreatDoorCut
import Derived.Laws.StructEq
import Derived.Test.YtcngmajkkhipoaaGreatDoorClone
namespace Go.Proofs.YtcngmajkkhipoaaGreatDoor
set_option linter.unusedVariables false
open Go.RowKit
theorem own_putJ {w : World} {base size n cap g : Nat} {e : TypeId} {xs : List Value} (h : w.ownsRow base e size (.slice (some ⟨g, 0, none⟩) n cap) n xs) (j : Nat) (u : Value) :
    (w.setCell ⟨g, j, none⟩ u).ownsRow base e size (.slice (some ⟨g, 0, none⟩) n cap) n (xs.set j u) := by
  obtain ⟨h1, h2 | ⟨g', cap', cur, hv, hb, hg, hle, hm, hs, ht⟩⟩ := h
  · cases h2.1
  · injection hv with hA _ hc
    injection hA with hA
    injection hA with hg' _
    subst hg'
    subst hc
    refine ⟨by rw [List.length_set]; exact h1, Or.inr ⟨g, cap, cur.setIfInBounds j u, rfl, hb, heap_setCell_same w g j cur e u hg, hle, hm, by simpa using hs, ?_⟩⟩
    rw [← ht]
    simp [List.take_set]
theorem own_setNe {w : World} {base size n g : Nat} {e : TypeId} {v : Value} {xs : List Value} (h : w.ownsRow base e size v n xs) (hg : v.ownBlock ≠ some g) (j : Nat) (u : Value) : (w.setCell ⟨g, j, none⟩ u).ownsRow base e size v n xs := h.kept (grown_setJ w g j u) (Or.inr hg)
theorem bdC_put (x : List Bd) (k : Nat) (v : Int) : (x.flatMap bdC).set (k * 3 + 1) (.int .i64 v) = (putR x k v).flatMap bdC := by
  by_cases hk : k < x.length
  · exact flat_set bdC 3 bdC_len 1 (.int .i64 v) (by decide) x k _ bd0 hk rfl
  · have e1 : (x.flatMap bdC).length = x.length * 3 := by
      clear hk
      induction x with
      | nil => rfl
      | cons b x ih => rw [List.flatMap_cons, List.length_append, ih, List.length_cons, bdC_len]; omega
    rw [List.set_eq_of_length_le (by rw [e1]; omega)]
    unfold putR
    rw [List.set_eq_of_length_le (by omega)]
/-- bands, of which one's rate is written, if they lie in that block -/
def updB (g k : Nat) (v : Int) (A : Option Addr) (x : List Bd) : List Bd := if A = some ⟨g, 0, none⟩ then putR x k v else x
theorem OwnB.upd {w : World} {base m c : Nat} {A : Option Addr} {x : List Bd} (h : OwnB w base (.slice A m c) m x) (g k : Nat) (v : Int) : OwnB (w.setCell ⟨g, k * 3 + 1, none⟩ (.int .i64 v)) base (.slice A m c) m (updB g k v A x) := by
  unfold updB
  by_cases hA : A = some ⟨g, 0, none⟩
  · rw [if_pos hA]
    subst hA
    refine ⟨by rw [putR_len]; exact h.1, ?_⟩
    rw [← bdC_put]
    exact own_putJ h.2 _ _
  · rw [if_neg hA]
    refine ⟨h.1, ?_⟩
    have h2 := h.2
    rcases h2.2 with ⟨e, _⟩ | ⟨g', cap, cur, e, _⟩
    · exact own_setNe h2 (by rw [e]; simp [Value.ownBlock]) _ _
    · injection e with e1 _ _
      refine own_setNe h2 ?_ _ _
      rw [e1]
      intro he
      simp only [Value.ownBlock, Option.some.injEq] at he
      exact hA (by rw [e1, he])
theorem flat_scPC {f : ScP → ScP} (hf : ∀ p, (f p).A = p.A ∧ (f p).m = p.m ∧ (f p).c = p.c) (l : List ScP) : (l.map f).flatMap scPC = l.flatMap scPC := by
  induction l with
  | nil => rfl
  | cons p l ih =>
    obtain ⟨h1, h2, h3⟩ := hf p
    rw [List.map_cons, List.flatMap_cons, List.flatMap_cons, ih]
    simp only [scPC, h1, h2, h3]
theorem flat_ctPC {f : CtP → CtP} (hf : ∀ p, (f p).A = p.A ∧ (f p).m = p.m ∧ (f p).c = p.c ∧ (f p).x.nm = p.x.nm ∧ (f p).x.base = p.x.base ∧ (f p).x.pc = p.x.pc ∧ (f p).x.yc = p.x.yc ∧ (f p).x.rd = p.x.rd) (l : List CtP) : (l.map f).flatMap ctPC = l.flatMap ctPC := by
  induction l with
  | nil => rfl
  | cons p l ih =>
    obtain ⟨h1, h2, h3, h4, h5, h6, h7, h8⟩ := hf p
    rw [List.map_cons, List.flatMap_cons, List.flatMap_cons, ih]
    simp only [ctPC, h1, h2, h3, h4, h5, h6, h7, h8]
/-- what one write of a rate does: to each scheme and contribution, as it lies in that block or not -/
structure Wr1 (w : World) (As Ac : Option Addr) (ns nc g k : Nat) (v : Int) (sch sch' : List (List Bd)) (cts cts' : List Ct) : Prop where
  sn : sch'.length = sch.length
  cn : cts'.length = cts.length
  s : ∀ i, i < sch.length → sch'.getD i [] = sch.getD i [] ∨ (sch'.getD i [] = putR (sch.getD i []) k v ∧ (k < (sch.getD i []).length → w.cell? ⟨g, k * 3 + 1, none⟩ = some (.int .i64 ((sch.getD i []).getD k bd0).r)))
  c : ∀ j, j < cts.length → cts'.getD j ct0 = cts.getD j ct0 ∨ (cts'.getD j ct0 = { cts.getD j ct0 with bands := putR (cts.getD j ct0).bands k v } ∧ (k < (cts.getD j ct0).bands.length → w.cell? ⟨g, k * 3 + 1, none⟩ = some (.int .i64 ((cts.getD j ct0).bands.getD k bd0).r)))
  si : ∀ i gs m c, As = some ⟨gs, 0, none⟩ → i < ns → w.cell? ⟨gs, i, none⟩ = some (.slice (some ⟨g, 0, none⟩) m c) → sch'.getD i [] = putR (sch.getD i []) k v
  ap : (∀ j gs m c, Ac = some ⟨gs, 0, none⟩ → j < nc → w.cell? ⟨gs, j * 6 + 2, none⟩ ≠ some (.slice (some ⟨g, 0, none⟩) m c)) → cts' = cts
section
variable {w : World} {base ns cs nc cc nk ck : Nat} {sch : List (List Bd)} {cts : List Ct} {kds : List Kd} {As Ac Ak : Option Addr}
theorem own_rate {base m c g k : Nat} {x : List Bd} (h : OwnB w base (.slice (some ⟨g, 0, none⟩) m c) m x) (hk : k < x.length) : w.cell? ⟨g, k * 3 + 1, none⟩ = some (.int .i64 (x.getD k bd0).r) := by
  have hm := h.1
  have := h.2.cellAt (k * 3 + 1) (by omega)
  rw [this]
  have hr : ∀ (l : List Bd) (j : Nat), j < l.length → (l.flatMap bdC)[j * 3 + 1]? = some (.int .i64 (l.getD j bd0).r) := by
    intro l
    induction l with
    | nil => intro j hj; simp at hj
    | cons x l ih =>
      intro j hj
      cases j with
      | zero => rfl
      | succ j =>
        rw [List.flatMap_cons, List.getElem?_append_right (by rw [bdC_len]; omega), bdC_len, show (j + 1) * 3 + 1 - 3 = j * 3 + 1 by omega]
        have := ih j (by simpa using hj)
        simpa using this
  exact hr x k hk
theorem getD_map2 {α β : Type} (f : α → β) (l : List α) (d : α) (e : β) {i : Nat} (hi : i < l.length) : (l.map f).getD i e = f (l.getD i d) := by
  simp [List.getD, List.getElem?_eq_getElem hi]
theorem OwnT.rate (h : OwnT w base sch cts kds As Ac Ak ns cs nc cc nk ck) {g : Nat} {cur : Array Value} (hg : Blk w g 44 cur) (k : Nat) (v : Int) :
    ∃ sch' cts', OwnT (w.setCell ⟨g, k * 3 + 1, none⟩ (.int .i64 v)) base sch' cts' kds As Ac Ak ns cs nc cc nk ck ∧ Wr1 w As Ac ns nc g k v sch sch' cts cts' := by
  obtain ⟨n1, n2, n3⟩ := h.len
  obtain ⟨⟨ls, e1, o1, b1⟩, ⟨lc, e2, o2, b2⟩, o3, b3⟩ := h
  have hls : ls.length = sch.length := by rw [← e1, List.length_map]
  have hlc : lc.length = cts.length := by rw [← e2, List.length_map]
  let f : ScP → ScP := fun p => ⟨updB g k v p.A p.x, p.A, p.m, p.c⟩
  let q : CtP → CtP := fun p => ⟨{ p.x with bands := updB g k v p.A p.x.bands }, p.A, p.m, p.c⟩
  have gs : ∀ i, i < sch.length → ((ls.map f).map ScP.x).getD i [] = updB g k v (ls.getD i scp0).A (sch.getD i []) := fun i hi => by
    rw [List.map_map, getD_map2 _ ls scp0 [] (by omega), ← e1, getD_map2 _ ls scp0 [] (by omega)]
    rfl
  have gc : ∀ j, j < cts.length → ((lc.map q).map CtP.x).getD j ct0 = { cts.getD j ct0 with bands := updB g k v (lc.getD j ctp0).A (cts.getD j ct0).bands } := fun j hj => by
    rw [List.map_map, getD_map2 _ lc ctp0 ct0 (by omega), ← e2, getD_map2 _ lc ctp0 ct0 (by omega)]
    rfl
  refine ⟨(ls.map f).map ScP.x, (lc.map q).map CtP.x, ⟨⟨ls.map f, rfl, ?_, fun p hp => ?_⟩, ⟨lc.map q, rfl, ?_, fun p hp => ?_⟩, own_setO o3 hg (by decide) _ _, b3⟩, ⟨by simp [hls], by simp [hlc], fun i hi => ?_, fun j hj => ?_, fun i gs0 m c hA hi hcell => ?_, fun hap => ?_⟩⟩
  · rw [flat_scPC (f := f) (fun p => ⟨rfl, rfl, rfl⟩)]
    exact own_setO o1 hg (by decide) _ _
  · obtain ⟨p0, hp0, rfl⟩ := List.mem_map.1 hp
    exact (b1 p0 hp0).upd g k v
  · rw [flat_ctPC (f := q) (fun p => ⟨rfl, rfl, rfl, rfl, rfl, rfl, rfl, rfl⟩)]
    exact own_setO o2 hg (by decide) _ _
  · obtain ⟨p0, hp0, rfl⟩ := List.mem_map.1 hp
    exact ⟨(b2 p0 hp0).1.upd g k v, (b2 p0 hp0).2⟩
  · rw [gs i hi]
    unfold updB
    by_cases hA : (ls.getD i scp0).A = some ⟨g, 0, none⟩
    · rw [if_pos hA]
      refine Or.inr ⟨rfl, fun hk => ?_⟩
      have hb := b1 _ (getD_mem (d := scp0) (show i < ls.length by omega))
      rw [hA] at hb
      have ex : (ls.getD i scp0).x = sch.getD i [] := by rw [← e1, getD_map2 _ ls scp0 [] (by omega)]
      rw [ex] at hb
      exact own_rate hb hk
    · rw [if_neg hA]
      exact Or.inl rfl
  · rw [gc j hj]
    unfold updB
    by_cases hA : (lc.getD j ctp0).A = some ⟨g, 0, none⟩
    · rw [if_pos hA]
      refine Or.inr ⟨rfl, fun hk => ?_⟩
      have hb := (b2 _ (getD_mem (d := ctp0) (show j < lc.length by omega))).1
      rw [hA] at hb
      have ex : (lc.getD j ctp0).x = cts.getD j ct0 := by rw [← e2, getD_map2 _ lc ctp0 ct0 (by omega)]
      rw [ex] at hb
      exact own_rate hb hk
    · rw [if_neg hA]
      exact Or.inl rfl
  · obtain ⟨g', cap, hv, _, _, _, ho⟩ := own_form o1 (by omega)
    injection hv with hv _ _
    rw [hA] at hv
    injection hv with hv; injection hv with hv
    subst hv
    have := ho.cellAt i (by omega)
    rw [hcell, sc_at ls i (by omega)] at this
    injection this with this
    injection this with e3 _ _
    rw [gs i (by omega), ← e3]
    unfold updB
    rw [if_pos rfl]
  · have hq : ∀ p ∈ lc, q p = p := fun p hp => by
      obtain ⟨j, hj, rfl⟩ := List.getElem_of_mem hp
      have ej : lc.getD j ctp0 = lc[j] := getD_get hj
      have hne : lc[j].A ≠ some ⟨g, 0, none⟩ := fun hA => by
        obtain ⟨g', cap, hv, _, _, _, ho⟩ := own_form o2 (by omega)
        injection hv with hv _ _
        have := ho.cellAt (j * 6 + 2) (by omega)
        rw [ct_at2 lc j hj, ej, hA] at this
        exact hap j g' _ _ hv (by omega) this
      show (⟨{ lc[j].x with bands := updB g k v lc[j].A lc[j].x.bands }, lc[j].A, lc[j].m, lc[j].c⟩ : CtP) = lc[j]
      unfold updB
      rw [if_neg hne]
    rw [List.map_congr_left (g := id) hq, List.map_id, e2]
theorem OwnB.at {base m c k : Nat} {A : Option Addr} {x : List Bd} (h : OwnB w base (.slice A m c) m x) (hk : k < m) : ∃ g, A = some ⟨g, 0, none⟩ ∧ base ≤ g ∧ (∃ cur, Blk w g 44 cur) ∧ w.cell? ⟨g, k * 3 + 1, none⟩ = some (.int .i64 (x.getD k bd0).r) ∧ w.frozen? ⟨g, k * 3 + 1, none⟩ = false := by
  obtain ⟨g, cap, hv, hb, _, _, ho⟩ := own_form h.2 (by omega)
  injection hv with hA _ _
  subst hA
  have hm := h.1
  obtain ⟨_, h2 | ⟨g', cap', cur, hv, _, hg, _⟩⟩ := h.2
  · omega
  · injection hv with hA _ _
    injection hA with hA; injection hA with hA
    subst hA
    exact ⟨g, rfl, hb, ⟨cur, hg⟩, own_rate h (by omega), frozen_of_row w g _ cur _ hg⟩
theorem own_mle {w : World} {base size n c : Nat} {e : TypeId} {A : Option Addr} {xs : List Value} (h : w.ownsRow base e size (.slice A n c) n xs) : n ≤ c ∧ n ≤ 9223372036854775807 := by
  obtain ⟨_, h2 | ⟨g', cap', cur, hv, _, _, h3, h4, _⟩⟩ := h
  · obtain ⟨h2, h3⟩ := h2
    injection h2 with _ h4 h5
    omega
  · injection hv with _ _ hc
    unfold maxLen at h4
    omega
theorem own_blkE {w : World} {base size n c g : Nat} {e : TypeId} {xs : List Value} (h : w.ownsRow base e size (.slice (some ⟨g, 0, none⟩) n c) n xs) : ∃ cur, Blk w g e cur := by
  obtain ⟨_, h2 | ⟨g', cap', cur, hv, _, hg, _⟩⟩ := h
  · cases h2.1
  · injection hv with hA _ _
    injection hA with hA; injection hA with hA
    subst hA
    exact ⟨cur, hg⟩
/-- the row of a scheme, where it lies -/
theorem OwnT.rowS (h : OwnT w base sch cts kds As Ac Ak ns cs nc cc nk ck) {i : Nat} (hi : i < ns) : ∃ g0 A m c, As = some ⟨g0, 0, none⟩ ∧ ns ≤ cs ∧ (∃ cur, Blk w g0 42 cur) ∧ w.cell? ⟨g0, i, none⟩ = some (.slice A m c) ∧ OwnB w base (.slice A m c) m (sch.getD i []) := by
  obtain ⟨n1, _, _⟩ := h.len
  obtain ⟨⟨ls, e1, o1, b1⟩, _, _, _⟩ := h
  have hls : ls.length = sch.length := by rw [← e1, List.length_map]
  obtain ⟨g0, cap, hv, _, _, _, ho⟩ := own_form o1 (by omega)
  injection hv with hA _ _
  subst hA
  refine ⟨g0, _, _, _, rfl, (own_mle o1).1, own_blkE o1, by rw [ho.cellAt i (by omega), sc_at ls i (by omega)], ?_⟩
  have := b1 _ (getD_mem (d := scp0) (show i < ls.length by omega))
  rwa [show (ls.getD i scp0).x = sch.getD i [] by rw [← e1, getD_map2 _ ls scp0 [] (by omega)]] at this
theorem OwnT.rowC (h : OwnT w base sch cts kds As Ac Ak ns cs nc cc nk ck) {j : Nat} (hj : j < nc) : ∃ g0 A m c, Ac = some ⟨g0, 0, none⟩ ∧ nc ≤ cc ∧ (∃ cur, Blk w g0 46 cur) ∧ w.cell? ⟨g0, j * 6 + 2, none⟩ = some (.slice A m c) ∧ OwnB w base (.slice A m c) m (cts.getD j ct0).bands := by
  obtain ⟨_, n2, _⟩ := h.len
  obtain ⟨_, ⟨lc, e2, o2, b2⟩, _, _⟩ := h
  have hlc : lc.length = cts.length := by rw [← e2, List.length_map]
  obtain ⟨g0, cap, hv, _, _, _, ho⟩ := own_form o2 (by omega)
  injection hv with hA _ _
  subst hA
  refine ⟨g0, _, _, _, rfl, (own_mle o2).1, own_blkE o2, by rw [ho.cellAt (j * 6 + 2) (by omega), ct_at2 lc j (by omega)], ?_⟩
  have := (b2 _ (getD_mem (d := ctp0) (show j < lc.length by omega))).1
  rwa [show (lc.getD j ctp0).x = cts.getD j ct0 by rw [← e2, getD_map2 _ lc ctp0 ct0 (by omega)]] at this
theorem putR_le {x : List Bd} {k : Nat} {v r : Int} (h : k < x.length → r = (x.getD k bd0).r) (hv : v ≤ r) : LeB x (putR x k v) := fun j hj => by
  by_cases e : j = k
  · subst e
    rw [putR_at hj]
    have := h hj
    dsimp only
    omega
  · rw [putR_ne e]; exact Int.le_refl _
theorem putR_ge {x : List Bd} {k : Nat} {v r : Int} (h : k < x.length → r = (x.getD k bd0).r) (hv : r ≤ v) : ∀ j, j < x.length → (x.getD j bd0).r ≤ ((putR x k v).getD j bd0).r := fun j hj => by
  by_cases e : j = k
  · subst e
    rw [putR_at hj]
    have := h hj
    dsimp only
    omega
  · rw [putR_ne e]; exact Int.le_refl _
theorem SameC.put {x y : Ct} (h : SameC x y) {k : Nat} {v : Int} (hv : 0 ≤ v ∧ v ≤ 10000) : SameC x { y with bands := putR y.bands k v } := ⟨h.nm, h.base, h.pc, h.yc, h.rd, h.b.put hv⟩
theorem LeB.trans {x y z : List Bd} (hl : y.length = x.length) (h1 : LeB x y) (h2 : LeB y z) : LeB x z := fun k hk => Int.le_trans (h2 k (by omega)) (h1 k hk)
/-- a rate that is made no greater -/
theorem dec_t {sch0 : List (List Bd)} {cts0 : List Ct} (h : OwnT w base sch cts kds As Ac Ak ns cs nc cc nk ck) (hS : SameT sch0 sch cts0 cts) (hC : ∀ j, j < cts0.length → LeB (cts0.getD j ct0).bands (cts.getD j ct0).bands) {g : Nat} {cur : Array Value} (hg : Blk w g 44 cur) {k : Nat} {v r : Int} (hcell : w.cell? ⟨g, k * 3 + 1, none⟩ = some (.int .i64 r)) (hv : 0 ≤ v ∧ v ≤ r) (hr : r ≤ 10000) :
    ∃ sch' cts', OwnT (w.setCell ⟨g, k * 3 + 1, none⟩ (.int .i64 v)) base sch' cts' kds As Ac Ak ns cs nc cc nk ck ∧ SameT sch0 sch' cts0 cts' ∧ (∀ j, j < cts0.length → LeB (cts0.getD j ct0).bands (cts'.getD j ct0).bands) ∧ (∀ i, i < ns → (sch'.getD i []).length = (sch.getD i []).length ∧ LeB (sch.getD i []) (sch'.getD i [])) ∧
      (∀ i gs m c, As = some ⟨gs, 0, none⟩ → i < ns → w.cell? ⟨gs, i, none⟩ = some (.slice (some ⟨g, 0, none⟩) m c) → sch'.getD i [] = putR (sch.getD i []) k v) := by
  obtain ⟨n1, n2, _⟩ := h.len
  obtain ⟨sch', cts', ho, hw⟩ := h.rate hg k v
  have hv' : 0 ≤ v ∧ v ≤ 10000 := by omega
  have same : ∀ {u : Int}, w.cell? ⟨g, k * 3 + 1, none⟩ = some (.int .i64 u) → r = u := fun hu => by
    rw [hcell] at hu
    injection hu with hu
    injection hu
  refine ⟨sch', cts', ho, ⟨hw.sn.trans hS.sn, fun i hi => ?_, hw.cn.trans hS.cn, fun j hj => ?_⟩, fun j hj => ?_, fun i hi => ?_, hw.si⟩
  · rcases hw.s i (by rw [hS.sn]; exact hi) with e | ⟨e, _⟩
    · rw [e]; exact hS.s i hi
    · rw [e]; exact (hS.s i hi).put hv'
  · rcases hw.c j (by rw [hS.cn]; exact hj) with e | ⟨e, _⟩
    · rw [e]; exact hS.c j hj
    · rw [e]; exact (hS.c j hj).put hv'
  · rcases hw.c j (by rw [hS.cn]; exact hj) with e | ⟨e, he⟩
    · rw [e]; exact hC j hj
    · rw [e]
      exact (hC j hj).trans (hS.c j hj).b.1 (putR_le (fun hk => same (he hk)) hv.2)
  · rcases hw.s i (by omega) with e | ⟨e, he⟩
    · rw [e]; exact ⟨rfl, fun _ _ => Int.le_refl _⟩
    · rw [e]; exact ⟨putR_len _ _ _, putR_le (fun hk => same (he hk)) hv.2⟩
/-- a rate of a scheme that is made no less -/
theorem inc_t {sch0 : List (List Bd)} {cts0 : List Ct} (h : OwnT w base sch0 cts0 kds As Ac Ak ns cs nc cc nk ck) (hsep : SepT w As Ac ns nc) (hS : SameT sch0 sch0 cts0 cts0) {g i gs m c : Nat} (hA : As = some ⟨gs, 0, none⟩) (hi : i < ns) (hrow : w.cell? ⟨gs, i, none⟩ = some (.slice (some ⟨g, 0, none⟩) m c)) {cur : Array Value} (hg : Blk w g 44 cur) {k : Nat} {v r : Int} (hcell : w.cell? ⟨g, k * 3 + 1, none⟩ = some (.int .i64 r)) (hv : r ≤ v ∧ v ≤ 10000) (hr : 0 ≤ r) :
    ∃ sch', OwnT (w.setCell ⟨g, k * 3 + 1, none⟩ (.int .i64 v)) base sch' cts0 kds As Ac Ak ns cs nc cc nk ck ∧ SameT sch0 sch' cts0 cts0 ∧ (∀ q, q < sch0.length → (sch'.getD q []).length = (sch0.getD q []).length ∧ ∀ k, k < (sch0.getD q []).length → ((sch0.getD q []).getD k bd0).r ≤ ((sch'.getD q []).getD k bd0).r) := by
  obtain ⟨n1, n2, _⟩ := h.len
  obtain ⟨sch', cts', ho, hw⟩ := h.rate hg k v
  have hcts : cts' = cts0 := hw.ap (fun j gs' m' c' hA' hj hcell' => by
    obtain ⟨X, a, b⟩ := hsep
    have h1 := a gs i _ _ _ g hA hi hrow rfl
    have h2 := b gs' j _ _ _ g hA' hj hcell' rfl
    omega)
  subst hcts
  have hv' : 0 ≤ v ∧ v ≤ 10000 := by omega
  have same : ∀ {u : Int}, w.cell? ⟨g, k * 3 + 1, none⟩ = some (.int .i64 u) → r = u := fun hu => by
    rw [hcell] at hu
    injection hu with hu
    injection hu
  refine ⟨sch', ho, ⟨hw.sn.trans hS.sn, fun i hi => ?_, rfl, hS.c⟩, fun q hq => ?_⟩
  · rcases hw.s i hi with e | ⟨e, _⟩
    · rw [e]; exact hS.s i hi
    · rw [e]; exact (hS.s i hi).put hv'
  · rcases hw.s q hq with e | ⟨e, he⟩
    · rw [e]; exact ⟨rfl, fun _ _ => Int.le_refl _⟩
    · rw [e]; exact ⟨putR_len _ _ _, putR_ge (fun hk => same (he hk)) hv.1⟩
end
/-- the table that is written, beside the one that stays -/
structure TI (w : World) (b9 : Nat) (sch0 : List (List Bd)) (cts0 : List Ct) (kds : List Kd) (Us Uc Uk : Option Addr) (ns vs nc vc nk vk : Nat) (lim rnd : Int) (TB3 : Array Value) (P : List (List Bd) → Prop) (wr : World) : Prop where
  ex : ∃ sch cts, OwnT wr w.heap.size sch cts kds Us Uc Uk ns vs nc vc nk vk ∧ SameT sch0 sch cts0 cts ∧ (∀ j, j < cts0.length → LeB (cts0.getD j ct0).bands (cts.getD j ct0).bands) ∧ P sch
  k9 : Blk wr b9 26 #[.slice Us ns vs, .slice Uc nc vc, .slice Uk nk vk, .int .i64 lim, .int .i64 rnd]
  k3 : Blk wr w.heap.size 26 TB3
  b : Below w.heap.size w wr
section
variable {w wr W' : World} {b9 : Nat} {sch0 : List (List Bd)} {cts0 : List Ct} {kds : List Kd} {Us Uc Uk : Option Addr} {ns vs nc vc nk vk : Nat} {lim rnd : Int} {TB3 : Array Value} {P P' : List (List Bd) → Prop}
theorem TI.below (h : TI w b9 sch0 cts0 kds Us Uc Uk ns vs nc vc nk vk lim rnd TB3 P wr) (hb : Below wr.heap.size wr W') : TI w b9 sch0 cts0 kds Us Uc Uk ns vs nc vc nk vk lim rnd TB3 P W' := by
  obtain ⟨⟨sch, cts, o, s, c, p⟩, k9, k3, b⟩ := h
  exact ⟨⟨sch, cts, o.below hb, s, c, p⟩, k9.t hb, k3.t hb, bT b hb⟩
theorem TI.imp (h : TI w b9 sch0 cts0 kds Us Uc Uk ns vs nc vc nk vk lim rnd TB3 P wr) (hp : ∀ s, s.length = sch0.length → (∀ i, i < sch0.length → SameB (sch0.getD i []) (s.getD i [])) → P s → P' s) : TI w b9 sch0 cts0 kds Us Uc Uk ns vs nc vc nk vk lim rnd TB3 P' wr := by
  obtain ⟨⟨sch, cts, o, s, c, p⟩, k9, k3, b⟩ := h
  exact ⟨⟨sch, cts, o, s, c, hp sch s.sn s.s p⟩, k9, k3, b⟩
theorem TI.lens (h : TI w b9 sch0 cts0 kds Us Uc Uk ns vs nc vc nk vk lim rnd TB3 P wr) : ns = sch0.length ∧ nc = cts0.length := by
  obtain ⟨⟨sch, cts, o, s, c, p⟩, k9, k3, b⟩ := h
  obtain ⟨n1, n2, _⟩ := o.len
  exact ⟨n1.trans s.sn, n2.trans s.cn⟩
theorem TI.rowS (h : TI w b9 sch0 cts0 kds Us Uc Uk ns vs nc vc nk vk lim rnd TB3 P wr) {i : Nat} (hi : i < ns) : ∃ g0 A m c, Us = some ⟨g0, 0, none⟩ ∧ ns ≤ vs ∧ (∃ cur, Blk wr g0 42 cur) ∧ wr.cell? ⟨g0, i, none⟩ = some (.slice A m c) ∧ m = (sch0.getD i []).length ∧ m ≤ c ∧ m ≤ 9223372036854775807 := by
  have hl := h.lens
  obtain ⟨⟨sch, cts, o, s, c, p⟩, k9, k3, b⟩ := h
  obtain ⟨g0, A, m, c', h1, h2, h3, h4, h5⟩ := o.rowS hi
  exact ⟨g0, A, m, c', h1, h2, h3, h4, h5.1.trans (s.s i (by omega)).1, own_mle h5.2⟩
theorem TI.rowC (h : TI w b9 sch0 cts0 kds Us Uc Uk ns vs nc vc nk vk lim rnd TB3 P wr) {j : Nat} (hj : j < nc) : ∃ g0 A m c, Uc = some ⟨g0, 0, none⟩ ∧ nc ≤ vc ∧ (∃ cur, Blk wr g0 46 cur) ∧ wr.cell? ⟨g0, j * 6 + 2, none⟩ = some (.slice A m c) ∧ m ≤ c ∧ m ≤ 9223372036854775807 := by
  obtain ⟨⟨sch, cts, o, s, c, p⟩, k9, k3, b⟩ := h
  obtain ⟨g0, A, m, c', h1, h2, h3, h4, h5⟩ := o.rowC hj
  exact ⟨g0, A, m, c', h1, h2, h3, h4, own_mle h5.2⟩
/-- a write of a rate that is no greater, in a block of bands of the table's own -/
theorem TI.dec (h : TI w b9 sch0 cts0 kds Us Uc Uk ns vs nc vc nk vk lim rnd TB3 P wr) {g k : Nat} {cur : Array Value} (hg : Blk wr g 44 cur) (hb : w.heap.size ≤ g) {v r : Int} (hcell : wr.cell? ⟨g, k * 3 + 1, none⟩ = some (.int .i64 r)) (hv : 0 ≤ v ∧ v ≤ r) (hr : r ≤ 10000)
    (hP : ∀ s s', (∀ q, q < ns → (s'.getD q []).length = (s.getD q []).length ∧ LeB (s.getD q []) (s'.getD q [])) → (∀ i gs m c, Us = some ⟨gs, 0, none⟩ → i < ns → wr.cell? ⟨gs, i, none⟩ = some (.slice (some ⟨g, 0, none⟩) m c) → s'.getD i [] = putR (s.getD i []) k v) → (∀ i, i < sch0.length → SameB (sch0.getD i []) (s.getD i [])) → P s → P' s') : TI w b9 sch0 cts0 kds Us Uc Uk ns vs nc vc nk vk lim rnd TB3 P' (wr.setCell ⟨g, k * 3 + 1, none⟩ (.int .i64 v)) := by
  obtain ⟨⟨sch, cts, o, s, c, p⟩, k9, k3, b⟩ := h
  obtain ⟨sch', cts', o', s', c', le, si⟩ := dec_t o s c hg hcell hv hr
  exact ⟨⟨sch', cts', o', s', c', hP sch sch' le si s.s p⟩, k9.setO (k9.differ hg (by decide)) _ _, k3.setO (k3.differ hg (by decide)) _ _, bS b hb _⟩
/-- the same, at a band of a scheme -/
theorem TI.stepS (h : TI w b9 sch0 cts0 kds Us Uc Uk ns vs nc vc nk vk lim rnd TB3 P wr) {g0 i k m c : Nat} {A : Option Addr} (hU : Us = some ⟨g0, 0, none⟩) (hi : i < ns) (hc : wr.cell? ⟨g0, i, none⟩ = some (.slice A m c)) (hk : k < m) :
    ∃ g r, A = some ⟨g, 0, none⟩ ∧ wr.cell? ⟨g, k * 3 + 1, none⟩ = some (.int .i64 r) ∧ wr.frozen? ⟨g, k * 3 + 1, none⟩ = false ∧ (0 ≤ r ∧ r ≤ 10000) ∧
      ∀ v, 0 ≤ v → v ≤ r → ∀ P', (∀ s s', (∀ q, q < ns → (s'.getD q []).length = (s.getD q []).length ∧ LeB (s.getD q []) (s'.getD q [])) → (∀ i, i < sch0.length → SameB (sch0.getD i []) (s.getD i [])) → ((s'.getD i []).getD k bd0).r = v → P s → P' s') →
        TI w b9 sch0 cts0 kds Us Uc Uk ns vs nc vc nk vk lim rnd TB3 P' (wr.setCell ⟨g, k * 3 + 1, none⟩ (.int .i64 v)) ∧ (wr.setCell ⟨g, k * 3 + 1, none⟩ (.int .i64 v)).cell? ⟨g0, i, none⟩ = some (.slice A m c) := by
  have hl := h.lens
  have h0 := h
  obtain ⟨⟨sch, cts, o, s, cc, p⟩, k9, k3, b⟩ := h
  obtain ⟨g0', A', m', c', h1, h2, ⟨cur0, h3⟩, h4, h5⟩ := o.rowS hi
  rw [hU] at h1
  injection h1 with h1; injection h1 with h1
  subst h1
  rw [hc] at h4
  injection h4 with h4
  injection h4 with e1 e2 e3
  subst e1 e2 e3
  obtain ⟨g, hA, hb, ⟨cur, hg⟩, hr, hf⟩ := h5.at hk
  have hkl : k < (sch.getD i []).length := by have := h5.1; omega
  have hss := s.s i (by omega)
  have hbd := (hss.2 k (by have := hss.1; omega)).2.2
  have hne : g0 ≠ g := h3.differ hg (by decide)
  refine ⟨g, _, hA, hr, hf, hbd, fun v hv0 hv1 P' hP => ⟨h0.dec hg hb hr ⟨hv0, hv1⟩ hbd.2 (fun s1 s2 hle hsi hsb hp => hP s1 s2 hle hsb ?_ hp), ?_⟩⟩
  · have e := hsi i g0 _ _ hU hi (by rw [hc, hA])
    rw [e, putR_at (by
      have h6 := (hsb i (by omega)).1
      have h7 := hss.1
      omega)]
  · rw [(h3.setO hne _ _).cell, ← h3.cell]; exact hc
/-- the same, at a band of a contribution -/
theorem TI.stepC (h : TI w b9 sch0 cts0 kds Us Uc Uk ns vs nc vc nk vk lim rnd TB3 P wr) {g0 j k m c : Nat} {A : Option Addr} (hU : Uc = some ⟨g0, 0, none⟩) (hj : j < nc) (hc : wr.cell? ⟨g0, j * 6 + 2, none⟩ = some (.slice A m c)) (hk : k < m) (hP : ∀ s s', (∀ q, q < ns → (s'.getD q []).length = (s.getD q []).length ∧ LeB (s.getD q []) (s'.getD q [])) → P s → P s') :
    ∃ g r, A = some ⟨g, 0, none⟩ ∧ wr.cell? ⟨g, k * 3 + 1, none⟩ = some (.int .i64 r) ∧ wr.frozen? ⟨g, k * 3 + 1, none⟩ = false ∧ (0 ≤ r ∧ r ≤ 10000) ∧
      ∀ v, 0 ≤ v → v ≤ r → TI w b9 sch0 cts0 kds Us Uc Uk ns vs nc vc nk vk lim rnd TB3 P (wr.setCell ⟨g, k * 3 + 1, none⟩ (.int .i64 v)) ∧ (wr.setCell ⟨g, k * 3 + 1, none⟩ (.int .i64 v)).cell? ⟨g0, j * 6 + 2, none⟩ = some (.slice A m c) := by
  have hl := h.lens
  have h0 := h
  obtain ⟨⟨sch, cts, o, s, cc, p⟩, k9, k3, b⟩ := h
  obtain ⟨g0', A', m', c', h1, h2, ⟨cur0, h3⟩, h4, h5⟩ := o.rowC hj
  rw [hU] at h1
  injection h1 with h1; injection h1 with h1
  subst h1
  rw [hc] at h4
  injection h4 with h4
  injection h4 with e1 e2 e3
  subst e1 e2 e3
  obtain ⟨g, hA, hb, ⟨cur, hg⟩, hr, hf⟩ := h5.at hk
  have hkl : k < (cts.getD j ct0).bands.length := by have := h5.1; omega
  have hss := (s.c j (by omega)).b
  have hbd := (hss.2 k (by have := hss.1; omega)).2.2
  have hne : g0 ≠ g := h3.differ hg (by decide)
  refine ⟨g, _, hA, hr, hf, hbd, fun v hv0 hv1 => ⟨h0.dec hg hb hr ⟨hv0, hv1⟩ hbd.2 (fun s1 s2 hle _ _ hp => hP s1 s2 hle hp), ?_⟩⟩
  rw [(h3.setO hne _ _).cell, ← h3.cell]; exact hc
/-- none of the first schemes' rates is greater, nor any of the next one's first -/
def PK (sch0 : List (List Bd)) (n k : Nat) (s : List (List Bd)) : Prop := (∀ i, i < n → LeB (sch0.getD i []) (s.getD i [])) ∧ ∀ q, q < k → ((s.getD n []).getD q bd0).r ≤ ((sch0.getD n []).getD q bd0).r
theorem PK.step {s s' : List (List Bd)} {n k N : Nat} {v : Int} (h : PK sch0 n k s) (hn : n < N) (hN : N = sch0.length) (hk : k < (sch0.getD n []).length) (hle : ∀ q, q < N → (s'.getD q []).length = (s.getD q []).length ∧ LeB (s.getD q []) (s'.getD q [])) (hsb : ∀ i, i < sch0.length → SameB (sch0.getD i []) (s.getD i [])) (hv : ((s'.getD n []).getD k bd0).r = v) (hv2 : v ≤ ((sch0.getD n []).getD k bd0).r) : PK sch0 n (k + 1) s' := by
  refine ⟨fun i hi => (h.1 i hi).trans (hsb i (by omega)).1 (hle i (by omega)).2, fun q hq => ?_⟩
  rcases (by omega : q = k ∨ q < k) with rfl | hq
  · omega
  · have h1 := h.2 q hq
    have h2 := (hle n hn).2 q (by have := (hsb n (by omega)).1; omega)
    omega
theorem PK.next {s : List (List Bd)} {n : Nat} (h : PK sch0 n (sch0.getD n []).length s) : PK sch0 (n + 1) 0 s := by
  refine ⟨fun i hi => ?_, fun q hq => absurd hq (by omega)⟩
  rcases (by omega : i = n ∨ i < n) with rfl | hi
  · exact h.2
  · exact h.1 i hi
end
end Go.Proofs.YtcngmajkkhipoaaGreatDoor
namespace Go.Proofs.YtcngmajkkhipoaaGreatDoor
set_option linter.unusedVariables false
open Go.RowKit
theorem tput_c (t : Tb) (As Ac Ak : Option Addr) (ns cs nc cc nk ck : Nat) (A : Option Addr) (n c : Nat) (L : List ByteArray) (w : World) (hS : ScSl w As ns t.sch) (hC : CtSl w Ac nc t.cts) (hK : KdSl w Ak nk t.kds) (hn : ns ≤ 100000 ∧ nc ≤ 100000 ∧ nk ≤ 100000) (hb : (∀ k, k < ns → (t.sch.getD k []).length ≤ 100000) ∧ (∀ k, k < nc → (t.cts.getD k ct0).bands.length ≤ 100000)) (hl : StSl w A n L) (hc : n ≤ c) (hs : ∀ k, k < n → (L.getD k st0).size ≤ 1000000) (hn2 : n ≤ 1000) (hm : ML w) (ht : TabS w) :
    Calls Tryz.prog 4 #[tbV As Ac Ak ns cs nc cc nk ck t.lim t.rnd, .slice A n c] w (PutR t As Ac Ak ns cs nc cc nk ck n L w) := by
  obtain ⟨sch, cts, kds, lim, rnd⟩ := t
  by_cases h2 : n < 2
  · exact tput_few sch cts kds As Ac Ak ns cs nc cc nk ck lim rnd A n c L w hS hC hK hn hb hl hc hs hn2 hm ht h2
  have h2 : 2 ≤ n := by omega
  by_cases e1 : L.getD 0 st0 = ⟨#[108, 105, 109, 105, 116]⟩
  · exact tput_limit sch cts kds As Ac Ak ns cs nc cc nk ck lim rnd A n c L w hS hC hK hn hb hl hc hs hn2 hm ht h2 e1
  by_cases e2 : L.getD 0 st0 = ⟨#[114, 111, 117, 110, 100]⟩
  · exact tput_round sch cts kds As Ac Ak ns cs nc cc nk ck lim rnd A n c L w hS hC hK hn hb hl hc hs hn2 hm ht h2 e1 e2
  by_cases e3 : L.getD 0 st0 = ⟨#[115, 99, 104, 101, 109, 101]⟩
  · exact tput_scheme sch cts kds As Ac Ak ns cs nc cc nk ck lim rnd A n c L w hS hC hK hn hb hl hc hs hn2 hm ht h2 e1 e2 e3
  by_cases e4 : L.getD 0 st0 = ⟨#[99, 111, 110, 116, 114, 105, 98]⟩
  · exact tput_contrib sch cts kds As Ac Ak ns cs nc cc nk ck lim rnd A n c L w hS hC hK hn hb hl hc hs hn2 hm ht h2 e1 e2 e3 e4
  by_cases e5 : L.getD 0 st0 = ⟨#[107, 105, 110, 100]⟩
  · exact tput_kind sch cts kds As Ac Ak ns cs nc cc nk ck lim rnd A n c L w hS hC hK hn hb hl hc hs hn2 hm ht h2 e1 e2 e3 e4 e5
  · exact tput_other sch cts kds As Ac Ak ns cs nc cc nk ck lim rnd A n c L w hS hC hK hn hb hl hc hs hn2 hm ht h2 e1 e2 e3 e4 e5
--%%
end Go.Proofs.YtcngmajkkhipoaaGreatDoor
namespace Go.Proofs.YtcngmajkkhipoaaGreatDoor
set_option linter.unusedVariables false
open Go.RowKit
theorem row_mono {w : World} {base base' size n : Nat} {e : TypeId} {v : Value} {xs : List Value} (h : w.ownsRow base e size v n xs) (hb : base' ≤ base) : w.ownsRow base' e size v n xs := by
  refine ⟨h.1, ?_⟩
  rcases h.2 with h' | ⟨g, cap, cur, h1, h2, h3⟩
  · exact Or.inl h'
  · exact Or.inr ⟨g, cap, cur, h1, Nat.le_trans hb h2, h3⟩
theorem OwnT.mono {w : World} {base base' : Nat} {sch : List (List Bd)} {cts : List Ct} {kds : List Kd} {As Ac Ak : Option Addr} {ns cs nc cc nk ck : Nat} (h : OwnT w base sch cts kds As Ac Ak ns cs nc cc nk ck) (hb : base' ≤ base) : OwnT w base' sch cts kds As Ac Ak ns cs nc cc nk ck := by
  obtain ⟨⟨ls, e1, o1, b1⟩, ⟨lc, e2, o2, b2⟩, o3, b3⟩ := h
  exact ⟨⟨ls, e1, row_mono o1 hb, fun p hp => ⟨(b1 p hp).1, row_mono (b1 p hp).2 hb⟩⟩, ⟨lc, e2, row_mono o2 hb, fun p hp => ⟨⟨(b2 p hp).1.1, row_mono (b2 p hp).1.2 hb⟩, (b2 p hp).2⟩⟩, row_mono o3 hb, b3⟩
theorem OwnT.nil (w : World) (base : Nat) : OwnT w base [] [] [] none none none 0 0 0 0 0 0 :=
  ⟨⟨[], rfl, World.ownsRow_nil _ _ _ _, fun p hp => by simp at hp⟩, ⟨[], rfl, World.ownsRow_nil _ _ _ _, fun p hp => by simp at hp⟩, World.ownsRow_nil _ _ _ _, fun p hp => by simp at hp⟩
--%%
end Go.Proofs.YtcngmajkkhipoaaGreatDoor
namespace Go.Proofs.YtcngmajkkhipoaaGreatDoor
set_option linter.unusedVariables false
open Go.RowKit
structure SzT (u : Tb) (m : Nat) : Prop where
  s : u.sch.length ≤ m
  c : u.cts.length ≤ m
  k : u.kds.length ≤ m
  sl : ∀ x ∈ u.sch, x.length ≤ 1000
  cl : ∀ x ∈ u.cts, x.bands.length ≤ 1000
theorem SzT.nil : SzT tb0 0 := ⟨Nat.le_refl _, Nat.le_refl _, Nat.le_refl _, fun x hx => by simp [tb0] at hx, fun x hx => by simp [tb0] at hx⟩
theorem SzT.put {u : Tb} {m : Nat} (h : SzT u m) (L : List ByteArray) (hL : L.length ≤ 1000) : SzT (putV u L) (m + 1) := by
  obtain ⟨h1, h2, h3, h4, h5⟩ := h
  have hr : ∀ b M, M.length ≤ 1000 → (rdL b M).length ≤ 1000 := fun b M hM => by unfold rdL; rw [List.length_map]; exact hM
  have hd : ∀ j, (L.drop j).length ≤ 1000 := fun j => by rw [List.length_drop]; omega
  unfold putV
  split
  · exact ⟨by dsimp only; omega, by dsimp only; omega, by dsimp only; omega, h4, h5⟩
  split
  · exact ⟨by dsimp only; omega, by dsimp only; omega, by dsimp only; omega, h4, h5⟩
  split
  · refine ⟨by simp; omega, by dsimp only; omega, by dsimp only; omega, fun x hx => ?_, h5⟩
    rcases List.mem_append.1 hx with hx | hx
    · exact h4 x hx
    · rw [List.mem_singleton.1 hx]; exact hr _ _ (hd 1)
  split
  · refine ⟨by dsimp only; omega, by simp; omega, by dsimp only; omega, h4, fun x hx => ?_⟩
    rcases List.mem_append.1 hx with hx | hx
    · exact h5 x hx
    · rw [List.mem_singleton.1 hx]
      refine hr _ _ ?_
      rw [List.length_drop]; have := hd 1; omega
  · exact ⟨by dsimp only; omega, by dsimp only; omega, by simp; omega, h4, h5⟩
theorem getD_all {α : Type} {P : α → Prop} {l : List α} {d : α} (h : ∀ x ∈ l, P x) {j : Nat} (hj : j < l.length) : P (l.getD j d) := h _ (getD_mem hj)
--%%
def StepR (u : Tb) (L : List ByteArray) (n : Nat) (old : Value) (w : World) (e : Ending) (w' : World) : Prop :=
  ((putE n L = 0 ∧ ∃ (As Ac Ak : Option Addr) (ns cs nc cc nk ck : Nat) (lim rnd : Int), e = .returned (.tuple #[.agg #[.slice As ns cs, .slice Ac nc cc, .slice Ak nk ck, .int .i64 lim, .int .i64 rnd], .int .i64 0]) ∧ (lim = (putV u L).lim ∧ rnd = (putV u L).rnd) ∧ OwnT w' w.heap.size (putV u L).sch (putV u L).cts (putV u L).kds As Ac Ak ns cs nc cc nk ck) ∨
   (putE n L ≠ 0 ∧ e = .returned (.tuple #[old, .int .i64 (putE n L)]))) ∧ Below w.heap.size w w'
theorem tstep_c (u : Tb) (m : Nat) (hz : SzT u m) (hm9 : m ≤ 1000) (As Ac Ak : Option Addr) (ns cs nc cc nk ck : Nat) (lim rnd : Int) (hlr : lim = u.lim ∧ rnd = u.rnd) (A : Option Addr) (n c : Nat) (L : List ByteArray) (w : World) (v : TbIn w u.sch u.cts u.kds As Ac Ak ns cs nc cc nk ck) (hst : StSl w A n L) (hc : n ≤ c) (hL : n ≤ 1000) (hs : ∀ k, k < n → (L.getD k st0).size ≤ 1000000) (hm : ML w) (ht : TabS w) :
    Calls Tryz.prog 4 #[.agg #[.slice As ns cs, .slice Ac nc cc, .slice Ak nk ck, .int .i64 lim, .int .i64 rnd], .slice A n c] w (StepR u L n (.agg #[.slice As ns cs, .slice Ac nc cc, .slice Ak nk ck, .int .i64 lim, .int .i64 rnd]) w) := by
  obtain ⟨rfl, rfl⟩ := hlr
  have e1 := v.s.1
  have e2 := v.c.1
  have e3 := v.k.1
  have z1 := hz.s
  have z2 := hz.c
  have z3 := hz.k
  refine (tput_c u As Ac Ak ns cs nc cc nk ck A n c L w v.s v.c v.k ⟨by omega, by omega, by omega⟩ ⟨fun j hj => ?_, fun j hj => ?_⟩ hst hc hs hL hm ht).mono ?_
  · have := getD_all (d := []) hz.sl (j := j) (by omega); omega
  · have := getD_all (d := ct0) hz.cl (j := j) (by omega); omega
  · rintro e w' ⟨⟨h0, As', cs', Ac', cc', Ak', ck', rfl, ho'⟩ | ⟨h0, rfl⟩, hb⟩
    · exact ⟨Or.inl ⟨h0, As', Ac', Ak', _, cs', _, cc', _, ck', _, _, rfl, ⟨rfl, rfl⟩, ho'⟩, hb⟩
    · exact ⟨Or.inr ⟨h0, rfl⟩, hb⟩
--%%
/-! ### the lines of a table, put one behind the other -/
def stT (t : Tb) (k : Nat) : Tb := ((tbW t).take k).foldl putW tb0
theorem stT_step (t : Tb) (k : Nat) (hk : k < (tbW t).length) : stT t (k + 1) = putV (stT t k) (wsB ((tbW t).getD k [])) := by
  unfold stT
  rw [take_snoc (tbW t) [] k hk, List.foldl_append]; rfl
theorem stT_end {t : Tb} (h : tbE t = 0) : stT t (tbW t).length = t := by
  unfold stT; rw [List.take_length]; exact tb_fold h
theorem stT_sz {t : Tb} (h : tbE t = 0) : ∀ k, k ≤ (tbW t).length → SzT (stT t k) k := by
  intro k
  induction k with
  | zero => intro _; exact SzT.nil
  | succ k ih =>
    intro hk
    rw [stT_step t k (by omega)]
    refine (ih (by omega)).put _ ?_
    have := (tb_lines h _ (getD_mem (d := []) (by omega : k < (tbW t).length))).few
    unfold wsB
    rw [List.length_map]; omega
theorem tbL_get (t : Tb) (k : Nat) (hk : k < (tbW t).length) : (tbL t).getD k st0 = mkB (spJ ((tbW t).getD k [])) := by
  have h : k < (tbL t).length := by unfold tbL; rw [List.length_map]; exact hk
  rw [getD_get h, getD_get hk]
  simp [tbL]
theorem tbL_n (t : Tb) : (tbL t).length = (tbW t).length := by unfold tbL; rw [List.length_map]
theorem line_cut {t : Tb} (h : tbE t = 0) (k : Nat) (hk : k < (tbW t).length) : cutR ((tbL t).getD k st0).data.toList = (0, (tbW t).getD k []) := by
  have ln := tb_lines h _ (getD_mem (d := []) hk)
  rw [tbL_get t k hk]
  exact cut_sp _ (by have := ln.few; omega) ln.bare (by have := ln.len; omega)
theorem line_small {t : Tb} (h : tbE t = 0) (k : Nat) (hk : k < (tbW t).length) : ((tbL t).getD k st0).size ≤ 500 := by
  have ln := tb_lines h _ (getD_mem (d := []) hk)
  rw [tbL_get t k hk, mkB_size]
  exact ln.len
theorem words_small {t : Tb} (h : tbE t = 0) (k : Nat) (hk : k < (tbW t).length) : ((tbW t).getD k []).length ≤ 14 := (tb_lines h _ (getD_mem (d := []) hk)).few
theorem wcons_mem {a w : List UInt8} {x : Int × List (List UInt8)} (h : w ∈ (wcons a x).2) : w = a ∨ w ∈ x.2 := by
  unfold wcons at h
  split at h
  · exact List.mem_cons.1 h
  · simp at h
theorem wcons_len (a : List UInt8) (x : Int × List (List UInt8)) : (wcons a x).2.length ≤ x.2.length + 1 := by
  unfold wcons
  split
  · simp
  · simp
theorem cut_size : ∀ (l : List UInt8) (m n : Nat) (acc : List UInt8), ∀ w ∈ (cutM m l n acc).2, w.length ≤ l.length + acc.length := by
  intro l
  induction l with
  | nil =>
    intro m n acc w hw
    simp only [cutM] at hw
    repeat' split at hw
    all_goals first
      | (simp at hw; done)
      | (have h : w = acc := by simpa using hw
         subst h
         simp)
  | cons c r ih =>
    intro m n acc w hw
    simp only [cutM] at hw
    have hl : (c :: r).length = r.length + 1 := rfl
    repeat' split at hw
    all_goals first
      | (simp at hw; done)
      | (have h := ih _ _ _ w hw; (try simp only [List.length_append, List.length_cons, List.length_nil] at h); omega)
      | (rcases wcons_mem hw with h | h
         · rw [h]; omega
         · have h2 := ih _ _ _ w h; (try simp only [List.length_nil] at h2); omega)
      | (have h : w = acc := by simpa using hw
         subst h
         omega)
theorem cut_few : ∀ (l : List UInt8) (m n : Nat) (acc : List UInt8), (cutM m l n acc).2.length ≤ l.length + 1 := by
  intro l
  induction l with
  | nil =>
    intro m n acc
    simp only [cutM]
    repeat' split
    all_goals simp
  | cons c r ih =>
    intro m n acc
    simp only [cutM]
    have hl : (c :: r).length = r.length + 1 := rfl
    repeat' split
    all_goals first
      | (simp; done)
      | (have h := ih 0 n []; omega)
      | (have h := ih 2 n []; omega)
      | (have h := ih 1 n [c]; omega)
      | (have h := ih 1 n (acc ++ [c]); omega)
      | (have h := ih 2 n (acc ++ [c]); omega)
      | (have h := ih 3 n acc; omega)
      | (have h := ih 0 (n + 1) []; have h2 := wcons_len acc (cutM 0 r (n + 1) []); omega)
theorem cutR_size (l : List UInt8) : (∀ w ∈ (cutR l).2, w.length ≤ 512) ∧ (cutR l).2.length ≤ 513 := by
  unfold cutR
  split
  · simp
  · refine ⟨fun w hw => ?_, ?_⟩
    · have := cut_size l 0 0 [] w hw; simp at this; omega
    · have := cut_few l 0 0 []; omega
end Go.Proofs.YtcngmajkkhipoaaGreatDoor
