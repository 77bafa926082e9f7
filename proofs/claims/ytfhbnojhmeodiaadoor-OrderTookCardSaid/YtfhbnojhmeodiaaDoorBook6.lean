/-
  Contracts of a book's ways: Find, Took. Conditions as named.
-/
import Derived.Test.YtfhbnojhmeodiaaDoorBook5
import Derived.BigRegion
namespace Go.Proofs.YtfhbnojhmeodiaaDoor
set_option linter.unusedVariables false
open Go.RowKit
theorem own_put {w : World} {base size n cap g : Nat} {e : TypeId} {xs : List Value} (h : w.ownsRow base e size (.slice (some ⟨g, 0, none⟩) n cap) n xs) (j : Nat) (u : Value) :
    (w.setCell ⟨g, j, none⟩ u).ownsRow base e size (.slice (some ⟨g, 0, none⟩) n cap) n (xs.set j u) := by
  obtain ⟨h1, h2 | ⟨g', cap', cur, hv, hb, hg, hle, hm, hs, ht⟩⟩ := h
  · cases h2.1
  · injection hv with hA _ hc
    injection hA with hA
    injection hA with hg' _
    subst hg'
    subst hc
    refine ⟨by rw [List.length_set]; exact h1, Or.inr ⟨g, cap, cur.setIfInBounds j u, rfl, hb, heap_setCell_same w g j cur e u hg, hle, hm, by simpa using hs, ?_⟩⟩
    rw [← ht]
    simp [List.take_set]
theorem own_free {w : World} {base size n cap g : Nat} {e : TypeId} {xs : List Value} (h : w.ownsRow base e size (.slice (some ⟨g, 0, none⟩) n cap) n xs) : ∀ j, w.frozen? ⟨g, j, none⟩ = false := fun j => h.frozenAt j
theorem odC_set (l : List Od) (a : Nat) (ha : a < l.length) (z : Od) : (l.set a z).flatMap odC = ((l.take a).flatMap odC) ++ (odC z ++ (l.drop (a + 1)).flatMap odC) := by
  rw [List.set_eq_take_append_cons_drop, if_pos ha, List.flatMap_append, List.flatMap_cons]
theorem odC_self (l : List Od) (a : Nat) (ha : a < l.length) : l.flatMap odC = ((l.take a).flatMap odC) ++ (odC (l.getD a od0) ++ (l.drop (a + 1)).flatMap odC) := by
  have := odC_set l a ha (l.getD a od0)
  rwa [show l.set a (l.getD a od0) = l by rw [getD_at l od0 ha]; exact List.set_getElem_self ha] at this
theorem odC_at (l : List Od) (a : Nat) (ha : a < l.length) (j : Nat) (hj : j < 7) : (l.flatMap odC)[a * 7 + j]? = (odC (l.getD a od0))[j]? := by
  have hX : ((l.take a).flatMap odC).length = a * 7 := by rw [odC_flat, List.length_take]; omega
  rw [odC_self l a ha, List.getElem?_append_right (by omega), hX, show a * 7 + j - a * 7 = j by omega, List.getElem?_append_left (by rw [odC_len]; exact hj)]
/-- the two cells of what it took and of its arrears -/
theorem odC_put (l : List Od) (a : Nat) (ha : a < l.length) (s c : Int) :
    ((l.flatMap odC).set (a * 7 + 5) (.int .i64 s)).set (a * 7 + 6) (.int .i64 c) = (l.set a { l.getD a od0 with tk := s, ar := c }).flatMap odC ∧
    ((l.flatMap odC).set (a * 7 + 6) (.int .i64 c)).set (a * 7 + 5) (.int .i64 s) = (l.set a { l.getD a od0 with tk := s, ar := c }).flatMap odC := by
  have hX : ((l.take a).flatMap odC).length = a * 7 := by rw [odC_flat, List.length_take]; omega
  rw [odC_set l a ha, odC_self l a ha]
  generalize l.getD a od0 = z
  generalize (l.take a).flatMap odC = X at *
  generalize (l.drop (a + 1)).flatMap odC = Y
  constructor
  · rw [List.set_append_right _ _ (by omega), List.set_append_right _ _ (by omega)]
    rw [show a * 7 + 5 - X.length = 5 by omega, show a * 7 + 6 - X.length = 6 by omega]
    rfl
  · rw [List.set_append_right _ _ (by omega), List.set_append_right _ _ (by omega)]
    rw [show a * 7 + 5 - X.length = 5 by omega, show a * 7 + 6 - X.length = 6 by omega]
    rfl
theorem Blk.setv {w : World} {g : Nat} {t : TypeId} {cs : Array Value} (hb : Blk w g t cs) (i : Nat) (v : Value) : Blk (w.setCell ⟨g, i, none⟩ v) g t (cs.setIfInBounds i v) := heap_setCell_same w g i cs t v hb
theorem Blk.seven {w : World} {g : Nat} {t : TypeId} {a b c d e f h : Value} (hb : Blk w g t #[a, b, c, d, e, f, h]) (a' b' c' d' e' f' h' : Value) :
    Blk (((((((w.setCell ⟨g, 0, none⟩ a').setCell ⟨g, 1, none⟩ b').setCell ⟨g, 2, none⟩ c').setCell ⟨g, 3, none⟩ d').setCell ⟨g, 4, none⟩ e').setCell ⟨g, 5, none⟩ f').setCell ⟨g, 6, none⟩ h') g t #[a', b', c', d', e', f', h'] := by
  have h1 := Blk.setv hb 0 a'
  have h2 := h1.setv 1 b'
  have h3 := h2.setv 2 c'
  have h4 := h3.setv 3 d'
  have h5 := h4.setv 4 e'
  have h6 := h5.setv 5 f'
  have h7 := h6.setv 6 h'
  simpa using h7
--%%
def FindR (l : List Od) (n : Nat) (q : Int) (w : World) (e : Ending) (w' : World) : Prop :=
  ((atO l q < n ∧ e = .returned (.tuple #[.agg (odC (l.getD (atO l q) od0)).toArray, .int .i64 0])) ∨ (atO l q = n ∧ e = .returned (.tuple #[.agg #[.int .i64 0, .int .i64 0, .int .i64 0, .int .i64 0, .int .i64 0, .int .i64 0, .int .i64 0], .int .i64 3]))) ∧ Below w.heap.size w w'
set_option maxRecDepth 100000 in
set_option maxHeartbeats 3200000 in
theorem bfind_c (p : Nat) (l : List Od) (q : Int) (w : World) (hb : Bk w p l) (n : Nat) (hn : n = l.length) (hn2 : n ≤ 1000) :
    Calls Tryd.prog 19 #[.pointer (some ⟨p, 0, none⟩), .int .i64 q] w (FindR l n q w) := by
  have hlt := hb.lt
  obtain ⟨A, c, hB, hnc, hs, hO⟩ := hb.sl
  rw [← hn] at hB hs
  have hb0 := below1 w (.cells #[.int .i64 0, .int .i64 0, .int .i64 0, .int .i64 0, .int .i64 0, .int .i64 0, .int .i64 0] 39)
  have HS := Lib.hid hs
  have HL := Lib.hid hn
  have d0 := (hB.t hb0).cell 0
  have y := Blk.mk w 39 #[.int .i64 0, .int .i64 0, .int .i64 0, .int .i64 0, .int .i64 0, .int .i64 0, .int .i64 0]
  clear hb hB hs hO hn hnc
  go_enter Tryd.func19, Tryd.ntmps19
  go_wp2_with fail
  go_loopw [13] (fun i wr => ∃ k : Nat, k ≤ n ∧ i = .int .i64 k ∧ Hid (∀ j, j < k → (l.getD j od0).id ≠ q) ∧ Blk wr w.heap.size 39 #[.int .i64 0, .int .i64 0, .int .i64 0, .int .i64 0, .int .i64 0, .int .i64 0, .int .i64 0] ∧ Below w.heap.size w wr) (fun i _ => n - (intOf i).toNat)
  case atStart => exact ⟨0, Nat.zero_le _, rfl, fun j hj => absurd hj (by omega), y, hb0⟩
  case round =>
    obtain ⟨k, hk', rfl, HN, hy, hbl⟩ := hrel
    have hsz := hbl.size
    have hyl := hy.lt
    obtain ⟨f0, f1, f2, f3, f4, f5, f6⟩ : wr.frozen? ⟨w.heap.size, 0, none⟩ = false ∧ wr.frozen? ⟨w.heap.size, 1, none⟩ = false ∧ wr.frozen? ⟨w.heap.size, 2, none⟩ = false ∧ wr.frozen? ⟨w.heap.size, 3, none⟩ = false ∧ wr.frozen? ⟨w.heap.size, 4, none⟩ = false ∧ wr.frozen? ⟨w.heap.size, 5, none⟩ = false ∧ wr.frozen? ⟨w.heap.size, 6, none⟩ = false := ⟨hy.free 0, hy.free 1, hy.free 2, hy.free 3, hy.free 4, hy.free 5, hy.free 6⟩
    by_cases hk : k < n
    case neg =>
      obtain rfl : k = n := by omega
      have HA : Hid (atO l q = k) := (atO_none (fun j hj => HN.out j (by rw [HL.out]; exact hj))).trans HL.out.symm
      obtain ⟨y0, y1, y2, y3, y4, y5, y6⟩ := hy.a7
      clear hy
      go_wp2_with fail
      refine bodyPost_ret (v := .tuple #[.agg #[.int .i64 0, .int .i64 0, .int .i64 0, .int .i64 0, .int .i64 0, .int .i64 0, .int .i64 0], .int .i64 3]) (by simp [results, Tryd.results19, go_sem, y0, y1, y2, y3, y4, y5, y6]) rfl ⟨Or.inr ⟨HA.out, rfl⟩, ?_⟩
      exact bS (bS (bS (bS (bS (bS (bS hbl (Nat.le_refl _) _) (Nat.le_refl _) _) (Nat.le_refl _) _) (Nat.le_refl _) _) (Nat.le_refl _) _) (Nat.le_refl _) _) (Nat.le_refl _) _
    obtain ⟨b, off, rfl, hltb, hat⟩ := (HS.out.below hbl).2.2 (by omega)
    have hcl := hat k hk
    have HYX : Hid ((l.getD k od0).id = q → atO l q = k) := fun h => atO_of (by rw [← HL.out]; exact hk) h HN.out
    have HNX : Hid ((l.getD k od0).id ≠ q → ∀ j, j < k + 1 → (l.getD j od0).id ≠ q) := fun h j hj => by
      rcases (by omega : j = k ∨ j < k) with rfl | hj
      · exact h
      · exact HN.out j hj
    generalize hzz : l.getD k od0 = zz at *
    obtain ⟨id, pr, am, ra, tt, tk, ar⟩ := zz
    have HZ := Lib.hid hzz
    obtain ⟨c0, c1, c2, c3, c4, c5, c6⟩ : wr.cell? ⟨b, off + k * 7, none⟩ = some (.int .i64 id) ∧ wr.cell? ⟨b, off + k * 7 + 1, none⟩ = some (.int .i64 pr) ∧ wr.cell? ⟨b, off + k * 7 + 2, none⟩ = some (.int .i64 am) ∧ wr.cell? ⟨b, off + k * 7 + 3, none⟩ = some (.int .i64 ra) ∧ wr.cell? ⟨b, off + k * 7 + 4, none⟩ = some (.int .i64 tt) ∧ wr.cell? ⟨b, off + k * 7 + 5, none⟩ = some (.int .i64 tk) ∧ wr.cell? ⟨b, off + k * 7 + 6, none⟩ = some (.int .i64 ar) := ⟨hcl 0 _ rfl, hcl 1 _ rfl, hcl 2 _ rfl, hcl 3 _ rfl, hcl 4 _ rfl, hcl 5 _ rfl, hcl 6 _ rfl⟩
    dsimp only at HNX HYX
    clear hcl hat hzz
    by_cases he : id = q
    · have HA := Lib.hid (HYX.out he)
      have v : (id == q) = true := by simpa using he
      clear he HNX HYX
      have yb := (hy.seven (.int .i64 id) (.int .i64 pr) (.int .i64 am) (.int .i64 ra) (.int .i64 tt) (.int .i64 tk) (.int .i64 ar)).alloc (.cells #[.int .i64 id, .int .i64 pr, .int .i64 am, .int .i64 ra, .int .i64 tt, .int .i64 tk, .int .i64 ar] 39)
      have hbW : Below w.heap.size w ((((((((wr.setCell ⟨w.heap.size, 0, none⟩ (.int .i64 id)).setCell ⟨w.heap.size, 1, none⟩ (.int .i64 pr)).setCell ⟨w.heap.size, 2, none⟩ (.int .i64 am)).setCell ⟨w.heap.size, 3, none⟩ (.int .i64 ra)).setCell ⟨w.heap.size, 4, none⟩ (.int .i64 tt)).setCell ⟨w.heap.size, 5, none⟩ (.int .i64 tk)).setCell ⟨w.heap.size, 6, none⟩ (.int .i64 ar)).alloc (.cells #[.int .i64 id, .int .i64 pr, .int .i64 am, .int .i64 ra, .int .i64 tt, .int .i64 tk, .int .i64 ar] 39)) := bA (bS (bS (bS (bS (bS (bS (bS hbl (Nat.le_refl _) _) (Nat.le_refl _) _) (Nat.le_refl _) _) (Nat.le_refl _) _) (Nat.le_refl _) _) (Nat.le_refl _) _) (Nat.le_refl _) _) _
      have YB := Lib.hid yb
      have HBW := Lib.hid hbW
      obtain ⟨y0, y1, y2, y3, y4, y5, y6⟩ := hy.a7
      clear hy yb hbW
      go_wp2_with fail
      clear y0 y1 y2 y3 y4 y5 y6
      generalize ((((((((wr.setCell ⟨w.heap.size, 0, none⟩ (.int .i64 id)).setCell ⟨w.heap.size, 1, none⟩ (.int .i64 pr)).setCell ⟨w.heap.size, 2, none⟩ (.int .i64 am)).setCell ⟨w.heap.size, 3, none⟩ (.int .i64 ra)).setCell ⟨w.heap.size, 4, none⟩ (.int .i64 tt)).setCell ⟨w.heap.size, 5, none⟩ (.int .i64 tk)).setCell ⟨w.heap.size, 6, none⟩ (.int .i64 ar)).alloc (.cells #[.int .i64 id, .int .i64 pr, .int .i64 am, .int .i64 ra, .int .i64 tt, .int .i64 tk, .int .i64 ar] 39)) = W5 at YB HBW ⊢
      obtain ⟨y0, y1, y2, y3, y4, y5, y6⟩ := YB.out.a7
      exact bodyPost_ret (v := .tuple #[.agg #[.int .i64 id, .int .i64 pr, .int .i64 am, .int .i64 ra, .int .i64 tt, .int .i64 tk, .int .i64 ar], .int .i64 0]) (by simp [results, Tryd.results19, go_sem, y0, y1, y2, y3, y4, y5, y6]) rfl ⟨Or.inl ⟨by rw [HA.out]; exact hk, by rw [HA.out, HZ.out]; rfl⟩, HBW.out⟩
    · have HN2 := Lib.hid (HNX.out he)
      have v : (id == q) = false := by simpa using he
      clear he HNX HYX
      go_wp2_with fail
      go_roundw
      case rel => exact ⟨k + 1, by omega, by go_num, HN2.out, hy.alloc _, bA hbl _⟩
      case measure => simp [intOf]; omega
--%%
def TookR (l : List Od) (ts : List Tk) (p : Nat) (w : World) (e : Ending) (w' : World) : Prop := e = .returned (.int .i64 (tookE l ts)) ∧ Bk w' p (tookL l ts) ∧ w.grownBy w' (some p)
set_option maxRecDepth 100000 in
set_option maxHeartbeats 6400000 in
theorem btook_c (p : Nat) (l : List Od) (A0 : Option Addr) (m c0 : Nat) (ts : List Tk) (w : World) (hb : Bk w p l) (hn2 : l.length ≤ 1000) (ht : TkSl w A0 m ts) :
    Calls Tryd.prog 18 #[.pointer (some ⟨p, 0, none⟩), .slice A0 m c0] w (TookR l ts p w) := by
  have hlt := hb.lt
  have HBK := Lib.hid hb
  obtain ⟨A, c, hB, hnc, hs, hO⟩ := hb.sl
  obtain ⟨n, hn⟩ : ∃ n, n = l.length := ⟨_, rfl⟩
  rw [← hn] at hB hs hn2
  have KC := Lib.hid (sclone_c A n c l w hs (by omega))
  have HL := Lib.hid hn
  have HT := Lib.hid ht
  have HM := Lib.hid ht.1
  have hm9 := ht.2.1
  have HB := Lib.hid hB
  have d0 := hB.cell 0
  have HTL := Lib.hid (tookT_len l ts)
  have HSK : Hid (∀ k, k ≤ m → (tookT l ts k).1 ≠ 0 → tookE l ts = (tookT l ts k).1) := fun k hk h => by
    have := tookT_stick l ts k h m hk
    unfold tookE; rw [← HM.out, this]
  have HST : Hid (∀ k, (tookT l ts k).1 = 0 → tookT l ts (k + 1) = if tookX (tookT l ts k).2 (ts.getD k tk0) ≠ 0 then (tookX (tookT l ts k).2 (ts.getD k tk0), (tookT l ts k).2) else (0, tookA (tookT l ts k).2 (ts.getD k tk0))) := fun k h => by
    rw [tookT, if_neg (by simp [h])]
  have HERR : Hid (∀ k W r, k ≤ m → Below w.heap.size w W → (tookT l ts k).1 = r → r ≠ 0 → TookR l ts p w (.returned (.int .i64 r)) W) := fun k W r hk hW h hr => by
    have e := HSK.out k hk (by rw [h]; exact hr)
    rw [h] at e
    refine ⟨by rw [e], ?_, grown_row hW _⟩
    rw [tookL, if_neg (by rw [e]; exact hr)]
    exact HBK.out.t hW
  clear hb hB hs hO hn ht hnc
  go_enter Tryd.func18, Tryd.ntmps18
  go_wp2_with fail
  refine KC.out.mono ?_
  rintro e w1 ⟨⟨v1, rfl, ho1⟩, hb1⟩
  obtain ⟨A1, cp, rfl⟩ := own_slice ho1.2
  have HO1 := Lib.hid ho1.2
  clear ho1
  go_wp2_with fail
  go_loopw [18] (fun i wr => ∃ k : Nat, k ≤ m ∧ i = .int .i64 k ∧ Hid ((tookT l ts k).1 = 0) ∧ wr.ownsRow w.heap.size 39 7 (.slice A1 n cp) n ((tookT l ts k).2.flatMap odC) ∧ Below w.heap.size w wr) (fun i _ => m - (intOf i).toNat)
  case atStart => exact ⟨0, Nat.zero_le _, rfl, rfl, HO1.out, hb1⟩
  case round =>
    obtain ⟨k, hk', rfl, HZ, ho, hbl⟩ := hrel
    have HO := Lib.hid ho
    have hsz := hbl.size
    clear ho
    by_cases hk : k < m
    case neg =>
      obtain rfl : k = m := by omega
      have q0 := (HB.out.t hbl).cell 0
      have q1 := (HB.out.t hbl).free 0
      have HF : Hid (TookR l ts p w (.returned (.int .i64 0)) (wr.setCell ⟨p, 0, none⟩ (.slice A1 n cp))) := by
        have e : tookE l ts = 0 := by unfold tookE; rw [← HM.out]; exact HZ.out
        refine ⟨by rw [e], ?_, grown_set hbl p _⟩
        rw [tookL, if_pos e, ← HM.out]
        have hln : n = (tookT l ts k).2.length := by rw [HTL.out]; exact HL.out
        have ho : OwnOd wr w.heap.size (.slice A1 n cp) n (tookT l ts k).2 := ⟨hln, HO.out⟩
        rw [hln] at ho ⊢
        exact Bk.set (HB.out.t hbl) ho hlt
      go_wp2_with fail
      go_ret
      exact HF.out
    obtain ⟨bt, off, rfl, hltb, hat⟩ := (HT.out.below hbl).2.2 (by omega)
    have hcl := hat k hk
    have HS1 := Lib.hid (HST.out k HZ.out)
    have HER := Lib.hid (HERR.out (k + 1))
    have hL2 := Lib.hid (HTL.out k)
    generalize ts.getD k tk0 = x at *
    obtain ⟨xo, xb, xr, xd, xt, xc⟩ := x
    obtain ⟨lk, hlk⟩ : ∃ lk, lk = (tookT l ts k).2 := ⟨_, rfl⟩
    rw [← hlk] at HS1 HO hL2
    obtain ⟨c0, c1, c2, c3, c4, c5⟩ : wr.cell? ⟨bt, off + k * 6, none⟩ = some (.int .i64 xo) ∧ wr.cell? ⟨bt, off + k * 6 + 1, none⟩ = some (.int .i64 xb) ∧ wr.cell? ⟨bt, off + k * 6 + 2, none⟩ = some (.int .i64 xr) ∧ wr.cell? ⟨bt, off + k * 6 + 3, none⟩ = some (.int .i64 xd) ∧ wr.cell? ⟨bt, off + k * 6 + 4, none⟩ = some (.int .i64 xt) ∧ wr.cell? ⟨bt, off + k * 6 + 5, none⟩ = some (.int .i64 xc) := ⟨hcl 0 _ rfl, hcl 1 _ rfl, hcl 2 _ rfl, hcl 3 _ rfl, hcl 4 _ rfl, hcl 5 _ rfl⟩
    have y := Blk.mk wr 41 #[.int .i64 xo, .int .i64 xb, .int .i64 xr, .int .i64 xd, .int .i64 xt, .int .i64 xc]
    have hb2 := bA hbl (.cells #[.int .i64 xo, .int .i64 xb, .int .i64 xr, .int .i64 xd, .int .i64 xt, .int .i64 xc] 41)
    have hln : n = lk.length := by rw [hL2.out]; exact HL.out
    have HLN := Lib.hid hln
    have ho2 : OwnOd (wr.alloc (.cells #[.int .i64 xo, .int .i64 xb, .int .i64 xr, .int .i64 xd, .int .i64 xt, .int .i64 xc] 41)) w.heap.size (.slice A1 n cp) n lk := ⟨hln, own_below HO.out (below1 _ _)⟩
    obtain ⟨A2, c2, hv2, _, hs2⟩ := ho2.sl
    injection hv2 with e1 _ e2
    subst e1; subst e2
    have KX := Lib.hid (oidx3_c A1 n cp lk wr.heap.size xo _ hs2 (y.cell 0) y.lt)
    have HX : Hid (∀ r, tookX lk ⟨xo, xb, xr, xd, xt, xc⟩ = r → r ≠ 0 → ∀ W, Below w.heap.size w W → TookR l ts p w (.returned (.int .i64 r)) W) := fun r h hr W hW => by
      have e := HS1.out
      rw [if_pos (by rw [h]; exact hr)] at e
      exact HER.out W r (by omega) hW (by rw [e]; exact h) hr
    have HG : Hid (tookX lk ⟨xo, xb, xr, xd, xt, xc⟩ = 0 → tookT l ts (k + 1) = (0, tookA lk ⟨xo, xb, xr, xd, xt, xc⟩)) := fun h => by rw [HS1.out, if_neg (by simp [h])]
    clear hcl hat hlk hln hs2 HS1 HER
    go_wp2_with fail
    refine KX.out.mono ?_
    rintro e w2 ⟨⟨h1, rfl⟩ | ⟨h1, rfl⟩, hb3⟩
    case inr =>
      have hB3 := bT hb2 hb3
      have HF := Lib.hid (HX.out 3 (by unfold tookX; rw [if_pos (by dsimp only; rw [← HLN.out]; omega)]) (by decide) w2 hB3)
      clear h1
      go_wp2_with fail
      go_ret
      exact HF.out
    have hB3 := bT hb2 hb3
    obtain ⟨a, ha⟩ : ∃ a, a = atO lk xo := ⟨_, rfl⟩
    rw [← ha] at h1 ⊢
    obtain ⟨g, cg, hvg, hgb, hgl, hgc, _⟩ := own_form HO.out (by omega)
    injection hvg with e1 _ e2
    subst e1; subst e2
    have HB3 := Lib.hid hB3
    have HRW : Hid (∀ W, Below w2.heap.size w2 W → W.ownsRow w.heap.size 39 7 (.slice (some ⟨g, 0, none⟩) n cp) n (lk.flatMap odC)) := fun W hW => own_below (own_below (own_below HO.out (below1 _ _)) hb3) hW
    have hal : a < lk.length := by rw [← HLN.out]; exact h1
    have HAL := Lib.hid hal
    obtain ⟨tk, htk⟩ : ∃ t, t = (lk.getD a od0).tk := ⟨_, rfl⟩
    have HTA : Hid (tookA lk ⟨xo, xb, xr, xd, xt, xc⟩ = lk.set a { lk.getD a od0 with tk := tk + xt, ar := xc }) := by unfold Hid tookA; rw [htk, ha]
    have HTX : Hid (tookX lk ⟨xo, xb, xr, xd, xt, xc⟩ = if ¬ (mrB tk = true ∧ mrB xt = true ∧ mrB (tk + xt) = true) then 10 else if mrB xc = false then 10 else 0) := by
      unfold Hid tookX
      rw [if_neg (by dsimp only; rw [← ha]; omega), htk, ha]
    have HY5 : Hid (∀ W, Below w2.heap.size w2 W → W.cell? ⟨g, a * 7 + 5, none⟩ = some (.int .i64 tk) ∧ W.cell? ⟨g, a * 7 + 6, none⟩ = some (.int .i64 (lk.getD a od0).ar) ∧ (W.frozen? ⟨g, a * 7 + 5, none⟩ = false ∧ W.frozen? ⟨g, a * 7 + 6, none⟩ = false)) := fun W hW => by
      have hr := HRW.out W hW
      refine ⟨?_, ?_, hr.frozenAt _, hr.frozenAt _⟩
      · rw [hr.cellAt (a * 7 + 5) (by omega), odC_at lk a HAL.out 5 (by decide), htk]; rfl
      · rw [hr.cellAt (a * 7 + 6) (by omega), odC_at lk a HAL.out 6 (by decide)]; rfl
    have HPT : Hid (∀ W, Below w2.heap.size w2 W → tookT l ts (k + 1) = (0, tookA lk ⟨xo, xb, xr, xd, xt, xc⟩) → ((W.setCell ⟨g, a * 7 + 5, none⟩ (.int .i64 (tk + xt))).setCell ⟨g, a * 7 + 6, none⟩ (.int .i64 xc)).ownsRow w.heap.size 39 7 (.slice (some ⟨g, 0, none⟩) n cp) n ((tookT l ts (k + 1)).2.flatMap odC) ∧ ((W.setCell ⟨g, a * 7 + 6, none⟩ (.int .i64 xc)).setCell ⟨g, a * 7 + 5, none⟩ (.int .i64 (tk + xt))).ownsRow w.heap.size 39 7 (.slice (some ⟨g, 0, none⟩) n cp) n ((tookT l ts (k + 1)).2.flatMap odC)) := fun W hW he => by
      have hp := odC_put lk a HAL.out (tk + xt) xc
      rw [he, HTA.out]
      dsimp only
      rw [← hp.1]
      constructor
      · exact own_put (own_put (HRW.out W hW) _ _) _ _
      · rw [hp.1, ← hp.2]
        exact own_put (own_put (HRW.out W hW) _ _) _ _
    have y2 := y.t hb3
    have G : Hid (∀ W, Below w2.heap.size w2 W → Below w2.heap.size w2 W ∧ W.cell? ⟨g, a * 7 + 5, none⟩ = some (.int .i64 tk) ∧ W.cell? ⟨wr.heap.size, 4, none⟩ = some (.int .i64 xt)) := fun W hW => ⟨hW, (HY5.out W hW).1, (y2.t hW).cell 4⟩
    have HYB := Lib.hid y2
    have v1 : decide ((a : Int) < 0) = false := by simp
    have k0 : (0 : Int) ≤ (a : Int) := by omega
    have k1 : (a : Int) < (n : Int) := by omega
    have k2 : ((a : Int)).toNat = a := by omega
    clear ha hal htk y2
    by_cases h3 : mrB tk = true ∧ mrB xt = true ∧ mrB (tk + xt) = true
    case neg =>
      have KA := Lib.hid (fun W => add_f tk xt W h3)
      have HF := Lib.hid (fun W hW => HX.out 10 (by rw [HTX.out, if_pos h3]) (by decide) W hW)
      clear h3
      go_wp2_with fail
      go_region_held3 (fun W => Below w2.heap.size w2 W ∧ W.cell? ⟨g, a * 7 + 5, none⟩ = some (.int .i64 tk) ∧ W.cell? ⟨wr.heap.size, 4, none⟩ = some (.int .i64 xt))
        (first | assumption | exact G.out _ (b0 _).drew | (exact sK G.out (by assumption) (by assumption)))
        (first | (go_at_call 46; (with_reducible refine (KA.out _).mono ?_); rintro e w3 ⟨rfl, hb4⟩))
      all_goals
        have hbz := bT HB3.out (show Below w2.heap.size w2 _ ∧ _ from by assumption).1
        go_wp2_with fail
        go_ret
        exact HF.out _ hbz
    have KA := Lib.hid (fun W => add_t tk xt W h3.1 h3.2.1 h3.2.2)
    have h3s := mr_iff.1 h3.2.2
    obtain ⟨s1, s2⟩ := h3s
    obtain ⟨mc, hmc⟩ : ∃ b, mrB xc = b := ⟨_, rfl⟩
    have HTX2 : Hid (tookX lk ⟨xo, xb, xr, xd, xt, xc⟩ = if mc = false then 10 else 0) := by rw [HTX.out, if_neg (fun h => h h3), hmc]; rfl
    have KR := Lib.hid (fun b W h => right1 b 0 1 xc W h)
    rw [hmc] at KR
    clear h3 hmc HTX
    go_wp2_with fail
    go_region_held3 (fun W => Below w2.heap.size w2 W ∧ W.cell? ⟨g, a * 7 + 5, none⟩ = some (.int .i64 tk) ∧ W.cell? ⟨wr.heap.size, 4, none⟩ = some (.int .i64 xt))
      (first | assumption | exact G.out _ (b0 _).drew | (exact sK G.out (by assumption) (by assumption)))
      (first | (go_at_call 46; (with_reducible refine (KA.out _).mono ?_); rintro e w3 ⟨rfl, hb4⟩))
    all_goals
      have hbw := (show Below w2.heap.size w2 _ ∧ _ from by assumption).1
      have y3 := HYB.out.t hbw
      have x5 := y3.cell 5
      have hbz := bT HB3.out hbw
      have HBW := Lib.hid hbw
      clear y3 hbw
      go_wp2_with fail
      refine (KR.out _ _ (by simp [cell_alloc])).mono ?_
      rintro e w4 ⟨rfl, rfl⟩
      cases mc
      · have HF := Lib.hid (HX.out 10 (by rw [HTX2.out, if_pos rfl]) (by decide) _ (bA hbz (.cells #[.int .i64 xc] 2)))
        go_wp2_with fail
        go_ret
        exact HF.out
      · have HGX := Lib.hid (HG.out (by rw [HTX2.out, if_neg (by decide)]))
        have hbq := bA HBW.out (.cells #[.int .i64 xc] 2)
        have HQ := Lib.hid (HPT.out _ hbq HGX.out)
        have HBQ := Lib.hid (bA hbz (.cells #[.int .i64 xc] 2))
        obtain ⟨f5, f6, g5, g6⟩ := HY5.out _ hbq
        have x6 := (HYB.out.t hbq).cell 5
        clear x5
        have gne : ¬ g = wr.heap.size := by omega
        have gne2 : ¬ wr.heap.size = g := by omega
        clear hbq
        go_wp2_with fail
        go_region
        all_goals
          go_wp2_with fail
          go_roundw
          case rel => exact ⟨k + 1, by omega, by go_num, (by show (tookT l ts (k + 1)).1 = 0; rw [HGX.out]), (by first | exact HQ.out.1 | exact HQ.out.2), (bS (p := ⟨g, _, none⟩) (bS (p := ⟨g, _, none⟩) HBQ.out hgb _) hgb _).drew⟩
          case measure => simp [intOf]; omega
--%%
end Go.Proofs.YtfhbnojhmeodiaaDoor
