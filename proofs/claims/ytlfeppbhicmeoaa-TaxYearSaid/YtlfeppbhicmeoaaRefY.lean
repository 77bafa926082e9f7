/-
  Contract of the document's answer for tax over a year. Conditions as named.
-/
import Derived.Test.YtlfeppbhicmeoaaRefT2
import Derived.Test.YtlfeppbhicmeoaaTax5
import Derived.Deep.RegionHeld3
namespace Go.Proofs.Ytlfeppbhicmeoaa
set_option linter.unusedVariables false
open Go.RowKit
def cdC (z : Cd) : List Value := [.int .i64 z.s, .int .i64 z.k, .int .i64 z.a, .int .i64 z.f, .bool z.al]
theorem cdC_len (z : Cd) : (cdC z).length = 5 := rfl
def cd0 : Cd := ⟨0, 0, 0, 0, false⟩
abbrev CdSl := RowSl cdC 5 cd0
theorem cK {W W1 : World} (hb : Below W.heap.size W W1) {a : Addr} {v : Value} (h : W.cell? a = some v) : W1.cell? a = some v := (hb.cell (World.block_lt_of_cell? W _ h)).trans h
/-- what a period's due is reckoned without an error tells -/
theorem yE_zero {sch : List (List Bd)} {rnd nom : Int} {l : List St} {k : Nat} (h : yE sch rnd nom l k = 0) :
    mrB (sumX l k) = true ∧ mrB (l.getD k st0).x = true ∧ mrB (sumX l (k + 1)) = true ∧ nextE sch rnd nom ((k : Int) + 1) (l.getD k st0) (sumX l k + (l.getD k st0).x) (dueA sch rnd nom l k) = 0 := by
  unfold yE at h
  by_cases h1 : mrB (sumX l k) = true ∧ mrB (l.getD k st0).x = true ∧ mrB (sumX l k + (l.getD k st0).x) = true
  · rw [if_pos h1] at h
    exact ⟨h1.1, h1.2.1, h1.2.2, h⟩
  · rw [if_neg h1] at h; cases h
theorem dueL_get (sch : List (List Bd)) (rnd nom : Int) (l : List St) (n k : Nat) (h : k < n) : (dueL sch rnd nom l n).getD k 0 = dueA sch rnd nom l (k + 1) := by simp [dueL, List.getD, h]
theorem map_getD {α β : Type} (f : α → β) (l : List α) (k : Nat) (d : α) (d' : β) (h : k < l.length) : (l.map f).getD k d' = f (l.getD k d) := by simp [List.getD, List.getElem?_eq_getElem h]
--%%
theorem app_one {w wr w1 : World} {A : Option Addr} {k c : Nat} {dl : List Int} {tb : Array Value} {tt : TypeId} (dn : Int) (hbl : Below w.heap.size w wr) (hb1 : Below wr.heap.size wr w1) (ho : wr.ownsRow w.heap.size 2 1 (.slice A k c) k (dl.map (Value.int .i64))) (hk : k ≤ 100000) (z : Blk wr w.heap.size tt tb) (ht : 2 ≠ tt) :
    ∃ v' w7, (Builtin.append_ #[28, 28] 28 #[.slice A k c, .slice (some ⟨w1.heap.size, 0, none⟩) 1 1]).run Try.prog (w1.alloc (.cells #[.int .i64 dn] 2)) = .ok v' w7 ∧ w7.ownsRow w.heap.size 2 1 v' (k + 1) ((dl ++ [dn]).map (Value.int .i64)) ∧ Below w.heap.size w w7 ∧ Blk w7 w.heap.size tt tb := by
  have hB := bT hbl hb1
  have hs := hB.size
  have ho1 := own_below ho hb1
  have z1 := z.t hb1
  obtain ⟨v', w7, hr, ho7, hg⟩ := run_app1 (P := Try.prog) w1 28 28 2 (.int .i64 0) 1 8 Try.underlying28 info_i64 rfl (by decide) ho1 #[.int .i64 dn] rfl (by simp [Value.oneCell']) (by omega) (by omega) hs
  exact ⟨v', w7, hr, by simpa using ho7, bP hB ho1 hg (Nat.le_refl _), z1.grown hg (own_blk ho1 z1 ht)⟩
def RYearR (L : List Int) (n : Nat) (w : World) (e : Ending) (w' : World) : Prop := (∃ v, e = .returned v ∧ OwnI w' w.heap.size v n L) ∧ Below w.heap.size w w'
set_option maxRecDepth 100000 in
set_option maxHeartbeats 6400000 in
theorem rtyear_c (sch : List (List Bd)) (As Ac Ak Ad Ax : Option Addr) (ns cs nc cc nk ck n cd cx : Nat) (lim rnd nom : Int) (hnom : 1 ≤ nom ∧ nom ≤ 1000) (l : List St) (w : World) (hs : ScSl w As ns sch) (hok : ∀ k, k < ns → bandsErr (sch.getD k []) = 0) (hm : modeB rnd = true) (hd : CdSl w Ad n (l.map (·.c))) (hx : I64Sl w Ax n (l.map (·.x))) (hn2 : n ≤ 1000) (hy : ∀ k, k < n → yE sch rnd nom l k = 0) :
    Calls Try.prog 28 #[.agg #[.slice As ns cs, .slice Ac nc cc, .slice Ak nk ck, .int .i64 lim, .int .i64 rnd], .int .i64 nom, .slice Ad n cd, .slice Ax n cx] w (RYearR (dueL sch rnd nom l n) n w) := by
  have hb0 := below1 w (.cells #[.slice As ns cs, .slice Ac nc cc, .slice Ak nk ck, .int .i64 lim, .int .i64 rnd] 26)
  have z0 := Blk.mk w 26 #[.slice As ns cs, .slice Ac nc cc, .slice Ak nk ck, .int .i64 lim, .int .i64 rnd]
  have KD := Lib.hid (fun s k a f al tx n d W h hr v hv => rtdue_c sch As Ac Ak ns cs nc cc nk ck lim rnd s k a f al tx n d W h hok hm hr v hv)
  have HS := Lib.hid hs
  have HD := Lib.hid hd
  have HX := Lib.hid hx
  have HY := Lib.hid hy
  have HLN : Hid (n = l.length) := by have := hd.1; rw [List.length_map] at this; exact this
  obtain ⟨hnom0, hnom1⟩ := hnom
  clear hs hok hm hd hx hy
  go_enter Try.func28, Try.ntmps28
  go_wp2_with fail
  go_loopw [9, 10] (fun v i wr => ∃ k : Nat, k ≤ n ∧ i = .int .i64 k ∧ OwnI wr w.heap.size v k (dueL sch rnd nom l k) ∧ Below w.heap.size w wr ∧ Blk wr w.heap.size 26 #[.slice As ns cs, .slice Ac nc cc, .slice Ak nk ck, .int .i64 lim, .int .i64 rnd]) (fun _ i _ => n - (intOf i).toNat)
  case atStart => exact ⟨0, Nat.zero_le _, rfl, ⟨rfl, World.ownsRow_nil _ _ _ _⟩, hb0, z0⟩
  case round =>
    obtain ⟨k, hk', rfl, ho, hbl, z⟩ := hrel
    by_cases hk : k < n
    case neg =>
      obtain rfl : k = n := by omega
      have HO := Lib.hid ho
      clear ho
      go_wp2_with fail
      go_ret
      exact ⟨⟨_, rfl, HO.out⟩, hbl⟩
    have hb9 := hbl.size
    obtain ⟨bd, od, rfl, hltd, hatd⟩ := HD.out.2.2 (by omega)
    obtain ⟨bx, ox, rfl, hltx, hatx⟩ := HX.out.2.2 (by omega)
    have hcd := hatd k hk
    have hcx := hatx k hk
    rw [map_getD (·.c) l k st0 cd0 (by rw [← HLN.out]; exact hk)] at hcd
    rw [map_getD (·.x) l k st0 0 (by rw [← HLN.out]; exact hk)] at hcx
    obtain ⟨ye1, ye2, ye3, ye4⟩ := yE_zero (HY.out k hk)
    have HSX : Hid (sumX l (k + 1) = sumX l k + (l.getD k st0).x) := rfl
    have HDA : Hid (dueA sch rnd nom l (k + 1) = nextV sch rnd nom ((k : Int) + 1) (l.getD k st0) (sumX l k + (l.getD k st0).x) (dueA sch rnd nom l k)) := rfl
    have HDL := Lib.hid (dueL_snoc sch rnd nom l k)
    have HSUM : Hid (∀ j, j < k + 1 → sumX l (j + 1) = sumX l j + (l.getD j st0).x ∧ mrB (sumX l (j + 1)) = true) := fun j hj => ⟨rfl, (yE_zero (HY.out j (by omega))).2.2.1⟩
    have HTX : Hid (∀ j, j < k + 1 → w.cell? ⟨bx, ox + j, none⟩ = some (.int .i64 (l.getD j st0).x)) := fun j hj => by
      have := hatx j (by omega)
      rwa [map_getD (·.x) l j st0 0 (by rw [← HLN.out]; omega)] at this
    have HPV : Hid (0 < k → (dueL sch rnd nom l k).getD (k - 1) 0 = dueA sch rnd nom l k) := fun h0 => by
      rw [dueL_get _ _ _ _ _ _ (by omega), show k - 1 + 1 = k by omega]
    have HD0 : Hid (k = 0 → dueA sch rnd nom l k = 0) := fun h0 => by subst h0; rfl
    rw [HSX.out] at ye3
    rw [← HSX.out] at ye4 HDA
    generalize hzz : l.getD k st0 = zz at *
    have HZZ := Lib.hid hzz
    clear hzz hatd hatx
    obtain ⟨⟨s, kd, a, f, al⟩, x⟩ := zz
    dsimp only at ye2 ye3 HSX hcx
    have hcells : ∀ W, Below w.heap.size w W → (W.cell? ⟨bd, od + k * 5, none⟩ = some (.int .i64 s) ∧ W.cell? ⟨bd, od + k * 5 + 1, none⟩ = some (.int .i64 kd) ∧ W.cell? ⟨bd, od + k * 5 + 2, none⟩ = some (.int .i64 a) ∧ W.cell? ⟨bd, od + k * 5 + 3, none⟩ = some (.int .i64 f) ∧ W.cell? ⟨bd, od + k * 5 + 4, none⟩ = some (.bool al)) ∧ W.cell? ⟨bx, ox + k, none⟩ = some (.int .i64 x) := fun W hW =>
      ⟨⟨(hW.cell (p := ⟨bd, _, none⟩) hltd).trans (hcd 0 _ rfl), (hW.cell (p := ⟨bd, _, none⟩) hltd).trans (hcd 1 _ rfl), (hW.cell (p := ⟨bd, _, none⟩) hltd).trans (hcd 2 _ rfl), (hW.cell (p := ⟨bd, _, none⟩) hltd).trans (hcd 3 _ rfl), (hW.cell (p := ⟨bd, _, none⟩) hltd).trans (hcd 4 _ rfl)⟩, (hW.cell (p := ⟨bx, _, none⟩) hltx).trans hcx⟩
    have HCE := Lib.hid hcells
    clear hcells hcd hcx
    have kk1 : IntKind.i64.wrap ((k : Int) + 1) = (k : Int) + 1 := by rw [IntKind.wrap_i64]; omega
    have kk2 : 0 ≤ (k : Int) + 1 := by omega
    have kk5 : ((k : Int)).toNat = k := by omega
    have HO := Lib.hid ho.2
    have HO1 := Lib.hid ho.1
    obtain ⟨A2, c2, rfl, hle2, hosl⟩ := ho.sl
    clear ho
    cases al
    · -- of all that was taxable so far
      have hN : nextV sch rnd nom ((k : Int) + 1) ⟨⟨s, kd, a, f, false⟩, x⟩ (sumX l (k + 1)) (dueA sch rnd nom l k) = dueV sch rnd ⟨s, kd, a, f, false⟩ (sumX l (k + 1)) (min ((k : Int) + 1) nom) nom := rfl
      have hE : exE sch ⟨s, kd, a, f, false⟩ (sumX l (k + 1)) (min ((k : Int) + 1) nom) nom = 0 := ye4
      have KD1 := Lib.hid (fun W h => KD.out s kd a f false (sumX l (k + 1)) (min ((k : Int) + 1) nom) nom W h hE _ rfl)
      rw [← hN, ← HDA.out] at KD1
      have HSZ : Hid (sumX l 0 = 0) := rfl
      clear hN hE ye4 hosl HPV HD0 ye1 ye2 ye3
      generalize dueA sch rnd nom l (k + 1) = dn at *
      generalize dueL sch rnd nom l k = dl at *
      obtain ⟨⟨c0, c1, c2, c3, c4⟩, cx0⟩ := HCE.out wr hbl
      go_wp2_with fail
      go_loop [12, 13] (fun sm j => ∃ q : Nat, q ≤ k + 1 ∧ j = .int .i64 q ∧ sm = .int .i64 (sumX l q)) (fun _ j => k + 1 - (intOf j).toNat)
      case atStart => exact ⟨0, Nat.zero_le _, rfl, by rw [HSZ.out]⟩
      case round =>
        obtain ⟨q, hq', rfl, rfl⟩ := hrel
        by_cases hq : q < k + 1
        · obtain ⟨h1, h2⟩ := HSUM.out q hq
          have h3 := (hbl.cell (p := ⟨bx, ox + q, none⟩) hltx).trans (HTX.out q hq)
          have h4 := mr_iff.1 h2
          rw [h1] at h4
          have HQ := Lib.hid h1
          have hle : (q : Int) ≤ (k : Int) := by omega
          have hqn : (q : Int) < (n : Int) := by omega
          have hq0 : ((q : Int)).toNat = q := by omega
          clear h1 h2
          generalize sumX l q = sq at *
          generalize (l.getD q st0).x = xq at *
          go_wp2_with fail
          go_round
          case rel => exact ⟨q + 1, by omega, by go_num, by rw [HQ.out]⟩
          case measure => simp [intOf]; omega
        obtain rfl : q = k + 1 := by omega
        have hle : decide (((k + 1 : Nat) : Int) ≤ (k : Int)) = false := by simp; omega
        have hgt : decide ((k : Int) + 1 ≤ (k : Int)) = false := by simp; omega
        generalize sumX l (k + 1) = sq at *
        obtain ⟨mj, hmj⟩ : ∃ mj, mj = min ((k : Int) + 1) nom := ⟨_, rfl⟩
        rw [← hmj] at KD1
        by_cases hn : nom < (k : Int) + 1
        · have hv : mj = nom := by omega
          subst hv
          have vn : decide (mj < (k : Int) + 1) = true := by simpa using hn
          clear hmj hn
          have HAPP := Lib.hid (fun w1 (h : Below wr.drew.heap.size wr.drew w1) => app_one dn hbl (bT (b0 wr).drew h) HO.out (by omega) z (by decide))
          have G : Hid (∀ W, Below wr.heap.size wr W → Below w.heap.size w W ∧ (W.cell? ⟨w.heap.size, 0, none⟩ = some (.slice As ns cs) ∧ W.cell? ⟨w.heap.size, 1, none⟩ = some (.slice Ac nc cc) ∧ W.cell? ⟨w.heap.size, 2, none⟩ = some (.slice Ak nk ck) ∧ W.cell? ⟨w.heap.size, 3, none⟩ = some (.int .i64 lim) ∧ W.cell? ⟨w.heap.size, 4, none⟩ = some (.int .i64 rnd)) ∧ (W.cell? ⟨bd, od + k * 5, none⟩ = some (.int .i64 s) ∧ W.cell? ⟨bd, od + k * 5 + 1, none⟩ = some (.int .i64 kd) ∧ W.cell? ⟨bd, od + k * 5 + 2, none⟩ = some (.int .i64 a) ∧ W.cell? ⟨bd, od + k * 5 + 3, none⟩ = some (.int .i64 f) ∧ W.cell? ⟨bd, od + k * 5 + 4, none⟩ = some (.bool false)) ∧ W.cell? ⟨bx, ox + k, none⟩ = some (.int .i64 x)) := fun W hW => ⟨bT hbl hW, (z.t hW).all5, HCE.out W (bT hbl hW)⟩
          go_wp2_with fail
          go_region_held3 (fun W => Below w.heap.size w W ∧ (W.cell? ⟨w.heap.size, 0, none⟩ = some (.slice As ns cs) ∧ W.cell? ⟨w.heap.size, 1, none⟩ = some (.slice Ac nc cc) ∧ W.cell? ⟨w.heap.size, 2, none⟩ = some (.slice Ak nk ck) ∧ W.cell? ⟨w.heap.size, 3, none⟩ = some (.int .i64 lim) ∧ W.cell? ⟨w.heap.size, 4, none⟩ = some (.int .i64 rnd)) ∧ (W.cell? ⟨bd, od + k * 5, none⟩ = some (.int .i64 s) ∧ W.cell? ⟨bd, od + k * 5 + 1, none⟩ = some (.int .i64 kd) ∧ W.cell? ⟨bd, od + k * 5 + 2, none⟩ = some (.int .i64 a) ∧ W.cell? ⟨bd, od + k * 5 + 3, none⟩ = some (.int .i64 f) ∧ W.cell? ⟨bd, od + k * 5 + 4, none⟩ = some (.bool false)) ∧ W.cell? ⟨bx, ox + k, none⟩ = some (.int .i64 x))
            (first | assumption | exact G.out _ (b0 _).drew | (exact G.out _ (bT (b0 _).drew (by assumption))) | (exact G.out _ (bA (bT (b0 _).drew (by assumption)) _)))
            (first
              | (go_at_call 59; (with_reducible refine (KD1.out _ (HS.out.below (show Below w.heap.size w _ ∧ _ from by assumption).1)).mono ?_); rintro e w1 ⟨rfl, hb1⟩)
              | (obtain ⟨v', w7, hrun, ho7, hb7, hz7⟩ := HAPP.out w1 hb1; have hS7 : (fun W => Below w.heap.size w W ∧ (W.cell? ⟨w.heap.size, 0, none⟩ = some (.slice As ns cs) ∧ W.cell? ⟨w.heap.size, 1, none⟩ = some (.slice Ac nc cc) ∧ W.cell? ⟨w.heap.size, 2, none⟩ = some (.slice Ak nk ck) ∧ W.cell? ⟨w.heap.size, 3, none⟩ = some (.int .i64 lim) ∧ W.cell? ⟨w.heap.size, 4, none⟩ = some (.int .i64 rnd)) ∧ (W.cell? ⟨bd, od + k * 5, none⟩ = some (.int .i64 s) ∧ W.cell? ⟨bd, od + k * 5 + 1, none⟩ = some (.int .i64 kd) ∧ W.cell? ⟨bd, od + k * 5 + 2, none⟩ = some (.int .i64 a) ∧ W.cell? ⟨bd, od + k * 5 + 3, none⟩ = some (.int .i64 f) ∧ W.cell? ⟨bd, od + k * 5 + 4, none⟩ = some (.bool false)) ∧ W.cell? ⟨bx, ox + k, none⟩ = some (.int .i64 x)) w7 := ⟨hb7, hz7.all5, HCE.out w7 hb7⟩; refine step_of_run rfl _ _ _ rfl _ _ rfl rfl _ _ hrun ?_))
          all_goals
            go_wp2_with fail
            go_roundw
            case rel =>
              refine ⟨k + 1, by omega, by go_num, ⟨?_, ?_⟩, hb7, hz7⟩
              · rw [HDL.out]; simp [← HO1.out]
              · rw [HDL.out]; exact ho7
            case measure => simp [intOf]; omega
        · have hv : mj = (k : Int) + 1 := by omega
          subst hv
          have vn : decide (nom < (k : Int) + 1) = false := by simpa using hn
          clear hmj hn
          have HAPP := Lib.hid (fun w1 (h : Below wr.drew.heap.size wr.drew w1) => app_one dn hbl (bT (b0 wr).drew h) HO.out (by omega) z (by decide))
          have G : Hid (∀ W, Below wr.heap.size wr W → Below w.heap.size w W ∧ (W.cell? ⟨w.heap.size, 0, none⟩ = some (.slice As ns cs) ∧ W.cell? ⟨w.heap.size, 1, none⟩ = some (.slice Ac nc cc) ∧ W.cell? ⟨w.heap.size, 2, none⟩ = some (.slice Ak nk ck) ∧ W.cell? ⟨w.heap.size, 3, none⟩ = some (.int .i64 lim) ∧ W.cell? ⟨w.heap.size, 4, none⟩ = some (.int .i64 rnd)) ∧ (W.cell? ⟨bd, od + k * 5, none⟩ = some (.int .i64 s) ∧ W.cell? ⟨bd, od + k * 5 + 1, none⟩ = some (.int .i64 kd) ∧ W.cell? ⟨bd, od + k * 5 + 2, none⟩ = some (.int .i64 a) ∧ W.cell? ⟨bd, od + k * 5 + 3, none⟩ = some (.int .i64 f) ∧ W.cell? ⟨bd, od + k * 5 + 4, none⟩ = some (.bool false)) ∧ W.cell? ⟨bx, ox + k, none⟩ = some (.int .i64 x)) := fun W hW => ⟨bT hbl hW, (z.t hW).all5, HCE.out W (bT hbl hW)⟩
          go_wp2_with fail
          go_region_held3 (fun W => Below w.heap.size w W ∧ (W.cell? ⟨w.heap.size, 0, none⟩ = some (.slice As ns cs) ∧ W.cell? ⟨w.heap.size, 1, none⟩ = some (.slice Ac nc cc) ∧ W.cell? ⟨w.heap.size, 2, none⟩ = some (.slice Ak nk ck) ∧ W.cell? ⟨w.heap.size, 3, none⟩ = some (.int .i64 lim) ∧ W.cell? ⟨w.heap.size, 4, none⟩ = some (.int .i64 rnd)) ∧ (W.cell? ⟨bd, od + k * 5, none⟩ = some (.int .i64 s) ∧ W.cell? ⟨bd, od + k * 5 + 1, none⟩ = some (.int .i64 kd) ∧ W.cell? ⟨bd, od + k * 5 + 2, none⟩ = some (.int .i64 a) ∧ W.cell? ⟨bd, od + k * 5 + 3, none⟩ = some (.int .i64 f) ∧ W.cell? ⟨bd, od + k * 5 + 4, none⟩ = some (.bool false)) ∧ W.cell? ⟨bx, ox + k, none⟩ = some (.int .i64 x))
            (first | assumption | exact G.out _ (b0 _).drew | (exact G.out _ (bT (b0 _).drew (by assumption))) | (exact G.out _ (bA (bT (b0 _).drew (by assumption)) _)))
            (first
              | (go_at_call 59; (with_reducible refine (KD1.out _ (HS.out.below (show Below w.heap.size w _ ∧ _ from by assumption).1)).mono ?_); rintro e w1 ⟨rfl, hb1⟩)
              | (obtain ⟨v', w7, hrun, ho7, hb7, hz7⟩ := HAPP.out w1 hb1; have hS7 : (fun W => Below w.heap.size w W ∧ (W.cell? ⟨w.heap.size, 0, none⟩ = some (.slice As ns cs) ∧ W.cell? ⟨w.heap.size, 1, none⟩ = some (.slice Ac nc cc) ∧ W.cell? ⟨w.heap.size, 2, none⟩ = some (.slice Ak nk ck) ∧ W.cell? ⟨w.heap.size, 3, none⟩ = some (.int .i64 lim) ∧ W.cell? ⟨w.heap.size, 4, none⟩ = some (.int .i64 rnd)) ∧ (W.cell? ⟨bd, od + k * 5, none⟩ = some (.int .i64 s) ∧ W.cell? ⟨bd, od + k * 5 + 1, none⟩ = some (.int .i64 kd) ∧ W.cell? ⟨bd, od + k * 5 + 2, none⟩ = some (.int .i64 a) ∧ W.cell? ⟨bd, od + k * 5 + 3, none⟩ = some (.int .i64 f) ∧ W.cell? ⟨bd, od + k * 5 + 4, none⟩ = some (.bool false)) ∧ W.cell? ⟨bx, ox + k, none⟩ = some (.int .i64 x)) w7 := ⟨hb7, hz7.all5, HCE.out w7 hb7⟩; refine step_of_run rfl _ _ _ rfl _ _ rfl rfl _ _ hrun ?_))
          all_goals
            go_wp2_with fail
            go_roundw
            case rel =>
              refine ⟨k + 1, by omega, by go_num, ⟨?_, ?_⟩, hb7, hz7⟩
              · rw [HDL.out]; simp [← HO1.out]
              · rw [HDL.out]; exact ho7
            case measure => simp [intOf]; omega
    · -- what was due ahead of it, and its own
      have hN : nextV sch rnd nom ((k : Int) + 1) ⟨⟨s, kd, a, f, true⟩, x⟩ (sumX l (k + 1)) (dueA sch rnd nom l k) = dueA sch rnd nom l k + dueV sch rnd ⟨s, kd, a, f, true⟩ x 1 nom := rfl
      have ye5 : (if exE sch ⟨s, kd, a, f, true⟩ x 1 nom ≠ 0 then exE sch ⟨s, kd, a, f, true⟩ x 1 nom else if mrB (dueA sch rnd nom l k) = true ∧ mrB (dueV sch rnd ⟨s, kd, a, f, true⟩ x 1 nom) = true ∧ mrB (dueA sch rnd nom l k + dueV sch rnd ⟨s, kd, a, f, true⟩ x 1 nom) = true then 0 else 10) = 0 := ye4
      by_cases hE : exE sch ⟨s, kd, a, f, true⟩ x 1 nom = 0
      case neg => rw [if_pos hE] at ye5; exact absurd ye5 hE
      rw [if_neg (by simpa using hE)] at ye5
      have KD1 := Lib.hid (fun W h => KD.out s kd a f true x 1 nom W h hE _ rfl)
      have hDA := HDA.out.trans hN
      clear ye4 hN hE ye1 ye2 ye3 HSUM HTX
      generalize dueV sch rnd ⟨s, kd, a, f, true⟩ x 1 nom = ov at *
      by_cases h2 : mrB (dueA sch rnd nom l k) = true ∧ mrB ov = true ∧ mrB (dueA sch rnd nom l k + ov) = true
      case neg => rw [if_neg h2] at ye5; cases ye5
      have hah := mr_iff.1 h2.1
      have hov := mr_iff.1 h2.2.1
      have hsum := mr_iff.1 h2.2.2
      have hwr : IntKind.i64.wrap (dueA sch rnd nom l k + ov) = dueA sch rnd nom l k + ov := by rw [IntKind.wrap_i64]; omega
      clear ye5 h2
      obtain ⟨⟨c0, c1, c2, c3, c4⟩, cx0⟩ := HCE.out wr hbl
      by_cases hk0 : k = 0
      · have h0 := HD0.out hk0
        rw [h0, Int.zero_add] at hDA
        have v0 : decide ((0 : Int) < (k : Int)) = false := by simp; omega
        have v00 : decide (0 < k) = false := by simp; omega
        have v000 : ¬ 0 < k := by omega
        have hw0 : IntKind.i64.wrap ov = ov := by rw [IntKind.wrap_i64]; omega
        clear HD0 HPV hosl h0 hah hsum hwr hk0
        have HDA2 := Lib.hid hDA
        clear hDA HDA
        rw [HDA2.out] at HDL
        clear HDA2
        generalize dueL sch rnd nom l k = dl at *
        have HAPP := Lib.hid (fun w1 (h : Below wr.drew.heap.size wr.drew w1) => app_one ov hbl (bT (b0 wr).drew h) HO.out (by omega) z (by decide))
        have G : Hid (∀ W, Below wr.heap.size wr W → Below w.heap.size w W ∧ (W.cell? ⟨w.heap.size, 0, none⟩ = some (.slice As ns cs) ∧ W.cell? ⟨w.heap.size, 1, none⟩ = some (.slice Ac nc cc) ∧ W.cell? ⟨w.heap.size, 2, none⟩ = some (.slice Ak nk ck) ∧ W.cell? ⟨w.heap.size, 3, none⟩ = some (.int .i64 lim) ∧ W.cell? ⟨w.heap.size, 4, none⟩ = some (.int .i64 rnd)) ∧ (W.cell? ⟨bd, od + k * 5, none⟩ = some (.int .i64 s) ∧ W.cell? ⟨bd, od + k * 5 + 1, none⟩ = some (.int .i64 kd) ∧ W.cell? ⟨bd, od + k * 5 + 2, none⟩ = some (.int .i64 a) ∧ W.cell? ⟨bd, od + k * 5 + 3, none⟩ = some (.int .i64 f) ∧ W.cell? ⟨bd, od + k * 5 + 4, none⟩ = some (.bool true)) ∧ W.cell? ⟨bx, ox + k, none⟩ = some (.int .i64 x)) := fun W hW => ⟨bT hbl hW, (z.t hW).all5, HCE.out W (bT hbl hW)⟩
        go_wp2_with fail
        go_region_held3 (fun W => Below w.heap.size w W ∧ (W.cell? ⟨w.heap.size, 0, none⟩ = some (.slice As ns cs) ∧ W.cell? ⟨w.heap.size, 1, none⟩ = some (.slice Ac nc cc) ∧ W.cell? ⟨w.heap.size, 2, none⟩ = some (.slice Ak nk ck) ∧ W.cell? ⟨w.heap.size, 3, none⟩ = some (.int .i64 lim) ∧ W.cell? ⟨w.heap.size, 4, none⟩ = some (.int .i64 rnd)) ∧ (W.cell? ⟨bd, od + k * 5, none⟩ = some (.int .i64 s) ∧ W.cell? ⟨bd, od + k * 5 + 1, none⟩ = some (.int .i64 kd) ∧ W.cell? ⟨bd, od + k * 5 + 2, none⟩ = some (.int .i64 a) ∧ W.cell? ⟨bd, od + k * 5 + 3, none⟩ = some (.int .i64 f) ∧ W.cell? ⟨bd, od + k * 5 + 4, none⟩ = some (.bool true)) ∧ W.cell? ⟨bx, ox + k, none⟩ = some (.int .i64 x))
          (first | assumption | exact G.out _ (b0 _).drew | (exact G.out _ (bT (b0 _).drew (by assumption))) | (exact G.out _ (bA (bT (b0 _).drew (by assumption)) _)))
          (first
            | (go_at_call 59; (with_reducible refine (KD1.out _ (HS.out.below (show Below w.heap.size w _ ∧ _ from by assumption).1)).mono ?_); rintro e w1 ⟨rfl, hb1⟩)
            | (obtain ⟨v', w7, hrun, ho7, hb7, hz7⟩ := HAPP.out w1 hb1; have hS7 : (fun W => Below w.heap.size w W ∧ (W.cell? ⟨w.heap.size, 0, none⟩ = some (.slice As ns cs) ∧ W.cell? ⟨w.heap.size, 1, none⟩ = some (.slice Ac nc cc) ∧ W.cell? ⟨w.heap.size, 2, none⟩ = some (.slice Ak nk ck) ∧ W.cell? ⟨w.heap.size, 3, none⟩ = some (.int .i64 lim) ∧ W.cell? ⟨w.heap.size, 4, none⟩ = some (.int .i64 rnd)) ∧ (W.cell? ⟨bd, od + k * 5, none⟩ = some (.int .i64 s) ∧ W.cell? ⟨bd, od + k * 5 + 1, none⟩ = some (.int .i64 kd) ∧ W.cell? ⟨bd, od + k * 5 + 2, none⟩ = some (.int .i64 a) ∧ W.cell? ⟨bd, od + k * 5 + 3, none⟩ = some (.int .i64 f) ∧ W.cell? ⟨bd, od + k * 5 + 4, none⟩ = some (.bool true)) ∧ W.cell? ⟨bx, ox + k, none⟩ = some (.int .i64 x)) w7 := ⟨hb7, hz7.all5, HCE.out w7 hb7⟩; refine step_of_run rfl _ _ _ rfl _ _ rfl rfl _ _ hrun ?_))
        all_goals
          go_wp2_with fail
          go_roundw
          case rel =>
            refine ⟨k + 1, by omega, by go_num, ⟨?_, ?_⟩, hb7, hz7⟩
            · rw [HDL.out]; simp [← HO1.out]
            · rw [HDL.out]; exact ho7
          case measure => simp [intOf]; omega
      have hp := HPV.out (by omega)
      have d3 := hosl.2.2 (by omega)
      obtain ⟨b3, o3, rfl, hlt3, hat3⟩ := d3
      have e3 := hat3 (k - 1) (by omega)
      rw [hp] at e3
      rw [hDA] at HDL
      clear HD0 HPV hosl hp hat3 HDA hDA
      generalize dueA sch rnd nom l k = da at *
      generalize dueL sch rnd nom l k = dl at *
      have k1 : (0 : Int) < (k : Int) := by omega
      have k2 : ((k : Int) - 1).toNat = k - 1 := by omega
      have k3 : (0 : Int) ≤ (k : Int) - 1 := by omega
      have HAPP := Lib.hid (fun w1 (h : Below wr.drew.heap.size wr.drew w1) => app_one (da + ov) hbl (bT (b0 wr).drew h) HO.out (by omega) z (by decide))
      have G : Hid (∀ W, Below wr.heap.size wr W → Below w.heap.size w W ∧ (W.cell? ⟨w.heap.size, 0, none⟩ = some (.slice As ns cs) ∧ W.cell? ⟨w.heap.size, 1, none⟩ = some (.slice Ac nc cc) ∧ W.cell? ⟨w.heap.size, 2, none⟩ = some (.slice Ak nk ck) ∧ W.cell? ⟨w.heap.size, 3, none⟩ = some (.int .i64 lim) ∧ W.cell? ⟨w.heap.size, 4, none⟩ = some (.int .i64 rnd)) ∧ (W.cell? ⟨bd, od + k * 5, none⟩ = some (.int .i64 s) ∧ W.cell? ⟨bd, od + k * 5 + 1, none⟩ = some (.int .i64 kd) ∧ W.cell? ⟨bd, od + k * 5 + 2, none⟩ = some (.int .i64 a) ∧ W.cell? ⟨bd, od + k * 5 + 3, none⟩ = some (.int .i64 f) ∧ W.cell? ⟨bd, od + k * 5 + 4, none⟩ = some (.bool true)) ∧ W.cell? ⟨bx, ox + k, none⟩ = some (.int .i64 x)) := fun W hW => ⟨bT hbl hW, (z.t hW).all5, HCE.out W (bT hbl hW)⟩
      go_wp2_with fail
      go_region_held3 (fun W => Below w.heap.size w W ∧ (W.cell? ⟨w.heap.size, 0, none⟩ = some (.slice As ns cs) ∧ W.cell? ⟨w.heap.size, 1, none⟩ = some (.slice Ac nc cc) ∧ W.cell? ⟨w.heap.size, 2, none⟩ = some (.slice Ak nk ck) ∧ W.cell? ⟨w.heap.size, 3, none⟩ = some (.int .i64 lim) ∧ W.cell? ⟨w.heap.size, 4, none⟩ = some (.int .i64 rnd)) ∧ (W.cell? ⟨bd, od + k * 5, none⟩ = some (.int .i64 s) ∧ W.cell? ⟨bd, od + k * 5 + 1, none⟩ = some (.int .i64 kd) ∧ W.cell? ⟨bd, od + k * 5 + 2, none⟩ = some (.int .i64 a) ∧ W.cell? ⟨bd, od + k * 5 + 3, none⟩ = some (.int .i64 f) ∧ W.cell? ⟨bd, od + k * 5 + 4, none⟩ = some (.bool true)) ∧ W.cell? ⟨bx, ox + k, none⟩ = some (.int .i64 x))
        (first | assumption | exact G.out _ (b0 _).drew | (exact G.out _ (bT (b0 _).drew (by assumption))) | (exact G.out _ (bA (bT (b0 _).drew (by assumption)) _)))
        (first
          | (go_at_call 59; (with_reducible refine (KD1.out _ (HS.out.below (show Below w.heap.size w _ ∧ _ from by assumption).1)).mono ?_); rintro e w1 ⟨rfl, hb1⟩)
          | (obtain ⟨v', w7, hrun, ho7, hb7, hz7⟩ := HAPP.out w1 hb1; have hS7 : (fun W => Below w.heap.size w W ∧ (W.cell? ⟨w.heap.size, 0, none⟩ = some (.slice As ns cs) ∧ W.cell? ⟨w.heap.size, 1, none⟩ = some (.slice Ac nc cc) ∧ W.cell? ⟨w.heap.size, 2, none⟩ = some (.slice Ak nk ck) ∧ W.cell? ⟨w.heap.size, 3, none⟩ = some (.int .i64 lim) ∧ W.cell? ⟨w.heap.size, 4, none⟩ = some (.int .i64 rnd)) ∧ (W.cell? ⟨bd, od + k * 5, none⟩ = some (.int .i64 s) ∧ W.cell? ⟨bd, od + k * 5 + 1, none⟩ = some (.int .i64 kd) ∧ W.cell? ⟨bd, od + k * 5 + 2, none⟩ = some (.int .i64 a) ∧ W.cell? ⟨bd, od + k * 5 + 3, none⟩ = some (.int .i64 f) ∧ W.cell? ⟨bd, od + k * 5 + 4, none⟩ = some (.bool true)) ∧ W.cell? ⟨bx, ox + k, none⟩ = some (.int .i64 x)) w7 := ⟨hb7, hz7.all5, HCE.out w7 hb7⟩; refine step_of_run rfl _ _ _ rfl _ _ rfl rfl _ _ hrun ?_))
      all_goals
        go_wp2_with fail
        go_roundw
        case rel =>
          refine ⟨k + 1, by omega, by go_num, ⟨?_, ?_⟩, hb7, hz7⟩
          · rw [HDL.out]; simp [← HO1.out]
          · rw [HDL.out]; exact ho7
        case measure => simp [intOf]; omega
--%%
end Go.Proofs.Ytlfeppbhicmeoaa
