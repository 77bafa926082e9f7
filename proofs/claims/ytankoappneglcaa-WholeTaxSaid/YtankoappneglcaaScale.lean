/-
  Contract of band.Scale. Conditions as named.
-/
import Derived.Test.YtankoappneglcaaCode2
import Derived.Test.YtankoappneglcaaBand
namespace Go.Proofs.Ytankoappneglcaa
set_option linter.unusedVariables false
open Go.RowKit
def bdC (b : Bd) : List Value := [.int .i64 b.f, .int .i64 b.r, .int .i64 b.e]
def OwnB (w : World) (base : Nat) (v : Value) (n : Nat) (l : List Bd) : Prop := n = l.length ∧ w.ownsRow base 84 3 v n (l.flatMap bdC)
theorem bdC_len (x : Bd) : (bdC x).length = 3 := rfl
theorem OwnB.sl {w : World} {base : Nat} {v : Value} {n : Nat} {l : List Bd} (h : OwnB w base v n l) : ∃ A c, v = .slice A n c ∧ n ≤ c ∧ BandSl w A n l := by
  obtain ⟨hn, h⟩ := h
  obtain ⟨A, c, rfl, hc, h1, h2, h3⟩ := own_sl bdC 3 bd0 bdC_len h hn (by decide)
  refine ⟨A, c, rfl, hc, h1, h2, fun h0 => ?_⟩
  obtain ⟨b, off, hA, hlt, hat⟩ := h3 h0
  refine ⟨b, off, hA, hlt, fun k hk => ⟨?_, ?_, ?_⟩⟩
  · exact hat k (by omega) 0 _ rfl
  · exact hat k (by omega) 1 _ rfl
  · exact hat k (by omega) 2 _ rfl
theorem info_band : (Try.prog.info? 84).map (fun i => (i.zero, i.size, i.bytes)) = some (some (.agg #[.int .i64 0, .int .i64 0, .int .i64 0]), 3, 24) := by kernel_rfl
/-- one element less at the end of a row -/
theorem own_cut {w : World} {base size n cap g : Nat} {e : TypeId} {xs : List Value} (h : w.ownsRow base e size (.slice (some ⟨g, 0, none⟩) n cap) n xs) (m : Nat) (hm : m ≤ n) : w.ownsRow base e size (.slice (some ⟨g, 0, none⟩) m cap) m (xs.take (m * size)) := by
  obtain ⟨hl, h2⟩ := h
  rcases h2 with ⟨h', _⟩ | ⟨g', cap', cur, h', hb, hg, hnc, hcm, hcs, htake⟩
  · simp at h'
  · simp only [Value.slice.injEq, Option.some.injEq, Addr.mk.injEq, and_true, true_and] at h'
    obtain ⟨rfl, rfl⟩ := h'
    have hle : m * size ≤ n * size := Nat.mul_le_mul_right _ hm
    refine ⟨by rw [List.length_take]; omega, Or.inr ⟨g, cap, cur, rfl, hb, hg, by omega, hcm, hcs, ?_⟩⟩
    rw [← htake, List.take_take, Nat.min_eq_left hle]
/-- where a band begins by a part of the year -/
def fr (l : List Bd) (n d : Int) (k : Nat) : Int := (l.getD k bd0).f * n / d
def lastB (L : List Bd) : Bd := L.getD (L.length - 1) bd0
def dropIf (L : List Bd) (x : Int) : List Bd := if 0 < L.length ∧ (lastB L).f = x then L.take (L.length - 1) else L
def scaleTo (l : List Bd) (n d : Int) : Nat → List Bd
  | 0 => []
  | k + 1 => dropIf (scaleTo l n d k) (fr l n d k) ++ [⟨fr l n d k, (l.getD k bd0).r, (l.getD k bd0).e⟩]
theorem lastB_snoc (L : List Bd) (x : Bd) : lastB (L ++ [x]) = x := by simp [lastB, List.getD]
theorem scale_last (l : List Bd) (n d : Int) (k : Nat) : lastB (scaleTo l n d (k + 1)) = ⟨fr l n d k, (l.getD k bd0).r, (l.getD k bd0).e⟩ := by
  rw [scaleTo, lastB_snoc]
theorem scale_ne (l : List Bd) (n d : Int) (k : Nat) (hk : 0 < k) : 0 < (scaleTo l n d k).length := by
  obtain ⟨j, rfl⟩ : ∃ j, k = j + 1 := ⟨k - 1, by omega⟩
  rw [scaleTo]; simp
theorem scale_len (l : List Bd) (n d : Int) (k : Nat) : (scaleTo l n d k).length ≤ k := by
  induction k with
  | zero => simp [scaleTo]
  | succ k ih =>
    rw [scaleTo, dropIf]
    split <;> simp <;> omega
theorem flatMap_take (L : List Bd) (m : Nat) : (L.flatMap bdC).take (m * 3) = (L.take m).flatMap bdC := by
  induction L generalizing m with
  | nil => simp
  | cons x L ih =>
    cases m with
    | zero => simp
    | succ m =>
      rw [List.flatMap_cons, List.take_succ_cons, List.flatMap_cons, ← ih m, Nat.succ_mul, show m * 3 + 3 = m * 3 + 1 + 1 + 1 by omega]
      simp [bdC]
theorem bdC_get (l : List Bd) (j : Nat) (hj : j < l.length) : (l.flatMap bdC)[j * 3]? = some (.int .i64 (l.getD j bd0).f) := by
  induction l generalizing j with
  | nil => simp at hj
  | cons y l ih =>
    cases j with
    | zero => simp [bdC]
    | succ j =>
      have := ih j (by simpa using hj)
      rw [List.flatMap_cons, show (j + 1) * 3 = j * 3 + 1 + 1 + 1 by omega]
      simpa [bdC] using this
--%%
def ScaleR (L : List Bd) (w : World) (e : Ending) (w' : World) : Prop := (∃ v m, e = .returned (.tuple #[v, .int .i64 0]) ∧ OwnB w' w.heap.size v m L) ∧ Below w.heap.size w w'
set_option maxRecDepth 100000 in
set_option maxHeartbeats 1600000 in
theorem bscale_c (l : List Bd) (A : Option Addr) (nb c : Nat) (n d : Int) (w : World) (h : BandSl w A nb l) (hl : bandsErr l = 0) (hp : partB n d = true) :
    Calls Try.prog 58 #[.int .i64 n, .int .i64 d, .slice A nb c] w (ScaleR (scaleTo l n d nb) w) := by
  have g := goodB l hl
  have hp' := partB_iff.1 hp
  have g8 : nb ≤ 8 := by have := h.1; have := g.hi; omega
  have HB := Lib.hid h
  have HG := Lib.hid g
  have KC := Lib.hid (bcheck_c l A nb c w h 0 hl.symm)
  have t1 : ¬ n < 0 := by omega
  have t2 : ¬ d < 1 := by omega
  have t3 : ¬ d < n := by omega
  have t4 : ¬ 1048576 < d := by omega
  have u1 : decide (n < 0) = false := by simpa using t1
  have u2 : decide (d < 1) = false := by simpa using t2
  have u3 : decide (d < n) = false := by simpa using t3
  have u4 : decide (1048576 < d) = false := by simpa using t4
  clear h hl g hp
  go_enter Try.func58, Try.ntmps58
  go_wp2_with fail
  refine KC.out.mono ?_
  rintro e w1 ⟨rfl, hb1⟩
  go_wp2_with fail
  go_loopw [9, 37] (fun v i wr => ∃ (k m : Nat), k ≤ nb ∧ m ≤ k ∧ i = .int .i64 k ∧ OwnB wr w.heap.size v m (scaleTo l n d k) ∧ Below w.heap.size w wr) (fun _ i _ => nb - (intOf i).toNat)
  case atStart => exact ⟨0, 0, Nat.zero_le _, Nat.le_refl _, rfl, ⟨rfl, World.ownsRow_nil _ _ _ _⟩, hb1⟩
  case round =>
    obtain ⟨k, m, hk', hm, rfl, ⟨ho1, ho⟩, hbl⟩ := hrel
    have HO1 := Lib.hid ho1
    clear ho1
    obtain ⟨Av, cv, rfl⟩ := own_slice ho
    by_cases hk : k < nb
    case neg =>
      obtain rfl : k = nb := by omega
      go_wp2_with fail
      go_ret2
      exact ⟨⟨_, _, rfl, HO1.out, ho⟩, hbl⟩
    obtain ⟨b, off, rfl, hlt, hat⟩ := (HB.out.below hbl).2.2 (by omega)
    obtain ⟨c0, c1, c2⟩ := hat k (by rw [← HB.out.1]; exact hk)
    have hf := HG.out.f k (by rw [← HB.out.1]; exact hk)
    have KS := Lib.hid (fscale_t (l.getD k bd0).f n d · hf (by omega) (by omega))
    have hF : (l.getD k bd0).f * n / d = fr l n d k := rfl
    rw [hF] at KS
    have HN : Hid (scaleTo l n d (k + 1) = dropIf (scaleTo l n d k) (fr l n d k) ++ [⟨fr l n d k, (l.getD k bd0).r, (l.getD k bd0).e⟩]) := rfl
    have HAT := Lib.hid hat
    clear hat hF hf
    generalize fr l n d k = x at *
    generalize (l.getD k bd0).f = bf at *
    generalize (l.getD k bd0).r = br at *
    generalize (l.getD k bd0).e = be at *
    have bx := Blk.mk wr 84 #[.int .i64 bf, .int .i64 br, .int .i64 be]
    have hb2 := bA hbl (.cells #[.int .i64 bf, .int .i64 br, .int .i64 be] 84)
    have HO := Lib.hid (ho.alloc (.cells #[.int .i64 bf, .int .i64 br, .int .i64 be] 84))
    have a0 := bx.cell 0
    have hsz := hbl.size
    have hlto := Lib.hid ho.lt
    clear ho
    go_wp2_with fail
    refine (KS.out _).mono ?_
    rintro e w2 ⟨rfl, hb3⟩
    have hb4 := bT hb2 hb3
    have bx2 := bx.t hb3
    have hwr : wr.heap.size < w2.heap.size := by have := hb3.size; simp at this; omega
    have HO2 := own_below HO.out hb3
    obtain ⟨x0, x1, x2, y0, y1, y2⟩ : w2.cell? ⟨wr.heap.size, 0, none⟩ = some (.int .i64 bf) ∧ w2.cell? ⟨wr.heap.size, 1, none⟩ = some (.int .i64 br) ∧ w2.cell? ⟨wr.heap.size, 2, none⟩ = some (.int .i64 be) ∧ w2.frozen? ⟨wr.heap.size, 0, none⟩ = false ∧ w2.frozen? ⟨wr.heap.size, 1, none⟩ = false ∧ w2.frozen? ⟨wr.heap.size, 2, none⟩ = false := ⟨bx2.cell 0, bx2.cell 1, bx2.cell 2, bx2.free 0, bx2.free 1, bx2.free 2⟩
    have bx3 : Blk (w2.setCell ⟨wr.heap.size, 0, none⟩ (.int .i64 x)) wr.heap.size 84 #[.int .i64 x, .int .i64 br, .int .i64 be] := heap_setCell_same w2 wr.heap.size 0 _ _ (.int .i64 x) bx2
    obtain ⟨z0, z1, z2⟩ : (w2.setCell ⟨wr.heap.size, 0, none⟩ (.int .i64 x)).cell? ⟨wr.heap.size, 0, none⟩ = some (.int .i64 x) ∧ (w2.setCell ⟨wr.heap.size, 0, none⟩ (.int .i64 x)).cell? ⟨wr.heap.size, 1, none⟩ = some (.int .i64 br) ∧ (w2.setCell ⟨wr.heap.size, 0, none⟩ (.int .i64 x)).cell? ⟨wr.heap.size, 2, none⟩ = some (.int .i64 be) := ⟨bx3.cell 0, bx3.cell 1, bx3.cell 2⟩
    have hb5 := bS hb4 (p := ⟨wr.heap.size, 0, none⟩) hsz (.int .i64 x)
    have hgw : w2.grownBy (w2.setCell ⟨wr.heap.size, 0, none⟩ (.int .i64 x)) (some wr.heap.size) := ⟨rfl, rfl, rfl, by simp, fun k _ hk => heap_setCell_other w2 ⟨wr.heap.size, 0, none⟩ k _ (fun e => hk (by simp [e]))⟩
    have HGW := Lib.hid hgw
    clear hgw
    by_cases hm0 : m = 0
    · have hz : decide ((0 : Int) < (m : Int)) = false := by simp; omega
      have hD : Hid (dropIf (scaleTo l n d k) x = scaleTo l n d k) := by
        unfold Hid dropIf
        rw [if_neg (by rw [← HO1.out, hm0]; simp)]
      have HO3 := Lib.hid (HO2.kept HGW.out (by
        right
        intro h
        have := (hlto.out _ h).2
        omega))
      have hz2 : ¬ 0 < m := by omega
      clear hm0 HO2
      go_wp2_with (at_builtin; refine wpList_app1 _ rfl _ _ 64 rfl 84 _ 3 24 Try.underlying64 info_band rfl (by decide) rfl HO3.out _ rfl (by first | rfl | simp) rfl (by simp [Value.oneCell']) (by omega) (by omega) (by first | omega | exact hb5.size | (simp; omega)) ?_; intro v' w3 ho' hg)
      go_roundw
      case rel =>
        refine ⟨k + 1, m + 1, by omega, by omega, by go_num, ⟨by rw [HN.out, hD.out]; simp [← HO1.out], ?_⟩, bP hb5 HO3.out hg (Nat.le_refl _)⟩
        rw [HN.out, hD.out, List.flatMap_append]
        simpa [bdC] using ho'
      case measure => simp [intOf]; omega
    · obtain ⟨g, cap, hv, hgb, hgl, hgc, hgo⟩ := own_form HO2 (by omega)
      simp only [Value.slice.injEq, true_and] at hv
      obtain ⟨rfl, rfl⟩ := hv
      have hgs : g < wr.heap.size := by
        have := (hlto.out g rfl).2
        exact this
      have hq := (bdC_get (scaleTo l n d k) (m - 1) (by rw [← HO1.out]; omega))
      have hcc := (hgo.cellAt ((m - 1) * 3) (by omega)).trans hq
      rw [show (scaleTo l n d k).getD (m - 1) bd0 = lastB (scaleTo l n d k) from by unfold lastB; rw [← HO1.out]] at hcc
      obtain ⟨pf, hpf⟩ : ∃ pf, pf = (lastB (scaleTo l n d k)).f := ⟨_, rfl⟩
      rw [← hpf] at hcc
      have hz : decide ((0 : Int) < (m : Int)) = true := by simp; omega
      have hz2 : 0 < m := by omega
      have m1 : IntKind.i64.wrap ((m : Int) - 1) = (m : Int) - 1 := by rw [IntKind.wrap_i64]; omega
      have m2 : ((m : Int) - 1).toNat = m - 1 := by omega
      have m3 : 0 ≤ (m : Int) - 1 := by omega
      have m4 : (m : Int) - 1 < (m : Int) := by omega
      have m5 : (1 : Int) ≤ (m : Int) := by omega
      have HPF := Lib.hid hpf
      have HGO := Lib.hid hgo
      clear hq hpf hgo HO2 hm0
      by_cases he : pf = x
      · have hD : Hid (dropIf (scaleTo l n d k) x = (scaleTo l n d k).take (m - 1)) := by
          unfold Hid dropIf
          rw [if_pos ⟨by rw [← HO1.out]; exact hz2, by rw [← HPF.out]; exact he⟩, ← HO1.out]
        subst he
        have m6 : (m : Int) - 1 ≤ (cv : Int) := by omega
        have m7 : m - 1 ≤ cv := by omega
        have HO4 := Lib.hid ((own_cut HGO.out (m - 1) (by omega)).kept HGW.out (Or.inr (by intro h; have h2 : some g = some wr.heap.size := h; injection h2 with h2; omega)))
        go_wp2_with (at_builtin; refine wpList_app1 _ rfl _ _ 64 rfl 84 _ 3 24 Try.underlying64 info_band rfl (by decide) rfl HO4.out _ rfl (by first | rfl | simp) rfl (by simp [Value.oneCell']) (by omega) (by omega) (by first | omega | exact hb5.size | (simp; omega)) ?_; intro v' w3 ho' hg)
        go_roundw
        case rel =>
          refine ⟨k + 1, m - 1 + 1, by omega, by omega, by go_num, ⟨by rw [HN.out, hD.out]; simp [← HO1.out], ?_⟩, bP hb5 HO4.out hg (Nat.le_refl _)⟩
          rw [HN.out, hD.out, List.flatMap_append, ← flatMap_take]
          simpa [bdC] using ho'
        case measure => simp [intOf]; omega
      · have hD : Hid (dropIf (scaleTo l n d k) x = scaleTo l n d k) := by
          unfold Hid dropIf
          rw [if_neg (fun h => he (HPF.out.trans h.2))]
        have hne : (pf == x) = false := by simpa using he
        clear he
        have HO4 := Lib.hid (HGO.out.kept HGW.out (Or.inr (by intro h; have h2 : some g = some wr.heap.size := h; injection h2 with h2; omega)))
        go_wp2_with (at_builtin; refine wpList_app1 _ rfl _ _ 64 rfl 84 _ 3 24 Try.underlying64 info_band rfl (by decide) rfl HO4.out _ rfl (by first | rfl | simp) rfl (by simp [Value.oneCell']) (by omega) (by omega) (by first | omega | exact hb5.size | (simp; omega)) ?_; intro v' w3 ho' hg)
        go_roundw
        case rel =>
          refine ⟨k + 1, m + 1, by omega, by omega, by go_num, ⟨by rw [HN.out, hD.out]; simp [← HO1.out], ?_⟩, bP hb5 HO4.out hg (Nat.le_refl _)⟩
          rw [HN.out, hD.out, List.flatMap_append]
          simpa [bdC] using ho'
        case measure => simp [intOf]; omega
--%%
end Go.Proofs.Ytankoappneglcaa
