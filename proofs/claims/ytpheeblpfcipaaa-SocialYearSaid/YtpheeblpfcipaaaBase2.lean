/-
  Contracts of package base: how much counts in each period; lists of bases. Conditions as named.
-/
import Derived.Test.YtpheeblpfcipaaaBase
import Derived.Test.YtpheeblpfcipaaaI64
import Derived.Deep.RegionHeld3
namespace Go.Proofs.Ytpheeblpfcipaaa
set_option linter.unusedVariables false
open Go.RowKit
def BsAt (w : World) (b off : Nat) (x : Bs) : Prop := w.cell? ⟨b, off, none⟩ = some (.int .i64 x.c) ∧ w.cell? ⟨b, off + 1, none⟩ = some (.int .i64 x.t) ∧ w.cell? ⟨b, off + 2, none⟩ = some (.int .i64 x.s)
theorem BsAt.below {w w' : World} {b off : Nat} {x : Bs} (h : BsAt w b off x) (hlt : b < w.heap.size) (hb : Below w.heap.size w w') : BsAt w' b off x :=
  ⟨(hb.cell (p := ⟨b, _, none⟩) hlt).trans h.1, (hb.cell (p := ⟨b, _, none⟩) hlt).trans h.2.1, (hb.cell (p := ⟨b, _, none⟩) hlt).trans h.2.2⟩
def BsSl := SlOf BsAt 3 bs0
theorem BsSl.below {w w' : World} {A : Option Addr} {n : Nat} {l : List Bs} (h : BsSl w A n l) (hb : Below w.heap.size w w') : BsSl w' A n l := SlOf.below h (fun b off x hx hlt => hx.below hlt hb) hb
theorem Blk.all3 {w : World} {g : Nat} {t : TypeId} {a b c : Value} (h : Blk w g t #[a, b, c]) : w.cell? ⟨g, 0, none⟩ = some a ∧ w.cell? ⟨g, 1, none⟩ = some b ∧ w.cell? ⟨g, 2, none⟩ = some c := ⟨h.cell 0, h.cell 1, h.cell 2⟩
/-- how much counts of a contribution's base in a period -/
def xI (c : Ct) (b : Bs) (ah : Int) : Int := underI c.pc c.yc (onI c.base b) ah
theorem on_bd (base : Int) (b : Bs) (h : bsR b = true) : 0 ≤ onI base b ∧ onI base b ≤ 100000000000 := by
  unfold bsR at h
  simp only [Bool.and_eq_true] at h
  have h1 := mr_iff.1 h.2.1
  have h2 := mr_iff.1 h.2.2
  unfold onI
  split <;> omega
theorem under_bd (pc yc x ahead : Int) (h0 : 0 ≤ x) : 0 ≤ underI pc yc x ahead ∧ underI pc yc x ahead ≤ x := by
  unfold underI
  dsimp only
  split <;> split <;> omega
theorem x_bd (c : Ct) (b : Bs) (ah : Int) (h : bsR b = true) : 0 ≤ xI c b ah ∧ xI c b ah ≤ 100000000000 := by
  have h1 := on_bd c.base b h
  have h2 := under_bd c.pc c.yc (onI c.base b) ah h1.1
  unfold xI
  omega
/-- what counted ahead of the period at k -/
def cntA (c : Ct) (l : List Bs) : Nat → Int
  | 0 => 0
  | k + 1 => cntA c l k + xI c (l.getD k bs0) (cntA c l k)
def cntX (c : Ct) (l : List Bs) (k : Nat) : Int := xI c (l.getD k bs0) (cntA c l k)
--%%
set_option maxRecDepth 100000 in
set_option maxHeartbeats 1600000 in
theorem counted_t (nm : ByteArray) (base pc yc rd : Int) (bands : List Bd) (A' : Option Addr) (n' c' : Nat) (l : List Bs) (A : Option Addr) (n c : Nat) (w : World) (hs : BsSl w A n l) (hn8 : n ≤ 1000) (hyc : 0 ≤ yc ∧ yc ≤ 100000000000)
    (hR : ∀ k, k < n → bsR (l.getD k bs0) = true) (hM : ∀ k, k ≤ n → mrB (cntA ⟨nm, base, bands, pc, yc, rd⟩ l k) = true) :
    Calls Try.prog 18 #[.agg #[.string nm, .int .i64 base, .slice A' n' c', .int .i64 pc, .int .i64 yc, .int .i64 rd], .slice A n c] w (fun e w' => (∃ v, e = .returned (.tuple #[v, .int .i64 0]) ∧ OwnI w' w.heap.size v n ((List.range n).map (cntX ⟨nm, base, bands, pc, yc, rd⟩ l))) ∧ Below w.heap.size w w') := by
  have HS := Lib.hid hs
  have HR := Lib.hid hR
  have HM := Lib.hid hM
  clear hs hR hM
  go_enter Try.func18, Try.ntmps18
  go_wp2_with fail
  go_loopw [6, 7, 15] (fun v ah i wr => ∃ (k : Nat) (a : Int), k ≤ n ∧ i = .int .i64 k ∧ ah = .int .i64 a ∧ Hid (a = cntA ⟨nm, base, bands, pc, yc, rd⟩ l k) ∧ OwnI wr w.heap.size v k ((List.range k).map (cntX ⟨nm, base, bands, pc, yc, rd⟩ l)) ∧ Below w.heap.size w wr ∧ Blk wr w.heap.size 31 #[.string nm, .int .i64 base, .slice A' n' c', .int .i64 pc, .int .i64 yc, .int .i64 rd]) (fun _ _ i _ => n - (intOf i).toNat)
  case atStart => exact ⟨0, 0, Nat.zero_le _, rfl, rfl, rfl, ⟨by simp, World.ownsRow_nil _ _ _ _⟩, below1 _ _, Blk.mk _ _ _⟩
  case round =>
    obtain ⟨k, a, hk', rfl, rfl, ha, ⟨ho1, ho⟩, hbl, z⟩ := hrel
    have HO1 := Lib.hid ho1
    clear ho1
    by_cases hk : k < n
    case neg =>
      obtain rfl : k = n := by omega
      go_wp2_with fail
      go_ret2
      exact ⟨⟨_, rfl, HO1.out, ho⟩, hbl⟩
    obtain ⟨b, off, rfl, hlt, hat⟩ := (HS.out.below hbl).2.2 (by omega)
    obtain ⟨c0, c1, c2⟩ := hat k hk
    have hR := HR.out k hk
    have hM1 := HM.out k (by omega)
    have hM2 := HM.out (k + 1) (by omega)
    have hxs := x_bd ⟨nm, base, bands, pc, yc, rd⟩ (l.getD k bs0) a hR
    have HX : Hid (xI ⟨nm, base, bands, pc, yc, rd⟩ (l.getD k bs0) a = cntX ⟨nm, base, bands, pc, yc, rd⟩ l k) := by unfold Hid; rw [cntX, ← ha.out]
    rw [← ha.out] at hM1
    rw [cntA, ← ha.out] at hM2
    have hN : Hid (a + xI ⟨nm, base, bands, pc, yc, rd⟩ (l.getD k bs0) a = cntA ⟨nm, base, bands, pc, yc, rd⟩ l (k + 1)) := by unfold Hid; rw [cntA, ← ha.out]
    have KR := Lib.hid (bright_c (l.getD k bs0))
    have KO := Lib.hid (on_c nm base pc yc rd A' n' c' (l.getD k bs0))
    have ha' := mr_iff.1 hM1
    have KU := Lib.hid (under_c nm base pc yc rd A' n' c' (onI base (l.getD k bs0)) a · (by omega) (by omega))
    rw [show underI pc yc (onI base (l.getD k bs0)) a = xI ⟨nm, base, bands, pc, yc, rd⟩ (l.getD k bs0) a from rfl] at KU
    have hxm : mrB (xI ⟨nm, base, bands, pc, yc, rd⟩ (l.getD k bs0) a) = true := mr_t (by omega)
    generalize xI ⟨nm, base, bands, pc, yc, rd⟩ (l.getD k bs0) a = x at *
    generalize onI base (l.getD k bs0) = o at *
    rw [show bsR (l.getD k bs0) = true from hR] at KR
    generalize (l.getD k bs0).c = bc at *
    generalize (l.getD k bs0).t = bt at *
    generalize (l.getD k bs0).s = bs at *
    have z2 := (z.alloc (.cells #[.int .i64 bc, .int .i64 bt, .int .i64 bs] 59))
    have y2 := Blk.mk wr 59 #[.int .i64 bc, .int .i64 bt, .int .i64 bs]
    have HO := Lib.hid (ho.alloc (.cells #[.int .i64 bc, .int .i64 bt, .int .i64 bs] 59))
    have hsz := hbl.size
    have HH := Lib.hid hat
    clear hR hat ho
    have hb0 := bA hbl (.cells #[.int .i64 bc, .int .i64 bt, .int .i64 bs] 59)
    go_wp2_with fail
    refine (KR.out _).mono ?_
    rintro e w1 ⟨rfl, hb1⟩
    have z3 := z2.t hb1
    have y3 := y2.t hb1
    have HO2 := Lib.hid (own_below HO.out hb1)
    have hb2 := bT hb0 hb1
    have G : Hid (∀ W, Below w1.heap.size w1 W → Below w1.heap.size w1 W ∧ W.cell? ⟨w.heap.size, 0, none⟩ = some (.string nm) ∧ W.cell? ⟨w.heap.size, 1, none⟩ = some (.int .i64 base) ∧ W.cell? ⟨w.heap.size, 2, none⟩ = some (.slice A' n' c') ∧ W.cell? ⟨w.heap.size, 3, none⟩ = some (.int .i64 pc) ∧ W.cell? ⟨w.heap.size, 4, none⟩ = some (.int .i64 yc) ∧ W.cell? ⟨w.heap.size, 5, none⟩ = some (.int .i64 rd) ∧ W.cell? ⟨wr.heap.size, 0, none⟩ = some (.int .i64 bc) ∧ W.cell? ⟨wr.heap.size, 1, none⟩ = some (.int .i64 bt) ∧ W.cell? ⟨wr.heap.size, 2, none⟩ = some (.int .i64 bs)) := fun W hW =>
      ⟨hW, (z3.t hW).cell 0, (z3.t hW).cell 1, (z3.t hW).cell 2, (z3.t hW).cell 3, (z3.t hW).cell 4, (z3.t hW).cell 5, (y3.t hW).cell 0, (y3.t hW).cell 1, (y3.t hW).cell 2⟩
    go_wp2_with fail
    go_region_held3 (fun W => Below w1.heap.size w1 W ∧ W.cell? ⟨w.heap.size, 0, none⟩ = some (.string nm) ∧ W.cell? ⟨w.heap.size, 1, none⟩ = some (.int .i64 base) ∧ W.cell? ⟨w.heap.size, 2, none⟩ = some (.slice A' n' c') ∧ W.cell? ⟨w.heap.size, 3, none⟩ = some (.int .i64 pc) ∧ W.cell? ⟨w.heap.size, 4, none⟩ = some (.int .i64 yc) ∧ W.cell? ⟨w.heap.size, 5, none⟩ = some (.int .i64 rd) ∧ W.cell? ⟨wr.heap.size, 0, none⟩ = some (.int .i64 bc) ∧ W.cell? ⟨wr.heap.size, 1, none⟩ = some (.int .i64 bt) ∧ W.cell? ⟨wr.heap.size, 2, none⟩ = some (.int .i64 bs))
      (first | assumption | exact G.out _ (b0 _).drew | (exact sK G.out (by assumption) (by assumption)))
      (first | (go_at_call 32; refine (KO.out _).mono ?_; rintro e w2 ⟨rfl, hb3⟩) | (go_at_call 31; refine (KU.out _).mono ?_; rintro e w3 ⟨rfl, hb4⟩))
    have hB : Below w1.heap.size w1 w3 := (show Below w1.heap.size w1 w3 ∧ _ from by assumption).1
    have z4 := z3.t hB
    have HO3 := Lib.hid (own_below HO2.out hB)
    have hb5 := bT hb2 hB
    have hs5 := hb5.size
    go_wp2_with (at_builtin; refine wpList_app1 _ rfl _ _ 61 rfl 2 _ 1 8 Try.underlying61 info_i64 rfl (by decide) rfl HO3.out _ rfl (by first | rfl | simp) rfl (by simp [Value.oneCell']) (by omega) (by omega) (by first | omega | (simp; omega)) ?_; intro v' w4 ho' hg)
    have z5 := z4.grown hg (own_blk HO3.out z4 (by decide))
    have hb6 := bP hb5 HO3.out hg (Nat.le_refl _)
    go_wp2_with fail
    refine (add_t a x _ hM1 hxm hM2).mono ?_
    rintro e w5 ⟨rfl, hb7⟩
    have z6 := z5.t hb7
    have hb8 := bT hb6 hb7
    have ho5 := own_below ho' hb7
    go_wp2_with fail
    go_roundw
    case rel =>
      refine ⟨k + 1, _, by omega, by go_num, rfl, hN, ⟨by simp, ?_⟩, hb8, z6⟩
      rw [List.range_succ, List.map_append, List.map_append]
      simpa [HX.out] using ho5
    case measure => simp [intOf]; omega
--%%
end Go.Proofs.Ytpheeblpfcipaaa
