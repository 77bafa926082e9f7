/-
  Plain: a tax told band by band: what the shares come to. No program.
-/
import Derived.Test.YtlfeppbhicmeoaaTopP
namespace Go.Proofs.Ytlfeppbhicmeoaa
set_option linter.unusedVariables false
open Go.RowKit
/-- a band's share: its rate, the amount, the tax -/
structure Sx where
  r : Int
  a : Int
  x : Int
def sx0 : Sx := ⟨0, 0, 0⟩
def sxA (S : List Sx) : Nat → Int
  | 0 => 0
  | k + 1 => sxA S k + (S.getD k sx0).a
def sxX (S : List Sx) : Nat → Int
  | 0 => 0
  | k + 1 => sxX S k + (S.getD k sx0).x
def sxT (S : List Sx) : Nat → Int
  | 0 => 0
  | k + 1 => max (sxT S k) (S.getD k sx0).r
/-- what a tax told band by band comes to -/
structure ExpOK (nb : Nat) (x ev : Int) (S : List Sx) : Prop where
  len : S.length ≤ nb
  each : ∀ k, k < S.length → 0 < (S.getD k sx0).a ∧ (S.getD k sx0).a ≤ 100000000000 ∧ 0 ≤ (S.getD k sx0).r ∧ (S.getD k sx0).r ≤ 10000 ∧ (S.getD k sx0).x = (S.getD k sx0).a * (S.getD k sx0).r
  sa : sxA S S.length = x
  sx : sxX S S.length = ev
theorem exp_nil (nb : Nat) : ExpOK nb 0 0 [] := ⟨Nat.zero_le _, fun k hk => absurd hk (by simp), rfl, rfl⟩
theorem exp_one (nb : Nat) (h : 1 ≤ nb) (x r : Int) (h0 : 0 < x) (h1 : x ≤ 100000000000) (h2 : 0 ≤ r) (h3 : r ≤ 10000) : ExpOK nb x (x * r) [⟨r, x, x * r⟩] := by
  refine ⟨h, fun k hk => ?_, ?_, ?_⟩
  · obtain rfl : k = 0 := by simpa using hk
    exact ⟨h0, h1, h2, h3, rfl⟩
  · simp [sxA]
  · simp [sxX]
/-- the shares of the first k bands -/
def shTo (X : Int) (f r : Nat → Int) (m k : Nat) : List Sx := (List.range k).map fun i => ⟨r i, widthI X f m i, widthI X f m i * r i⟩
theorem shTo_len (X : Int) (f r : Nat → Int) (m k : Nat) : (shTo X f r m k).length = k := by simp [shTo]
theorem shTo_get (X : Int) (f r : Nat → Int) (m k i : Nat) (h : i < k) : (shTo X f r m k).getD i sx0 = ⟨r i, widthI X f m i, widthI X f m i * r i⟩ := by simp [shTo, List.getD, h]
theorem shTo_snoc (X : Int) (f r : Nat → Int) (m k : Nat) : shTo X f r m (k + 1) = shTo X f r m k ++ [⟨r k, widthI X f m k, widthI X f m k * r k⟩] := by simp [shTo, List.range_succ]
theorem shTo_sums (X : Int) (f r : Nat → Int) (m k : Nat) : ∀ j, j ≤ k → sxA (shTo X f r m k) j = progS X f (fun _ => 1) m j ∧ sxX (shTo X f r m k) j = progS X f r m j := by
  intro j
  induction j with
  | zero => intro _; exact ⟨rfl, rfl⟩
  | succ j ih =>
    intro hj
    obtain ⟨h1, h2⟩ := ih (by omega)
    rw [sxA, sxX, progS, progS, h1, h2, shTo_get X f r m k j (by omega), Int.mul_one]
    exact ⟨rfl, rfl⟩
theorem width_le (X : Int) (f : Nat → Int) (m i : Nat) (hf : 0 ≤ f i) : widthI X f m i ≤ pos X := by
  unfold widthI pos
  split <;> omega
theorem width_pos (X : Int) (f : Nat → Int) (m i : Nat) (hm : i + 1 < m → f i < f (i + 1)) (h : f i < X) : 0 < widthI X f m i := by
  unfold widthI pos
  split
  · have := hm (by assumption); omega
  · omega
theorem exp_bands (L : List Bd) (hl : bandsErr L = 0) (nb : Nat) (hnb : L.length ≤ nb) (X : Int) (h0 : 0 ≤ X) (h1 : X ≤ 100000000000) (k : Nat) (hk : k ≤ L.length) (hpos : ∀ i, i < k → (L.getD i bd0).f < X) (hend : k = L.length ∨ X ≤ (L.getD k bd0).f) :
    ExpOK nb X (bandS (·.r) L X) (shTo X (fun k => (L.getD k bd0).f) (fun k => (L.getD k bd0).r) L.length k) := by
  have g := goodB L hl
  have hs := shTo_sums X (fun k => (L.getD k bd0).f) (fun k => (L.getD k bd0).r) L.length k k (Nat.le_refl _)
  have hstop : ∀ r : Nat → Int, progS X (fun k => (L.getD k bd0).f) r L.length L.length = progS X (fun k => (L.getD k bd0).f) r L.length k := by
    intro r
    rcases hend with rfl | hX
    · rfl
    · have := (prog_stop X (fun k => (L.getD k bd0).f) r L.length g.m k hX (L.length - k) (by omega)).1
      rwa [show k + (L.length - k) = L.length by omega] at this
  refine ⟨by rw [shTo_len]; omega, fun i hi => ?_, ?_, ?_⟩
  · rw [shTo_len] at hi
    rw [shTo_get _ _ _ _ _ _ hi]
    have hr := g.r i (by omega)
    have hf := (g.f i (by omega)).1
    have hw := width_le X (fun k => (L.getD k bd0).f) L.length i hf
    have hp := width_pos X (fun k => (L.getD k bd0).f) L.length i (fun h => g.m i h) (hpos i hi)
    rw [pos_t h0] at hw
    dsimp only
    generalize widthI X (fun k => (L.getD k bd0).f) L.length i = wd at *
    generalize (L.getD i bd0).r = br at *
    exact ⟨hp, Int.le_trans hw h1, hr.1, hr.2, rfl⟩
  · rw [shTo_len, hs.1, ← hstop, prog_one X _ L.length g.m g.lo g.f0 h0]
  · rw [shTo_len, hs.2, ← hstop]; rfl
theorem exp_bd {nb : Nat} {x ev : Int} {S : List Sx} (h : ExpOK nb x ev S) : ∀ k, k ≤ S.length → 0 ≤ sxA S k ∧ sxA S k ≤ k * 100000000000 ∧ 0 ≤ sxX S k ∧ sxX S k ≤ k * 1000000000000000 := by
  intro k
  induction k with
  | zero => intro _; simp [sxA, sxX]
  | succ k ih =>
    intro hk
    have h1 := ih (by omega)
    obtain ⟨e1, e2, e3, e4, e5⟩ := h.each k (by omega)
    have hx := mul_bd0 (A := 100000000000) (B := 10000) (Int.le_of_lt e1) e2 e3 e4 (by decide)
    rw [sxA, sxX, e5]
    omega
theorem exp_top {nb : Nat} {x ev : Int} {S : List Sx} (h : ExpOK nb x ev S) : ∀ k, k ≤ S.length → 0 ≤ sxT S k ∧ sxX S k ≤ sxA S k * sxT S k := by
  intro k
  induction k with
  | zero => intro _; simp [sxA, sxX, sxT]
  | succ k ih =>
    intro hk
    obtain ⟨h1, h2⟩ := ih (by omega)
    have hb := exp_bd h k (by omega)
    obtain ⟨e1, e2, e3, e4, e5⟩ := h.each k (by omega)
    rw [sxA, sxX, sxT, e5, Int.add_mul]
    have m1 : sxA S k * sxT S k ≤ sxA S k * max (sxT S k) (S.getD k sx0).r := Int.mul_le_mul_of_nonneg_left (by omega) hb.1
    have m2 : (S.getD k sx0).a * (S.getD k sx0).r ≤ (S.getD k sx0).a * max (sxT S k) (S.getD k sx0).r := Int.mul_le_mul_of_nonneg_left (by omega) (Int.le_of_lt e1)
    exact ⟨by omega, by omega⟩
/-- the average is no more than the greatest of the rates, where nothing is put to what is taxed -/
theorem exp_avg {nb : Nat} {x ev tx : Int} {S : List Sx} (h : ExpOK nb x ev S) (hx : x ≤ tx) (ht : 0 < tx) : ev / tx ≤ sxT S S.length := by
  obtain ⟨h1, h2⟩ := exp_top h S.length (Nat.le_refl _)
  rw [h.sa, h.sx] at h2
  have h3 : x * sxT S S.length ≤ tx * sxT S S.length := Int.mul_le_mul_of_nonneg_right hx h1
  have h4 : ev ≤ sxT S S.length * tx := by rw [Int.mul_comm]; omega
  exact Int.ediv_le_of_le_mul ht h4
theorem exV_zero (sch : List (List Bd)) (c : Cd) (tx n d : Int) (hp : partB n d = true) (hok : bandsErr (sch.getD c.s.toNat []) = 0) (h : chargeV c tx n d = 0) : exV sch c tx n d = 0 := by
  have g := goodB _ hok
  unfold exV
  rw [h]
  split
  · rfl
  split
  · exact Int.zero_mul _
  · have h1 := prog_stop 0 (fun k => ((scaleTo (sch.getD c.s.toNat []) n d (sch.getD c.s.toNat []).length).getD k bd0).f) (fun k => ((scaleTo (sch.getD c.s.toNat []) n d (sch.getD c.s.toNat []).length).getD k bd0).r)
      (scaleTo (sch.getD c.s.toNat []) n d (sch.getD c.s.toNat []).length).length (goodB _ (scale_err hok n d hp)).m 0 (by rw [(goodB _ (scale_err hok n d hp)).f0]; exact Int.le_refl _) (scaleTo (sch.getD c.s.toNat []) n d (sch.getD c.s.toNat []).length).length (by omega)
    have h2 := scale_val hok n d 0 hp
    unfold bandS at h2
    rw [← h2]
    rw [Nat.zero_add] at h1
    exact h1.1
end Go.Proofs.Ytlfeppbhicmeoaa
