/-
  Plain facts on binary64 words that stand for whole numbers up to 2^53: conversion, order, sum, difference, product are exact. No program, no conditions beyond those named.
-/
import Derived.Laws.ComplexArith
namespace Go.Proofs.Ytpheeblpfcipaaa
set_option linter.unusedVariables false
open Ieee

/-- A datum that is the whole number n (a zero of either sign is 0). -/
def RepD (d : Datum) (n : Int) : Prop := ∃ (s : Bool) (m : Nat) (p : Int) (K : Nat), d = .number s m p ∧ 0 ≤ p + (K : Int) ∧ signed s m (p + (K : Int)).toNat = n * 2 ^ K
/-- A word that is the whole number n. -/
def Rep (b : Nat) (n : Int) : Prop := RepD (double.read b) n

theorem signed_val (s : Bool) (m u : Nat) : signed s m u = (if s then -1 else 1) * ((m : Int) * 2 ^ u) := by
  unfold signed
  rw [Nat.shiftLeft_eq]
  cases s <;> simp

theorem signed_up (s : Bool) (m u v : Nat) : signed s m (u + v) = signed s m u * 2 ^ v := by
  rw [signed_val, signed_val, Int.pow_add]
  simp [Int.mul_assoc]

/-- The same at any greater scale. -/
theorem RepD.scale {s : Bool} {m : Nat} {p n : Int} (h : RepD (.number s m p) n) (L : Nat) (hL : 0 ≤ p + (L : Int)) : signed s m (p + (L : Int)).toNat = n * 2 ^ L := by
  obtain ⟨s', m', p', K, he, hK, hv⟩ := h
  injection he with e1 e2 e3
  subst e1; subst e2; subst e3
  rcases Nat.le_total K L with hle | hle
  · obtain ⟨c, rfl⟩ := Nat.exists_eq_add_of_le hle
    have e : (p + ((K + c : Nat) : Int)).toNat = (p + (K : Int)).toNat + c := by omega
    rw [e, signed_up, hv, Int.pow_add, Int.mul_assoc]
  · obtain ⟨c, rfl⟩ := Nat.exists_eq_add_of_le hle
    have e : (p + ((L + c : Nat) : Int)).toNat = (p + (L : Int)).toNat + c := by omega
    rw [e, signed_up, Int.pow_add, ← Int.mul_assoc] at hv
    exact Int.eq_of_mul_eq_mul_right (by have : (0 : Int) < 2 ^ c := Int.pow_pos (by decide); omega) hv

theorem RepD.mk {s : Bool} {m : Nat} {p n : Int} (K : Nat) (hK : 0 ≤ p + (K : Int)) (h : signed s m (p + (K : Int)).toNat = n * 2 ^ K) : RepD (.number s m p) n := ⟨s, m, p, K, rfl, hK, h⟩

theorem RepD.form {d : Datum} {n : Int} (h : RepD d n) : ∃ s m p, d = .number s m p ∧ RepD (.number s m p) n := by
  obtain ⟨s, m, p, K, rfl, hK, hv⟩ := h
  exact ⟨s, m, p, rfl, s, m, p, K, rfl, hK, hv⟩

theorem cmp_scale (a b c : Int) (hc : 0 < c) : compare (a * c) (b * c) = compare a b := by
  rcases Int.lt_trichotomy a b with h | h | h
  · have h1 : a * c < b * c := Int.mul_lt_mul_of_pos_right h hc
    rw [show compare a b = .lt from Int.compare_eq_lt.2 h, show compare (a * c) (b * c) = .lt from Int.compare_eq_lt.2 h1]
  · subst h; simp
  · have h1 : b * c < a * c := Int.mul_lt_mul_of_pos_right h hc
    rw [show compare a b = .gt from Int.compare_eq_gt.2 h, show compare (a * c) (b * c) = .gt from Int.compare_eq_gt.2 h1]

/-- Two numbers' order, at whatever scale. -/
theorem order_scale (s t : Bool) (m n : Nat) (i j : Int) (L : Nat) (hi : 0 ≤ i + (L : Int)) (hj : 0 ≤ j + (L : Int)) :
    (Datum.number s m i).order (.number t n j) = some (compare (signed s m (i + (L : Int)).toNat) (signed t n (j + (L : Int)).toNat)) := by
  unfold Datum.order
  simp only [Option.some.injEq]
  obtain ⟨c, hc⟩ : ∃ c : Nat, (c : Int) = min i j + (L : Int) := ⟨(min i j + (L : Int)).toNat, by omega⟩
  have e1 : (i + (L : Int)).toNat = (i - min i j).toNat + c := by omega
  have e2 : (j + (L : Int)).toNat = (j - min i j).toNat + c := by omega
  rw [e1, e2, signed_up, signed_up, cmp_scale _ _ _ (Int.pow_pos (by decide))]

theorem order_rep {d e : Datum} {a b : Int} (ha : RepD d a) (hb : RepD e b) : d.order e = some (compare a b) := by
  obtain ⟨s, m, i, rfl, ha⟩ := ha.form
  obtain ⟨t, n, j, rfl, hb⟩ := hb.form
  obtain ⟨L, hi, hj⟩ : ∃ L : Nat, 0 ≤ i + (L : Int) ∧ 0 ≤ j + (L : Int) := ⟨(max (-i) (-j)).toNat, by omega, by omega⟩
  rw [order_scale _ _ _ _ _ _ L hi hj, ha.scale L hi, hb.scale L hj, cmp_scale _ _ _ (Int.pow_pos (by decide))]

theorem sum_rep {d e : Datum} {a b : Int} (ha : RepD d a) (hb : RepD e b) : ∃ f, d.sum e = some f ∧ RepD f (a + b) := by
  obtain ⟨s, m, i, rfl, ha⟩ := ha.form
  obtain ⟨t, n, j, rfl, hb⟩ := hb.form
  refine ⟨_, rfl, ?_⟩
  obtain ⟨L, hi, hj⟩ : ∃ L : Nat, 0 ≤ i + (L : Int) ∧ 0 ≤ j + (L : Int) := ⟨(max (-i) (-j)).toNat, by omega, by omega⟩
  have h1 := ha.scale L hi
  have h2 := hb.scale L hj
  obtain ⟨c, hc⟩ : ∃ c : Nat, (c : Int) = min i j + (L : Int) := ⟨(min i j + (L : Int)).toNat, by omega⟩
  have e1 : (i + (L : Int)).toNat = (i - min i j).toNat + c := by omega
  have e2 : (j + (L : Int)).toNat = (j - min i j).toNat + c := by omega
  rw [e1, signed_up] at h1
  rw [e2, signed_up] at h2
  refine RepD.mk L (by omega) ?_
  have e3 : (min i j + (L : Int)).toNat = c := by omega
  rw [e3, Int.add_mul, ← h1, ← h2, ← Int.add_mul]
  generalize signed s m (i - min i j).toNat + signed t n (j - min i j).toNat = T
  rw [signed_val]
  by_cases h0 : T = 0
  · subst h0; simp
  · simp only [h0, if_false]
    by_cases hn : T < 0
    · simp only [hn, decide_true, if_true]
      rw [show ((T.natAbs : Nat) : Int) = -T by omega]
      simp [Int.neg_mul]
    · simp only [hn, decide_false]
      rw [show ((T.natAbs : Nat) : Int) = T by omega]
      simp

theorem opp_rep {d : Datum} {a : Int} (h : RepD d a) : RepD d.opposite (-a) := by
  obtain ⟨s, m, p, K, rfl, hK, hv⟩ := h
  refine RepD.mk K hK ?_
  rw [signed_val] at hv ⊢
  rw [Int.neg_mul, ← hv]
  cases s <;> simp

theorem prod_rep {d e : Datum} {a b : Int} (ha : RepD d a) (hb : RepD e b) : ∃ f, d.product e = some f ∧ RepD f (a * b) := by
  obtain ⟨s, m, i, K, rfl, hK, ha⟩ := ha
  obtain ⟨t, n, j, L, rfl, hL, hb⟩ := hb
  refine ⟨_, rfl, ?_⟩
  refine RepD.mk (K + L) (by omega) ?_
  have e : (i + j + ((K + L : Nat) : Int)).toNat = (i + (K : Int)).toNat + (j + (L : Int)).toNat := by omega
  rw [e]
  have h' : a * b * (2 ^ (K + L)) = (a * 2 ^ K) * (b * 2 ^ L) := by
    rw [Int.pow_add]
    simp only [Int.mul_assoc, Int.mul_left_comm]
  rw [h', ← ha, ← hb, signed_val, signed_val, signed_val, Int.pow_add]
  generalize (2 : Int) ^ (i + (K : Int)).toNat = A
  generalize (2 : Int) ^ (j + (L : Int)).toNat = B
  rw [Int.natCast_mul]
  have hAB : (m : Int) * (n : Int) * (A * B) = (m : Int) * A * ((n : Int) * B) := by simp only [Int.mul_assoc, Int.mul_left_comm]
  rw [hAB]
  cases s <;> cases t <;> simp [Int.neg_mul, Int.mul_neg]

/-! ### rounding is exact -/

theorem log2_bd (m : Nat) (h : m ≠ 0) : 2 ^ m.log2 ≤ m ∧ m < 2 ^ (m.log2 + 1) := ⟨Nat.log2_self_le h, Nat.lt_log2_self⟩

/-- 'cut' of a number of which nothing is dropped. -/
theorem cut_exact (way : Toward) (neg : Bool) (n q drop : Nat) (h : n = q * 2 ^ drop) : way.cut neg n drop = q := by
  by_cases h0 : n = 0
  · have hq : q = 0 := by
      rcases Nat.eq_zero_or_pos q with hq | hq
      · exact hq
      · exact absurd (h0.symm.trans h) (Nat.ne_of_lt (Nat.mul_pos hq (Nat.pow_pos (by decide))))
    subst h0; subst hq
    unfold Toward.cut
    cases way <;> simp
  · have hq : q ≠ 0 := fun e => h0 (by rw [h, e, Nat.zero_mul])
    have hd : drop ≤ n.log2 := by
      rcases Nat.lt_or_ge n.log2 drop with hlt | hge
      · have h1 := (log2_bd n h0).2
        have h2 : 2 ^ (n.log2 + 1) ≤ 2 ^ drop := Nat.pow_le_pow_right (by decide) hlt
        have h3 : 2 ^ drop ≤ q * 2 ^ drop := Nat.le_mul_of_pos_left _ (Nat.pos_of_ne_zero hq)
        omega
      · exact hge
    have hmin : min drop (n.log2 + 2) = drop := by omega
    have hr : n % 2 ^ drop = 0 := by rw [h]; exact Nat.mul_mod_left _ _
    have hdv : n / 2 ^ drop = q := by rw [h]; exact Nat.mul_div_cancel _ (Nat.pow_pos (by decide))
    have hp : 0 < 2 ^ drop := Nat.pow_pos (by decide)
    unfold Toward.cut
    simp only [hmin, Nat.one_shiftLeft, hr, hdv]
    cases way <;> simp

theorem pow53 : (2 : Nat) ^ 53 = 9007199254740992 := by decide
theorem pow52 : (2 : Nat) ^ 52 = 4503599627370496 := by decide

theorem read_word (neg : Bool) (r : Nat) (hr : r < double.signWeight) : double.read (double.word neg r) =
    if r < double.binade then .number neg r double.leastPlace
    else if r < double.infRung then .number neg (double.binade + r % double.binade) (double.leastPlace + (r / double.binade - 1 : Nat))
    else if r = double.infRung then .infinity neg
    else .nan neg (r - double.infRung) := by
  have hs : 0 < double.signWeight := by decide
  have h1 : double.word neg r / double.signWeight % 2 = if neg then 1 else 0 := by
    cases neg
    · simp [Format.word, Nat.div_eq_of_lt hr]
    · simp [Format.word, Nat.add_div_left _ hs, Nat.div_eq_of_lt hr]
  have h2 : double.word neg r % double.signWeight = r := by
    cases neg
    · simp [Format.word, Nat.mod_eq_of_lt hr]
    · simp [Format.word, Nat.add_mod_left, Nat.mod_eq_of_lt hr]
  unfold Format.read
  simp only [h1, h2]
  cases neg <;> rfl

theorem binade_eq : double.binade = 4503599627370496 := by decide
theorem infRung_eq : double.infRung = 9218868437227405312 := by decide
theorem signW_eq : double.signWeight = 9223372036854775808 := by decide
theorem least_eq : double.leastPlace = -1074 := by decide

theorem read_norm (s : Bool) (T q : Nat) (hT : T ≤ 1075) (h1 : 4503599627370496 ≤ q) (h2 : q < 9007199254740992) :
    double.read (double.word s (min (T * double.binade + q) double.infRung)) = .number s q ((T : Int) - 1074) := by
  rw [binade_eq, infRung_eq]
  obtain ⟨r, hr⟩ : ∃ r : Nat, r = T * 4503599627370496 + q := ⟨_, rfl⟩
  have hmin : min (T * 4503599627370496 + q) 9218868437227405312 = r := by omega
  rw [hmin, read_word s r (by rw [signW_eq]; omega), binade_eq, infRung_eq, least_eq, if_neg (by omega), if_pos (by omega)]
  have hmod : r % 4503599627370496 = q - 4503599627370496 := by omega
  have hdiv : r / 4503599627370496 = T + 1 := by omega
  rw [hmod, hdiv]
  have e1 : 4503599627370496 + (q - 4503599627370496) = q := by omega
  have e2 : (-1074 : Int) + ((T + 1 - 1 : Nat) : Int) = (T : Int) - 1074 := by omega
  rw [e1, e2]

/-- A number m * 2 ^ p that is a whole number up to 2^53 is written as it is. -/
theorem nearest_rep (s : Bool) (m : Nat) (p n : Int) (h : RepD (.number s m p) n) (hn : -9007199254740992 ≤ n ∧ n ≤ 9007199254740992) : Rep (double.nearest s m p) n := by
  unfold Rep Format.nearest
  by_cases hm : m = 0
  · subst hm
    have hn0 : n = 0 := by
      obtain ⟨s', m', p', K, he, hK, hv⟩ := h
      injection he with e1 e2 e3
      subst e2
      rw [signed_val] at hv
      have h0 : n * 2 ^ K = 0 := by rw [← hv]; simp
      rcases Int.mul_eq_zero.1 h0 with hv | hv
      · exact hv
      · have : (0 : Int) < 2 ^ K := Int.pow_pos (by decide)
        omega
    subst hn0
    rw [if_pos rfl, read_word s 0 (by decide), if_pos (by decide)]
    exact RepD.mk 1100 (by decide) (by rw [signed_val, Int.natCast_zero, Int.zero_mul, Int.zero_mul, Int.mul_zero])
  · rw [if_neg hm]
    obtain ⟨hl1, hl2⟩ := log2_bd m hm
    have hL : double.leastPlace = -1074 := by decide
    have hF : (double.fractionBits : Int) = 52 := rfl
    rw [hL, hF]
    -- the scale: 2 ^ K, K large
    obtain ⟨K, hK⟩ : ∃ K : Nat, 0 ≤ p + (K : Int) ∧ 1200 ≤ K := ⟨(-p).toNat + 1200, by omega, by omega⟩
    have hv := h.scale K hK.1
    have habs : m * 2 ^ (p + (K : Int)).toNat = n.natAbs * 2 ^ K := by
      rw [signed_val] at hv
      have := congrArg Int.natAbs hv
      rw [Int.natAbs_mul, Int.natAbs_mul, Int.natAbs_mul] at this
      have e1 : (if s then (-1 : Int) else 1).natAbs = 1 := by cases s <;> rfl
      rw [e1, Int.natAbs_pow, Int.natAbs_pow] at this
      simpa using this
    have hn0 : n.natAbs ≠ 0 := by
      intro e
      rw [e, Nat.zero_mul] at habs
      exact absurd habs (Nat.ne_of_gt (Nat.mul_pos (Nat.pos_of_ne_zero hm) (Nat.pow_pos (by decide))))
    have hn53 : n.natAbs ≤ 2 ^ 53 := by rw [pow53]; omega
    -- log2 of the number
    have hlog : (n.natAbs.log2 : Int) = p + (m.log2 : Int) := by
      obtain ⟨g1, g2⟩ := log2_bd n.natAbs hn0
      have a1 : 2 ^ (m.log2 + (p + (K : Int)).toNat) ≤ n.natAbs * 2 ^ K := by rw [← habs, Nat.pow_add]; exact Nat.mul_le_mul_right _ hl1
      have a2 : n.natAbs * 2 ^ K < 2 ^ (m.log2 + 1 + (p + (K : Int)).toNat) := by rw [← habs, Nat.pow_add]; exact Nat.mul_lt_mul_of_pos_right hl2 (Nat.pow_pos (by decide))
      have b1 : 2 ^ (n.natAbs.log2 + K) ≤ n.natAbs * 2 ^ K := by rw [Nat.pow_add]; exact Nat.mul_le_mul_right _ g1
      have b2 : n.natAbs * 2 ^ K < 2 ^ (n.natAbs.log2 + 1 + K) := by rw [Nat.pow_add]; exact Nat.mul_lt_mul_of_pos_right g2 (Nat.pow_pos (by decide))
      have c1 : m.log2 + (p + (K : Int)).toNat < n.natAbs.log2 + 1 + K := (Nat.pow_lt_pow_iff_right (by decide)).1 (Nat.lt_of_le_of_lt a1 b2)
      have c2 : n.natAbs.log2 + K < m.log2 + 1 + (p + (K : Int)).toNat := (Nat.pow_lt_pow_iff_right (by decide)).1 (Nat.lt_of_le_of_lt b1 a2)
      omega
    have hlog53 : n.natAbs.log2 ≤ 53 := by
      obtain ⟨g1, _⟩ := log2_bd n.natAbs hn0
      exact (Nat.pow_le_pow_iff_right (by decide : 1 < 2)).1 (Nat.le_trans g1 hn53)
    obtain ⟨t, ht⟩ : ∃ t : Nat, t = n.natAbs.log2 := ⟨_, rfl⟩
    obtain ⟨last, hlast⟩ : ∃ last : Int, last = (t : Int) - 52 := ⟨_, rfl⟩
    have hmax : max (p + (m.log2 : Int) - 52) (-1074) = last := by omega
    simp only [hmax]
    -- what is kept
    obtain ⟨q, hq⟩ : ∃ q : Nat, q * 2 ^ (last + (K : Int)).toNat = n.natAbs * 2 ^ K := by
      rcases Int.lt_or_le 0 last with h1 | h1
      · have e1 : last = 1 := by omega
        have e53 : n.natAbs = 2 ^ 53 := by
          obtain ⟨g1, _⟩ := log2_bd n.natAbs hn0
          rw [← ht, show t = 53 by omega] at g1
          omega
        refine ⟨2 ^ 52, ?_⟩
        rw [e53, e1, show ((1 : Int) + (K : Int)).toNat = 1 + K by omega, ← Nat.pow_add, ← Nat.pow_add]
        congr 1
        omega
      · refine ⟨n.natAbs * 2 ^ (-last).toNat, ?_⟩
        rw [Nat.mul_assoc, ← Nat.pow_add]
        congr 2
        omega
    have hq1 : 2 ^ 52 ≤ q ∧ q < 2 ^ 53 := by
      obtain ⟨g1, g2⟩ := log2_bd n.natAbs hn0
      rw [← ht] at g1 g2
      have b1 : 2 ^ (t + K) ≤ q * 2 ^ (last + (K : Int)).toNat := by rw [hq, Nat.pow_add]; exact Nat.mul_le_mul_right _ g1
      have b2 : q * 2 ^ (last + (K : Int)).toNat < 2 ^ (t + 1 + K) := by rw [hq, Nat.pow_add]; exact Nat.mul_lt_mul_of_pos_right g2 (Nat.pow_pos (by decide))
      have e1 : t + K = 52 + (last + (K : Int)).toNat := by omega
      have e2 : t + 1 + K = 53 + (last + (K : Int)).toNat := by omega
      rw [e1, Nat.pow_add] at b1
      rw [e2, Nat.pow_add] at b2
      exact ⟨Nat.le_of_mul_le_mul_right b1 (Nat.pow_pos (by decide)), Nat.lt_of_mul_lt_mul_right b2⟩
    have hcut : Toward.even.cut s (m <<< (p - last).toNat) (last - p).toNat = q := by
      apply cut_exact
      rw [Nat.shiftLeft_eq]
      -- scale both sides
      have hpos : 0 < 2 ^ (min p last + (K : Int)).toNat := Nat.pow_pos (by decide)
      apply Nat.eq_of_mul_eq_mul_right hpos
      rw [Nat.mul_assoc, Nat.mul_assoc, ← Nat.pow_add, ← Nat.pow_add]
      rw [show (p - last).toNat + (min p last + (K : Int)).toNat = (p + (K : Int)).toNat by omega, show (last - p).toNat + (min p last + (K : Int)).toNat = (last + (K : Int)).toNat by omega, habs, hq]
    simp only [hcut]
    obtain ⟨T, hT⟩ : ∃ T : Nat, T = (last - -1074).toNat := ⟨_, rfl⟩
    rw [← hT]
    rw [pow52, pow53] at hq1
    have hTI : (T : Int) = last + 1074 := by omega
    have hTm : T ≤ 1075 := by omega
    rw [read_norm s T q hTm hq1.1 hq1.2]
    refine RepD.mk K (by omega) ?_
    rw [show ((T : Int) - 1074 + (K : Int)).toNat = (last + (K : Int)).toNat by omega]
    rw [signed_val] at hv ⊢
    have c1 : ((q * 2 ^ (last + (K : Int)).toNat : Nat) : Int) = ((m * 2 ^ (p + (K : Int)).toNat : Nat) : Int) := by rw [hq, habs]
    rw [Int.natCast_mul, Int.natCast_mul, Int.natCast_pow, Int.natCast_pow] at c1
    have c2 : (q : Int) * 2 ^ (last + (K : Int)).toNat = (m : Int) * 2 ^ (p + (K : Int)).toNat := by simpa using c1
    rw [c2, hv]

theorem write_rep {d : Datum} {n : Int} (h : RepD d n) (hn : -9007199254740992 ≤ n ∧ n ≤ 9007199254740992) : Rep (double.write d) n := by
  obtain ⟨s, m, p, rfl, h⟩ := h.form
  exact nearest_rep s m p n h hn

/-- Truncation of a whole number. -/
theorem toInt_rep {d : Datum} {n : Int} (h : RepD d n) : d.toInt .zero = some n := by
  obtain ⟨s, m, p, rfl, h⟩ := h.form
  obtain ⟨K, hK⟩ : ∃ K : Nat, 0 ≤ p + (K : Int) := ⟨(-p).toNat, by omega⟩
  have hv := h.scale K hK
  have habs : m * 2 ^ (p + (K : Int)).toNat = n.natAbs * 2 ^ K := by
    rw [signed_val] at hv
    have := congrArg Int.natAbs hv
    rw [Int.natAbs_mul, Int.natAbs_mul, Int.natAbs_mul] at this
    have e1 : (if s then (-1 : Int) else 1).natAbs = 1 := by cases s <;> rfl
    rw [e1, Int.natAbs_pow, Int.natAbs_pow] at this
    simpa using this
  have hcut : Toward.zero.cut s (m <<< p.toNat) (-p).toNat = n.natAbs := by
    apply cut_exact
    rw [Nat.shiftLeft_eq]
    apply Nat.eq_of_mul_eq_mul_right (show 0 < 2 ^ (min p 0 + (K : Int)).toNat from Nat.pow_pos (by decide))
    rw [Nat.mul_assoc, Nat.mul_assoc, ← Nat.pow_add, ← Nat.pow_add]
    rw [show p.toNat + (min p 0 + (K : Int)).toNat = (p + (K : Int)).toNat by omega, show (-p).toNat + (min p 0 + (K : Int)).toNat = K by omega, habs]
  unfold Datum.toInt Datum.integral
  simp only [hcut]
  rw [signed_val]
  congr 1
  rw [signed_val] at hv
  have hpos : (0 : Int) < 2 ^ K := Int.pow_pos (by decide)
  have hpos2 : (0 : Int) ≤ (m : Int) * 2 ^ (p + (K : Int)).toNat := Int.mul_nonneg (by omega) (Int.le_of_lt (Int.pow_pos (by decide)))
  cases s with
  | false =>
    simp only [Bool.false_eq_true, if_false, Int.one_mul] at hv ⊢
    rw [hv] at hpos2
    have : 0 ≤ n := by
      rcases Int.lt_or_le n 0 with h1 | h1
      · have := Int.mul_lt_mul_of_pos_right h1 hpos; omega
      · exact h1
    simp; omega
  | true =>
    simp only [if_true] at hv ⊢
    have : n ≤ 0 := by
      rcases Int.lt_or_le 0 n with h1 | h1
      · have := Int.mul_lt_mul_of_pos_right h1 hpos; omega
      · exact h1
    simp; omega

/-! ### what the operations give at words that are whole numbers -/

/-- the word of a whole number -/
def fb (n : Int) : Nat := floatOfInt .f64 n
theorem fb_rep (n : Int) (h : -9007199254740992 ≤ n ∧ n ≤ 9007199254740992) : Rep (fb n) n := by
  unfold fb floatOfInt FloatKind.nearest FloatKind.encode FloatKind.format
  refine write_rep (RepD.mk 0 (by simp) ?_) h
  rw [signed_val]
  by_cases hn : n < 0
  · simp [hn]; omega
  · simp [hn]; omega

section
variable {P : Program} (w : World) (t : TypeId) {x y : Nat} {a b : Int}
theorem ord_rep (ha : Rep x a) (hb : Rep y b) : FloatKind.f64.format.order x y = some (compare a b) := order_rep ha hb
theorem run_geq_rep (ha : Rep x a) (hb : Rep y b) : (binOp .geq t (.float .f64 x) (.float .f64 y)).run P w = .ok (.bool (decide (b ≤ a))) w := by
  simp only [binOp, Op.floatCmp, ord_rep ha hb]
  rcases Int.lt_trichotomy a b with h | h | h
  · simp [Int.compare_eq_lt.2 h]; omega
  · subst h; simp
  · simp [Int.compare_eq_gt.2 h]; omega
theorem run_leq_rep (ha : Rep x a) (hb : Rep y b) : (binOp .leq t (.float .f64 x) (.float .f64 y)).run P w = .ok (.bool (decide (a ≤ b))) w := by
  simp only [binOp, Op.floatCmp, ord_rep ha hb]
  rcases Int.lt_trichotomy a b with h | h | h
  · simp [Int.compare_eq_lt.2 h]; omega
  · subst h; simp
  · simp [Int.compare_eq_gt.2 h]; omega
theorem run_eql_rep (ha : Rep x a) (hb : Rep y b) : (binOp .eql t (.float .f64 x) (.float .f64 y)).run P w = .ok (.bool (a == b)) w := by
  simp only [binOp, Op.floatCmp, ord_rep ha hb]
  rcases Int.lt_trichotomy a b with h | h | h
  · have : (a == b) = false := by simp; omega
    simp [Int.compare_eq_lt.2 h, this]
  · subst h; simp
  · have : (a == b) = false := by simp; omega
    simp [Int.compare_eq_gt.2 h, this]
theorem eq_rep (ha : Rep x a) (hb : Rep y b) : (FloatKind.f64.format.order x y == some .eq) = (a == b) := by
  rw [ord_rep ha hb]
  rcases Int.lt_trichotomy a b with h | h | h
  · have : (a == b) = false := by simp; omega
    simp [Int.compare_eq_lt.2 h, this]
  · subst h; simp
  · have : (a == b) = false := by simp; omega
    simp [Int.compare_eq_gt.2 h, this]
theorem geq_rep (ha : Rep x a) (hb : Rep y b) : (FloatKind.f64.format.order x y == some .gt || FloatKind.f64.format.order x y == some .eq) = decide (b ≤ a) := by
  rw [ord_rep ha hb]
  rcases Int.lt_trichotomy a b with h | h | h
  · simp [Int.compare_eq_lt.2 h]; omega
  · subst h; simp
  · simp [Int.compare_eq_gt.2 h]; omega
theorem leq_rep (ha : Rep x a) (hb : Rep y b) : (FloatKind.f64.format.order x y == some .lt || FloatKind.f64.format.order x y == some .eq) = decide (a ≤ b) := by
  rw [ord_rep ha hb]
  rcases Int.lt_trichotomy a b with h | h | h
  · simp [Int.compare_eq_lt.2 h]; omega
  · subst h; simp
  · simp [Int.compare_eq_gt.2 h]; omega
theorem run_toInt_rep (src dst : TypeId) (hs : (P.underlying src).isSome = true) (hd : P.underlying dst = some (.int .i64)) (ha : Rep x a) (h : -9007199254740992 ≤ a ∧ a ≤ 9007199254740992) :
    (convert src dst (.float .f64 x)).run P w = .ok (.int .i64 a) w := by
  refine run_convert_float_int w src dst .f64 .i64 x a hs hd ?_
  unfold floatToIntVal
  rw [show FloatKind.f64.decode x = double.read x from rfl, toInt_rep ha]
  have h1 : IntKind.i64.min = -9223372036854775808 := rfl
  have h2 : IntKind.i64.max = 9223372036854775807 := rfl
  simp only []
  rw [if_pos]
  rw [h1, h2]
  omega

theorem add_rep (ha : Rep x a) (hb : Rep y b) (h : -9007199254740992 ≤ a + b ∧ a + b ≤ 9007199254740992) : ∃ r, floatBits .add .f64 x y = some r ∧ Rep r (a + b) := by
  obtain ⟨f, hf, hr⟩ := sum_rep ha hb
  refine ⟨double.write f, ?_, write_rep hr h⟩
  show ((double.read x).sum (double.read y)).map double.write = _
  rw [hf]; rfl
theorem sub_rep (ha : Rep x a) (hb : Rep y b) (h : -9007199254740992 ≤ a - b ∧ a - b ≤ 9007199254740992) : ∃ r, floatBits .sub .f64 x y = some r ∧ Rep r (a - b) := by
  obtain ⟨f, hf, hr⟩ := sum_rep ha (opp_rep hb)
  refine ⟨double.write f, ?_, write_rep (by rw [Int.sub_eq_add_neg]; exact hr) h⟩
  show ((double.read x).sum (double.read y).opposite).map double.write = _
  rw [hf]; rfl
theorem mul_rep (ha : Rep x a) (hb : Rep y b) (h : -9007199254740992 ≤ a * b ∧ a * b ≤ 9007199254740992) : ∃ r, floatBits .mul .f64 x y = some r ∧ Rep r (a * b) := by
  obtain ⟨f, hf, hr⟩ := prod_rep ha hb
  refine ⟨double.write f, ?_, write_rep hr h⟩
  show ((double.read x).product (double.read y)).map double.write = _
  rw [hf]; rfl
end

/-- the words 2^53 and -2^53 as the text has them -/
theorem rep_most : Rep 4845873199050653696 9007199254740992 := ⟨false, 4503599627370496, 1, 0, by decide +kernel, by decide, by decide⟩
theorem rep_least : Rep 14069245235905429504 (-9007199254740992) := ⟨true, 4503599627370496, 1, 0, by decide +kernel, by decide, by decide⟩
theorem rep_zero : Rep 0 0 := by
  unfold Rep
  rw [show double.read 0 = .number false 0 (-1074) from by decide +kernel]
  exact RepD.mk 1100 (by decide) (by rw [signed_val, Int.natCast_zero, Int.zero_mul, Int.mul_zero, Int.zero_mul])

/-! ### any number, in the range of 2^53 -/
/-- A word that is a number, of whatever value. -/
def Num (b : Nat) : Prop := ∃ s m p, double.read b = .number s m p
theorem Rep.num {b : Nat} {n : Int} (h : Rep b n) : Num b := by
  obtain ⟨s, m, p, K, he, _⟩ := h
  exact ⟨s, m, p, he⟩

theorem cut_le (neg : Bool) (n drop : Nat) : Toward.zero.cut neg n drop * 2 ^ drop ≤ n := by
  unfold Toward.cut
  simp only [Nat.one_shiftLeft]
  simp only [Bool.toNat_false, Nat.add_zero]
  rcases Nat.le_total drop (n.log2 + 2) with h | h
  · rw [Nat.min_eq_left h]
    exact Nat.div_mul_le_self _ _
  · rw [Nat.min_eq_right h]
    have : n < 2 ^ (n.log2 + 2) := by
      by_cases h0 : n = 0
      · subst h0; exact Nat.pow_pos (by decide)
      · have := (log2_bd n h0).2
        rw [Nat.pow_succ]
        omega
    rw [Nat.div_eq_of_lt this]
    simp

/-- A number that isn't beyond 2^53 is cut to a whole number that isn't. -/
theorem num_range {b : Nat} (h : Num b) (h1 : (FloatKind.f64.format.order b 14069245235905429504 == some .gt || FloatKind.f64.format.order b 14069245235905429504 == some .eq) = true)
    (h2 : (FloatKind.f64.format.order b 4845873199050653696 == some .lt || FloatKind.f64.format.order b 4845873199050653696 == some .eq) = true) :
    ∃ n : Int, -9007199254740992 ≤ n ∧ n ≤ 9007199254740992 ∧ (double.read b).toInt .zero = some n := by
  obtain ⟨s, m, p, hr⟩ := h
  obtain ⟨L, hp⟩ : ∃ L : Nat, 0 ≤ p + (L : Int) := ⟨(-p).toNat, by omega⟩
  have e1 : double.read 14069245235905429504 = .number true 4503599627370496 1 := by decide +kernel
  have e2 : double.read 4845873199050653696 = .number false 4503599627370496 1 := by decide +kernel
  have o1 : FloatKind.f64.format.order b 14069245235905429504 = some (compare (signed s m (p + (L : Int)).toNat) (signed true 4503599627370496 ((1 : Int) + (L : Int)).toNat)) := by
    show (double.read b).order (double.read 14069245235905429504) = _
    rw [hr, e1, order_scale s true m 4503599627370496 p 1 L hp (by omega)]
  have o2 : FloatKind.f64.format.order b 4845873199050653696 = some (compare (signed s m (p + (L : Int)).toNat) (signed false 4503599627370496 ((1 : Int) + (L : Int)).toNat)) := by
    show (double.read b).order (double.read 4845873199050653696) = _
    rw [hr, e2, order_scale s false m 4503599627370496 p 1 L hp (by omega)]
  rw [o1] at h1
  rw [o2] at h2
  have ec : ((1 : Int) + (L : Int)).toNat = 1 + L := by omega
  rw [ec] at h1 h2
  have hp2 : (0 : Int) < 2 ^ L := Int.pow_pos (by decide)
  have lo : -9007199254740992 * 2 ^ L ≤ signed s m (p + (L : Int)).toNat := by
    have hc : signed true 4503599627370496 (1 + L) = -9007199254740992 * 2 ^ L := by rw [signed_val, Int.pow_add, if_pos rfl]; generalize (2 : Int) ^ L = A; omega
    rw [hc] at h1
    rcases Int.lt_trichotomy (signed s m (p + (L : Int)).toNat) (-9007199254740992 * 2 ^ L) with hh | hh | hh
    · simp [Int.compare_eq_lt.2 hh] at h1
    · omega
    · omega
  have hi : signed s m (p + (L : Int)).toNat ≤ 9007199254740992 * 2 ^ L := by
    have hc : signed false 4503599627370496 (1 + L) = 9007199254740992 * 2 ^ L := by rw [signed_val, Int.pow_add, if_neg (by decide)]; generalize (2 : Int) ^ L = A; omega
    rw [hc] at h2
    rcases Int.lt_trichotomy (signed s m (p + (L : Int)).toNat) (9007199254740992 * 2 ^ L) with hh | hh | hh
    · omega
    · omega
    · simp [Int.compare_eq_gt.2 hh] at h2
  have hm : m * 2 ^ (p + (L : Int)).toNat ≤ 9007199254740992 * 2 ^ L := by
    have hcast : ((m * 2 ^ (p + (L : Int)).toNat : Nat) : Int) = (m : Int) * 2 ^ (p + (L : Int)).toNat := by rw [Int.natCast_mul, Int.natCast_pow]; rfl
    have hcast2 : ((9007199254740992 * 2 ^ L : Nat) : Int) = 9007199254740992 * 2 ^ L := by rw [Int.natCast_mul, Int.natCast_pow]; rfl
    rw [signed_val] at lo hi
    cases s
    · simp only [Bool.false_eq_true, if_false, Int.one_mul] at hi
      rw [← hcast, ← hcast2] at hi
      exact Int.ofNat_le.1 hi
    · simp only [if_true] at lo
      rw [← hcast] at lo
      omega
  obtain ⟨q, hq⟩ : ∃ q : Nat, q = Toward.zero.cut s (m <<< p.toNat) (-p).toNat := ⟨_, rfl⟩
  have hqb : q ≤ 9007199254740992 := by
    have h3 := cut_le s (m <<< p.toNat) (-p).toNat
    rw [← hq, Nat.shiftLeft_eq] at h3
    have h4 := Nat.mul_le_mul_right (2 ^ (min p 0 + (L : Int)).toNat) h3
    rw [Nat.mul_assoc, Nat.mul_assoc, ← Nat.pow_add, ← Nat.pow_add, show p.toNat + (min p 0 + (L : Int)).toNat = (p + (L : Int)).toNat by omega, show (-p).toNat + (min p 0 + (L : Int)).toNat = L by omega] at h4
    exact Nat.le_of_mul_le_mul_right (Nat.le_trans h4 hm) (Nat.pow_pos (by decide))
  refine ⟨signed s q 0, ?_, ?_, ?_⟩
  · rw [signed_val]; cases s <;> simp <;> omega
  · rw [signed_val]; cases s <;> simp <;> omega
  · rw [hr]
    unfold Datum.toInt Datum.integral
    simp only [← hq]

theorem run_toInt_num {P : Program} (w : World) (src dst : TypeId) (hs : (P.underlying src).isSome = true) (hd : P.underlying dst = some (.int .i64)) {b : Nat} {n : Int}
    (h : -9007199254740992 ≤ n ∧ n ≤ 9007199254740992 ∧ (double.read b).toInt .zero = some n) : (convert src dst (.float .f64 b)).run P w = .ok (.int .i64 n) w := by
  refine run_convert_float_int w src dst .f64 .i64 b n hs hd ?_
  unfold floatToIntVal
  rw [show FloatKind.f64.decode b = double.read b from rfl, h.2.2]
  have h1 : IntKind.i64.min = -9223372036854775808 := rfl
  have h2 : IntKind.i64.max = 9223372036854775807 := rfl
  simp only []
  rw [if_pos]
  rw [h1, h2]
  omega

theorem cut_bound (way : Toward) (neg : Bool) (n drop : Nat) : way.cut neg n drop ≤ n / 2 ^ drop + 1 := by
  unfold Toward.cut
  simp only [Nat.one_shiftLeft]
  have h1 : n / 2 ^ min drop (n.log2 + 2) ≤ n / 2 ^ drop := by
    rcases Nat.le_total drop (n.log2 + 2) with h | h
    · rw [Nat.min_eq_left h]; exact Nat.le_refl _
    · rw [Nat.min_eq_right h]
      have : n < 2 ^ (n.log2 + 2) := by
        by_cases h0 : n = 0
        · subst h0; exact Nat.pow_pos (by decide)
        · have := (log2_bd n h0).2
          rw [Nat.pow_succ]
          omega
      rw [Nat.div_eq_of_lt this]
      exact Nat.zero_le _
  have h2 : ∀ b : Bool, b.toNat ≤ 1 := fun b => by cases b <;> decide
  exact Nat.add_le_add h1 (h2 _)

theorem read_num (s : Bool) (T q : Nat) (hT : T ≤ 1300) (h2 : q ≤ 9007199254740992) : Num (double.word s (min (T * double.binade + q) double.infRung)) := by
  rw [binade_eq, infRung_eq]
  obtain ⟨r, hr⟩ : ∃ r : Nat, r = T * 4503599627370496 + q := ⟨_, rfl⟩
  have hmin : min (T * 4503599627370496 + q) 9218868437227405312 = r := by omega
  unfold Num
  rw [hmin, read_word s r (by rw [signW_eq]; omega), binade_eq, infRung_eq]
  by_cases h0 : r < 4503599627370496
  · rw [if_pos h0]; exact ⟨_, _, _, rfl⟩
  · rw [if_neg h0, if_pos (by omega)]; exact ⟨_, _, _, rfl⟩

theorem nearest_num (s : Bool) (m : Nat) (p n : Int) (h : RepD (.number s m p) n) (hn : n.natAbs < 2 ^ 200) : Num (double.nearest s m p) := by
  unfold Format.nearest
  by_cases hm : m = 0
  · rw [if_pos hm]
    exact ⟨_, _, _, by rw [read_word s 0 (by decide), if_pos (by decide)]⟩
  · rw [if_neg hm]
    obtain ⟨hl1, hl2⟩ := log2_bd m hm
    have hL : double.leastPlace = -1074 := by decide
    have hF : (double.fractionBits : Int) = 52 := rfl
    rw [hL, hF]
    obtain ⟨K, hK⟩ : ∃ K : Nat, 0 ≤ p + (K : Int) ∧ 1200 ≤ K := ⟨(-p).toNat + 1200, by omega, by omega⟩
    have hv := h.scale K hK.1
    have habs : m * 2 ^ (p + (K : Int)).toNat = n.natAbs * 2 ^ K := by
      rw [signed_val] at hv
      have := congrArg Int.natAbs hv
      rw [Int.natAbs_mul, Int.natAbs_mul, Int.natAbs_mul] at this
      have e1 : (if s then (-1 : Int) else 1).natAbs = 1 := by cases s <;> rfl
      rw [e1, Int.natAbs_pow, Int.natAbs_pow] at this
      simpa using this
    have hlog : p + (m.log2 : Int) ≤ 200 := by
      have a1 : 2 ^ (m.log2 + (p + (K : Int)).toNat) ≤ n.natAbs * 2 ^ K := by rw [← habs, Nat.pow_add]; exact Nat.mul_le_mul_right _ hl1
      have a2 : n.natAbs * 2 ^ K < 2 ^ (200 + K) := by rw [Nat.pow_add]; exact Nat.mul_lt_mul_of_pos_right hn (Nat.pow_pos (by decide))
      have c1 : m.log2 + (p + (K : Int)).toNat < 200 + K := (Nat.pow_lt_pow_iff_right (by decide)).1 (Nat.lt_of_le_of_lt a1 a2)
      omega
    obtain ⟨last, hlast⟩ : ∃ last : Int, last = max (p + (m.log2 : Int) - 52) (-1074) := ⟨_, rfl⟩
    simp only [← hlast]
    obtain ⟨q, hq⟩ : ∃ q : Nat, q = Toward.even.cut s (m <<< (p - last).toNat) (last - p).toNat := ⟨_, rfl⟩
    simp only [← hq]
    have hqb : q ≤ 9007199254740992 := by
      have h3 := cut_bound .even s (m <<< (p - last).toNat) (last - p).toNat
      rw [← hq] at h3
      have h4 : m <<< (p - last).toNat < 2 ^ (last - p).toNat * 9007199254740992 := by
        have hpos : 0 < 2 ^ (min p last + (K : Int)).toNat := Nat.pow_pos (by decide)
        apply Nat.lt_of_mul_lt_mul_right (a := 2 ^ (min p last + (K : Int)).toNat)
        rw [Nat.shiftLeft_eq, Nat.mul_assoc, ← Nat.pow_add, show (p - last).toNat + (min p last + (K : Int)).toNat = (p + (K : Int)).toNat by omega]
        rw [Nat.mul_right_comm, ← Nat.pow_add, show (last - p).toNat + (min p last + (K : Int)).toNat = (last + (K : Int)).toNat by omega]
        have a3 : m * 2 ^ (p + (K : Int)).toNat < 2 ^ (m.log2 + 1) * 2 ^ (p + (K : Int)).toNat := Nat.mul_lt_mul_of_pos_right hl2 (Nat.pow_pos (by decide))
        rw [← Nat.pow_add] at a3
        have a4 : 2 ^ (m.log2 + 1 + (p + (K : Int)).toNat) ≤ 2 ^ ((last + (K : Int)).toNat + 53) := Nat.pow_le_pow_right (by decide) (by omega)
        rw [Nat.pow_add 2 (last + (K : Int)).toNat 53, pow53] at a4
        omega
      have h5 : m <<< (p - last).toNat / 2 ^ (last - p).toNat < 9007199254740992 := Nat.div_lt_of_lt_mul h4
      omega
    obtain ⟨T, hT⟩ : ∃ T : Nat, T = (last - -1074).toNat := ⟨_, rfl⟩
    rw [← hT]
    have hTm : T ≤ 1300 := by omega
    exact read_num s T q hTm hqb

theorem mul_num {x y : Nat} {a b : Int} (ha : Rep x a) (hb : Rep y b) (h : (a * b).natAbs < 2 ^ 200) : ∃ r, floatBits .mul .f64 x y = some r ∧ Num r := by
  obtain ⟨f, hf, hr⟩ := prod_rep ha hb
  refine ⟨double.write f, ?_, ?_⟩
  · show ((double.read x).product (double.read y)).map double.write = _
    rw [hf]; rfl
  · obtain ⟨s, m, p, rfl, hr⟩ := hr.form
    exact nearest_num s m p _ hr h
end Go.Proofs.Ytpheeblpfcipaaa
