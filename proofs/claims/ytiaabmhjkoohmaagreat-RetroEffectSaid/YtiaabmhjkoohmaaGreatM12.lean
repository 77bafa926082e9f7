/-
  Contracts of functions that the claim reaches, and the plain laws behind them. Conditions as named in each.
-/
import Derived.Test.YtiaabmhjkoohmaaGreatDo23
namespace Go.Proofs.YtiaabmhjkoohmaaGreat
set_option linter.unusedVariables false
set_option linter.unusedSimpArgs false
structure Inv23 (nom : Int) (D : Dk) : Prop where
 re : reckE D.e.tb nom 0 D.e.ins = 0
 el : ∀ z ∈ D.e.ins, chkA D.e.tb.kds z.l z.l.length = 0
 nx : chkA D.e.tb.kds D.e.next D.e.next.length = 0
theorem Inv23.new (nom : Int) (t : Tb) (c : Cd) : Inv23 nom (dnewV (newV t c)) := by
 refine ⟨?_, fun z hz => (by cases hz), ?_⟩
 ·
  show reckE t nom 0 [] = 0
  unfold reckE
  rw [sE9 (by rfl), sE9 (by rfl), sE9 (by rfl)]
  rfl
 ·
  show chkA t.kds [] 0 = 0
  rfl
theorem set_mem {α : Type} {l : List α} {i : Nat} {a z : α} (h : z ∈ l.set i a) : z = a ∨ z ∈ l := (List.mem_or_eq_of_mem_set h).symm
theorem Inv23.act {nom cnt : Int} {D : Dk} (h : Inv23 nom D) (o : Op) (hr : doE D nom cnt o = 0) : Inv23 nom (doV D nom o) := by
 unfold doE at hr
 unfold doV
 by_cases h0 : o.k = 0
 ·
  rw [if_pos h0] at hr ⊢
  exact ⟨h.re, h.el, (sZ9 hr).2⟩
 rw [if_neg h0] at hr ⊢
 by_cases h1 : o.k = 1
 ·
  rw [if_pos h1] at hr ⊢
  exact ⟨h.re, h.el, h.nx⟩
 rw [if_neg h1] at hr ⊢
 by_cases h2 : o.k = 2
 ·
  rw [if_pos h2] at hr ⊢
  exact ⟨h.re, h.el, h.nx⟩
 rw [if_neg h2] at hr ⊢
 by_cases h3 : o.k = 3
 ·
  rw [if_pos h3] at hr ⊢
  exact ⟨h.re, h.el, h.nx⟩
 rw [if_neg h3] at hr ⊢
 by_cases h4 : o.k = 4
 ·
  rw [if_pos h4] at hr ⊢
  exact ⟨h.re, h.el, h.nx⟩
 rw [if_neg h4] at hr ⊢
 by_cases h5 : o.k = 5
 ·
  rw [if_pos h5] at hr ⊢
  have ht := (sZ9 hr).1
  have hq := (sZ9 (sZ9 ht).2).1
  refine ⟨hq, fun z hz => ?_, rfl⟩
  rcases List.mem_append.1 (show z ∈ D.e.ins ++ [⟨D.e.c, D.e.next⟩] from hz) with hz | hz
  ·
   exact h.el z hz
  ·
   rw [List.mem_singleton] at hz; subst hz; exact h.nx
 rw [if_neg h5] at hr ⊢
 by_cases h6 : o.k = 6
 ·
  rw [if_pos h6] at hr ⊢
  obtain ⟨_, h7⟩ := dfixE_zero hr
  obtain ⟨_, _, h8, h9⟩ := replE_zero h7
  refine ⟨h9, fun z hz => ?_, h.nx⟩
  rcases set_mem (show z ∈ D.e.ins.set _ _ from hz) with rfl | hz
  ·
   exact h8
  ·
   exact h.el z hz
 ·
  rw [if_neg h6] at hr; cases hr
theorem doV_fx {D : Dk} {nom : Int} (o : Op) : (doV D nom o).fx.length ≤ D.fx.length + 1 := by
 unfold doV
 split
 ·
  exact Nat.le_succ _
 split
 ·
  exact Nat.le_succ _
 split
 ·
  exact Nat.le_succ _
 split
 ·
  exact Nat.le_succ _
 split
 ·
  exact Nat.le_succ _
 split
 ·
  exact Nat.le_succ _
 split
 ·
  show (D.fx ++ [_]).length ≤ _
  rw [List.length_append]; exact Nat.le_refl _
 ·
  exact Nat.le_succ _
theorem putIn_self (l : List In) (k : Int) : putIn l k (l.getD (k.toNat - 1) in0).l = l := by
 unfold putIn
 rw [show (⟨(l.getD (k.toNat - 1) in0).c, (l.getD (k.toNat - 1) in0).l⟩ : In) = l.getD (k.toNat - 1) in0 from rfl]
 apply List.ext_getElem?
 intro i
 rw [List.getElem?_set]
 split
 ·
  rename_i h
  subst h
  split
  ·
   rename_i h2
   rw [List.getD_eq_getElem?_getD, List.getElem?_eq_getElem h2]; rfl
  ·
   rename_i h2
   exact (List.getElem?_eq_none (by omega)).symm
 ·
  rfl
theorem okO_self {x y : Int} (h : okO So9 x y = true) : okO So9 y y = true := by
 have h2 := (okO_yes h).2.1
 unfold okO
 rw [h2, show So9 y y = 0 from Int.sub_self y]
 rfl
theorem okE_zero {b : Bool} {e : Int} (he : e ≠ 0) (h : okE b e = 0) : b = true := by
 unfold okE at h
 split at h
 ·
  assumption
 ·
  exact absurd h he
structure NoEf (V : Ef) : Prop where
 b : V.b = bs0
 tx : V.tx = 0
 sh : V.sh = 0
 net : V.net = 0
 rows : ∀ s ∈ V.rows, s = sh0
theorem NoEf.zero : NoEf ef0 := ⟨rfl, rfl, rfl, rfl, fun s hs => by cases hs⟩
structure BetOK (now was : Sp) : Prop where
 c : okO So9 now.b.c was.b.c = true
 t : okO So9 now.b.t was.b.t = true
 s : okO So9 now.b.s was.b.s = true
 tx : okO So9 now.tx was.tx = true
 sh : okO So9 now.sh was.sh = true
 net : okO So9 now.net was.net = true
 len : now.rows.length = was.rows.length
 rows : ∀ k, k < now.rows.length → lessAtE now.rows was.rows k = 0
theorem betE_ok {was now : Sp} (h : betE was now = 0) : BetOK now was := by
 unfold betE at h
 obtain ⟨h1, h⟩ := sZ9 h
 obtain ⟨h2, h⟩ := sZ9 h
 obtain ⟨h3, h⟩ := sZ9 h
 obtain ⟨h4, h5⟩ := sZ9 h
 have hb : bothOK So9 now.b was.b = true := by
  unfold bothE at h1
  split at h1
  ·
   assumption
  ·
   cases h1
 unfold bothOK at hb
 rw [Bool.and_eq_true, Bool.and_eq_true] at hb
 unfold deltaE at h5
 split at h5
 ·
  rename_i hl
  exact ⟨hb.1.1, hb.1.2, hb.2, okE_zero (by decide) h2, okE_zero (by decide) h3, okE_zero (by decide) h4, hl, firstNZ_all _ _ h5⟩
 ·
  cases h5
theorem bothOK_of {a b : Bs} (h1 : okO So9 a.c b.c = true) (h2 : okO So9 a.t b.t = true) (h3 : okO So9 a.s b.s = true) : bothOK So9 a b = true := by
 unfold bothOK
 rw [h1, h2, h3]; rfl
theorem BetOK.b {now was : Sp} (h : BetOK now was) : bothV So9 now.b was.b = ⟨now.b.c - was.b.c, now.b.t - was.b.t, now.b.s - was.b.s⟩ := by
 unfold bothV
 rw [if_pos (bothOK_of h.c h.t h.s)]; rfl
theorem lessAt_ok {x y : List Sh} {k : Nat} (h : lessAtE x y k = 0) : okO So9 (x.getD k sh0).a (y.getD k sh0).a = true ∧ okO So9 (x.getD k sh0).b (y.getD k sh0).b = true ∧ lessAtV x y k = ⟨(x.getD k sh0).a - (y.getD k sh0).a, (x.getD k sh0).b - (y.getD k sh0).b⟩ := by
 have h0 := h
 unfold lessAtE lessE at h
 obtain ⟨h1, h2⟩ := sZ9 h
 have h1 := okE_zero (by decide) h1
 have h2 := okE_zero (by decide) h2
 simp only [Bool.and_eq_true] at h1 h2
 obtain ⟨a, b, c, d⟩ := h1
 obtain ⟨e, f⟩ := h2
 refine ⟨?_, ?_, ?_⟩
 ·
  unfold okO So9; rw [a, c, e]; rfl
 ·
  unfold okO So9; rw [b, d, f]; rfl
 ·
  unfold lessAtV lessV
  unfold lessAtE at h0
  rw [if_pos h0]
theorem lessAt_mk {l : List Sh} {k : Nat} (h1 : okO So9 (l.getD k sh0).a (l.getD k sh0).a = true) (h2 : okO So9 (l.getD k sh0).b (l.getD k sh0).b = true) : lessAtE l l k = 0 ∧ lessAtV l l k = sh0 := by
 have e1 := (okO_yes h1).1
 have e2 := (okO_yes h2).1
 have h : lessAtE l l k = 0 := by
  unfold lessAtE lessE
  rw [e1, e2, Int.sub_self, Int.sub_self]; rfl
 refine ⟨h, ?_⟩
 unfold lessAtV lessV
 unfold lessAtE at h
 rw [if_pos h, Int.sub_self, Int.sub_self]; rfl
theorem BetOK.self {now was : Sp} (h : BetOK now was) : betE was was = 0 ∧ NoEf (betV was was) := by
 have hk : ∀ k, k < was.rows.length → lessAtE was.rows was.rows k = 0 ∧ lessAtV was.rows was.rows k = sh0 := fun k hk => by
  obtain ⟨h1, h2, _⟩ := lessAt_ok (h.rows k (by rw [h.len]; exact hk))
  exact lessAt_mk (okO_self h1) (okO_self h2)
 refine ⟨?_, ?_, Int.sub_self _, Int.sub_self _, Int.sub_self _, fun s hs => ?_⟩
 ·
  unfold betE
  rw [sE9 (by unfold bothE; rw [if_pos (bothOK_of (okO_self h.c) (okO_self h.t) (okO_self h.s))]), sE9 (by rw [okO_self h.tx]; rfl), sE9 (by rw [okO_self h.sh]; rfl), sE9 (by rw [okO_self h.net]; rfl)]
  unfold deltaE
  rw [if_pos rfl]
  exact firstNZ_zero _ _ fun k h2 => (hk k h2).1
 ·
  show bothV So9 was.b was.b = bs0
  unfold bothV
  rw [if_pos (bothOK_of (okO_self h.c) (okO_self h.t) (okO_self h.s))]
  unfold So9
  rw [Int.sub_self, Int.sub_self, Int.sub_self]; rfl
 ·
  have hs2 : s ∈ (List.range was.rows.length).map (lessAtV was.rows was.rows) := hs
  rw [List.mem_map] at hs2
  obtain ⟨k, h1, rfl⟩ := hs2
  exact (hk k (List.mem_range.1 h1)).2
theorem eff_same {nom cnt k : Int} {els : List El} {D : Dk} (h : Inv23 nom D) (hk : 1 ≤ k ∧ k ≤ D.e.ins.length) (hf : effE D.e nom cnt k els = 0) (l : List El) (hl : l = (D.e.ins.getD (k.toNat - 1) in0).l) :
  effE D.e nom cnt k l = 0 ∧ NoEf (effV D.e nom k l) := by
 obtain ⟨h1, h2⟩ := sZ9 hf
 obtain ⟨h2, h3⟩ := sZ9 h2
 obtain ⟨h3, h4⟩ := sZ9 h3
 obtain ⟨_, h5, _, _⟩ := replE_zero h2
 obtain ⟨h6, h7⟩ := (betE_ok h4).self
 have hp : putIn D.e.ins k l = D.e.ins := by rw [hl]; exact putIn_self _ _
 have hv : replV D.e k l = D.e := by unfold replV; rw [hp]
 have hc : chkA D.e.tb.kds l l.length = 0 := by
  rw [hl]
  exact h.el _ (getD_mem' in0 (by omega))
 unfold effE effV
 rw [hv]
 refine ⟨?_, h7⟩
 rw [sE9 h1, sE9 ?_, sE9 h1]
 ·
  exact h6
 ·
  unfold replE
  rw [if_neg (by omega), sE9 h5, sE9 hc, hp]
  exact h.re
theorem eff_parts {nom cnt k : Int} {els : List El} {E : Em} (h : effE E nom cnt k els = 0) : BetOK (tryV (replV E k els) nom 0) (tryV E nom 0) := by
 obtain ⟨h1, h2⟩ := sZ9 h
 obtain ⟨h2, h3⟩ := sZ9 h2
 obtain ⟨h3, h4⟩ := sZ9 h3
 exact betE_ok h4
theorem try_rows (E : Em) (nom g : Int) : (tryV E nom g).rows.length = E.tb.cts.length := by
 show (deltaL _ _ _).length = _
 rw [deltaL_len]
 unfold reckV
 simp [sumL]
theorem eff_letters {E : Em} {nom cnt k : Int} {els : List El} (h : effE E nom cnt k els = 0) {z1 z4 : Sp} (h1 : z1 = tryV E nom 0) (h4 : z4 = tryV (replV E k els) nom 0) {Z : Ef} (hZ : Z = effV E nom k els) :
  BetOK z4 z1 ∧ Z.b.c = z4.b.c - z1.b.c ∧ Z.b.t = z4.b.t - z1.b.t ∧ Z.b.s = z4.b.s - z1.b.s ∧ Z.tx = z4.tx - z1.tx ∧ Z.sh = z4.sh - z1.sh ∧ Z.net = z4.net - z1.net ∧ Z.rows = deltaL z4.rows z1.rows z4.rows.length := by
 have hb := eff_parts h
 rw [← h1, ← h4] at hb
 have hz : Z = betV z1 z4 := by rw [hZ, h1, h4]; rfl
 subst hz
 refine ⟨hb, ?_, ?_, ?_, rfl, rfl, rfl, rfl⟩
 ·
  show (bothV So9 z4.b z1.b).c = _
  rw [hb.b]
 ·
  show (bothV So9 z4.b z1.b).t = _
  rw [hb.b]
 ·
  show (bothV So9 z4.b z1.b).s = _
  rw [hb.b]
theorem okO_diff {x y : Int} (h : okO So9 x y = true) : -100000000000 ≤ x - y ∧ x - y ≤ 100000000000 := mr_iff.1 (okO_yes h).2.2
end Go.Proofs.YtiaabmhjkoohmaaGreat
namespace Go.Proofs.YtiaabmhjkoohmaaGreat
set_option maxRecDepth 100000
set_option maxHeartbeats 25600000
set_option linter.unusedVariables false
set_option linter.unusedSimpArgs false
open Go.RowKit Tryz
open Lib (hid)
theorem none1_c (w : World) : Calls prog 60 #[.agg #[.int .i64 0, .int .i64 0]] w fun e w' => e = .returned (.bool false) ∧ Below w.heap.size w w' := by
 go_enter func60, ntmps60
 go_wp2
 go_ret
 exact ⟨by first | rfl | decide, by first | exact below1 _ _ | exact b0 _⟩
theorem noneix_c (A : Option Addr) (n c : Nat) (L : List Sh) (w : World) (hs : Sh9 w A n L) (hz : ∀ s ∈ L, s = sh0) :
  Calls prog 93 #[.slice A n c, .func (Fn.func 60) #[] #[]] w fun e w' => e = .returned (.int .i64 (-1)) ∧ Below w.heap.size w w' := by
 have HS := hid hs
 have HZ := hid hz
 have HL := hid hs.1
 have hm9 := hs.2.1
 clear hs hz
 go_enter func93, ntmps93
 go_wp2_with fail
 go_loopw [8] (fun i wr => ∃ k : Nat, k ≤ n ∧ i = .int .i64 k ∧ Below w.heap.size w wr) (fun i _ => n - (intOf i).toNat)
 case atStart => exact ⟨0, Nat.zero_le _, rfl, b0 _⟩
 case round =>
  obtain ⟨k, hk', rfl, hbl⟩ := hrel
  by_cases hk : k < n
  case neg =>
   obtain rfl : k = n := by omega
   go_wp2_with fail
   go_ret
   exact ⟨rfl, hbl⟩
  obtain ⟨b, off, rfl, hlt, hat⟩ := (HS.out.below hbl).2.2 (by omega)
  obtain ⟨c0, c1⟩ := hat k (by have := HL.out; omega)
  have hz := HZ.out (L.getD k sh0) (getD_mem' sh0 (by have := HL.out; omega))
  rw [hz] at c0 c1
  dsimp only [sh0] at c0 c1
  have K := hid (none1_c wr)
  clear hat hz
  go_wp2_with fail
  refine K.out.mono ?_
  rintro e w2 ⟨rfl, hb2⟩
  go_wp2_with fail
  go_roundw
  case rel => exact ⟨k + 1, by omega, by go_num, bT hbl hb2⟩
  case measure => simp [intOf]; omega
theorem nonecf_c (A : Option Addr) (n c : Nat) (L : List Sh) (w : World) (hs : Sh9 w A n L) (hz : ∀ s ∈ L, s = sh0) :
  Calls prog 59 #[.slice A n c, .func (Fn.func 60) #[] #[]] w fun e w' => e = .returned (.bool false) ∧ Below w.heap.size w w' := by
 have K := hid (noneix_c A n c L w hs hz)
 clear hs hz
 go_enter func59, ntmps59
 go_wp2_with fail
 refine K.out.mono ?_
 rintro e w1 ⟨rfl, hb1⟩
 go_wp2_with fail
 go_ret
 exact ⟨rfl, hb1⟩
theorem none_yes (V : Ef) (hV : NoEf V) (A : Option Addr) (n c : Nat) (w : World) (hs : Sh9 w A n V.rows) :
  Calls prog 22 #[.agg (efC V A n c)] w fun e w' => e = .returned (.bool true) ∧ Below w.heap.size w w' := by
 obtain ⟨⟨vc, vt, vs⟩, vx, vh, rows, net⟩ := V
 obtain ⟨h1, h2, h3, h4, h5⟩ := hV
 cases h1
 cases h2
 cases h3
 cases h4
 dsimp only at h5 hs
 have hb := below1 w (.cells #[.int .i64 0, .int .i64 0, .int .i64 0, .int .i64 0, .int .i64 0, .slice A n c, .int .i64 0] 73)
 have hB := Blk.mk w 73 #[.int .i64 0, .int .i64 0, .int .i64 0, .int .i64 0, .int .i64 0, .slice A n c, .int .i64 0]
 have qz := hB
 have a0 := qz.cv 0 _ rfl
 have a1 := qz.cv 1 _ rfl
 have a2 := qz.cv 2 _ rfl
 have a3 := qz.cv 3 _ rfl
 have a4 := qz.cv 4 _ rfl
 have a5 := qz.cv 5 _ rfl
 have a6 := qz.cv 6 _ rfl
 clear qz
 have K := hid (nonecf_c A n c rows _ (hs.below hb) h5)
 have HB := hid hb
 clear hB hb hs h5
 unfold efC
 go_enter func22, ntmps22
 go_wp2_with fail
 refine K.out.mono ?_
 rintro e w2 ⟨rfl, hb2⟩
 go_wp2_with fail
 exact bodyPost_ret (v := .bool true) (by simp [results, results22, go_sem]) rfl ⟨rfl, bT HB.out hb2⟩
structure EfV (w : World) (base : Nat) (E : Int) (V Z : Ef) (A : Option Addr) (n c : Nat) : Prop where
 ok : E = 0 → Z = V ∧ n = V.rows.length ∧ w.ownsRow base 79 2 (.slice A n c) n (V.rows.flatMap shC)
 no : E ≠ 0 → Z = ef0 ∧ A = none ∧ n = 0 ∧ c = 0
theorem EfV.below {w w' : World} {base : Nat} {E : Int} {V Z : Ef} {A : Option Addr} {n c : Nat} (h : EfV w base E V Z A n c) (hb : Below w.heap.size w w') : EfV w' base E V Z A n c :=
 ⟨fun h0 => ⟨(h.ok h0).1, (h.ok h0).2.1, oB9 (h.ok h0).2.2 hb⟩, h.no⟩
def BetU (E : Int) (V : Ef) (w : World) (e : Ending) (w' : World) : Prop :=
 (∃ (Z : Ef) (A : Option Addr) (n c : Nat), e = .returned (.tuple #[.agg (efC Z A n c), .int .i64 E]) ∧ EfV w' w.heap.size E V Z A n c) ∧ Below w.heap.size w w'
theorem BetR.u {E : Int} {V : Ef} {w w' : World} {e : Ending} (h : BetR E V w e w') : BetU E V w e w' := by
 obtain ⟨⟨h0, A, c, he, ho⟩ | ⟨h0, he⟩, hb⟩ := h
 ·
  exact ⟨⟨V, A, _, c, by rw [he, h0], fun _ => ⟨rfl, rfl, ho⟩, fun h => absurd h0 h⟩, hb⟩
 ·
  exact ⟨⟨ef0, none, 0, 0, he, fun h => absurd h h0, fun _ => ⟨rfl, rfl, rfl, rfl⟩⟩, hb⟩
theorem none_ev {w : World} {base : Nat} {E : Int} {V Z : Ef} {A : Option Addr} {n c : Nat} (h : EfV w base E V Z A n c) (hE : E ≠ 0) (W : World) :
  Calls prog 22 #[.agg (efC Z A n c)] W fun e w' => e = .returned (.bool true) ∧ Below W.heap.size W w' := by
 obtain ⟨rfl, rfl, rfl, rfl⟩ := h.no hE
 exact none_yes ef0 NoEf.zero none 0 0 W ⟨rfl, by decide, fun h => absurd h (by decide)⟩
theorem ins_at {w : World} {A : Option Addr} {n : Nat} {l : List In} (h : InsIn w A n l) (k : Nat) (hk : k < n) : ∃ b off A2 n2 c2, A = some ⟨b, off, none⟩ ∧ b < w.heap.size ∧ w.cell? ⟨b, off + k * 6 + 5, none⟩ = some (.slice A2 n2 c2) ∧ ElSl w A2 n2 (l.getD k in0).l := by
 obtain ⟨L, h1, h2, h3⟩ := h.ex
 have hln := h2.1
 obtain ⟨b, off, hA, hlt, hat⟩ := h2.2.2 (by omega)
 have hl : k < L.length := by omega
 refine ⟨b, off, (L.getD k inp0).A, (L.getD k inp0).n, (L.getD k inp0).k, hA, hlt, hat k hk 5 _ rfl, ?_⟩
 have hz : l.getD k in0 = (L.getD k inp0).z := by rw [← h1]; exact getD_map' InP.z L k inp0 hl
 rw [hz]
 exact h3 _ (getD_mem' inp0 hl)
end Go.Proofs.YtiaabmhjkoohmaaGreat
