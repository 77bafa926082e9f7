/-
  Contracts of functions that the claim reaches, and the plain laws behind them. Conditions as named in each.
-/
import Derived.Test.YtmlphohnegmgkaaGreatRun
import Derived.Test.YtmlphohnegmgkaaGreatRClo
import Derived.Test.YtmlphohnegmgkaaGreatRNew
import Derived.Test.YtmlphohnegmgkaaGreatM1
import Derived.Test.YtmlphohnegmgkaaGreatM6
namespace Go.Proofs.YtmlphohnegmgkaaGreat
set_option linter.unusedVariables false
set_option linter.unusedSimpArgs false
open Go.RowKit
structure PE (w0 : World) (fq days : Int) (W : World) (p y o : Nat) (E : Em) : Prop where
 bl : Below w0.heap.size w0 W
 em : ∃ lo li, w0.heap.size ≤ lo ∧ EmpAt W lo li fq days p y o E
 ok : EmOK fq days E
theorem below_kp {w0 W W' : World} {X : Nat → Prop} (h : Below w0.heap.size w0 W) (hk : Kp W.heap.size X W W') (hx : ∀ g, X g → w0.heap.size ≤ g) : Below w0.heap.size w0 W' :=
 ⟨hk.os.trans h.os, hk.tape.trans h.tape, hk.output.trans h.output, Nat.le_trans h.size hk.size, fun i hi => (hk.block i (Nat.lt_of_lt_of_le hi h.size) (fun hX => by have := hx i hX; omega)).trans (h.block i hi)⟩
section
variable {w0 W W' : World} {fq days : Int} {p y o q y2 o2 : Nat} {E E' : Em}
theorem PE.ty (h : PE w0 fq days W p y o E) : Ty (fx3 p y o) W := by
 obtain ⟨lo, li, _, he⟩ := h.em
 exact he.ty
theorem PE.lt (h : PE w0 fq days W p y o E) : p < W.heap.size ∧ y < W.heap.size ∧ o < W.heap.size := by
 obtain ⟨lo, li, _, he⟩ := h.em
 exact he.lt
theorem PE.ge (h : PE w0 fq days W p y o E) : w0.heap.size ≤ p ∧ w0.heap.size ≤ y ∧ w0.heap.size ≤ o := by
 obtain ⟨lo, li, h0, he⟩ := h.em
 exact ⟨Nat.le_trans h0 he.lp, Nat.le_trans h0 he.ly, Nat.le_trans h0 he.lo'⟩
theorem PE.below (h : PE w0 fq days W p y o E) (hb : Below W.heap.size W W') : PE w0 fq days W' p y o E := by
 obtain ⟨lo, li, h0, he⟩ := h.em
 exact ⟨bT h.bl hb, ⟨lo, li, h0, he.below hb⟩, h.ok⟩
theorem PE.act (h : PE w0 fq days W p y o E) (hk : Kp W.heap.size (fx3 p y o) W W') {lo li o' : Nat} (h0 : w0.heap.size ≤ lo) (he : EmpAt W' lo li fq days p y o' E') (hok : EmOK fq days E') : PE w0 fq days W' p y o' E' :=
 ⟨below_kp h.bl hk (by obtain ⟨a, b, c⟩ := h.ge; rintro g (rfl | rfl | rfl) <;> assumption), ⟨lo, li, h0, he⟩, hok⟩
theorem PE.blk (h : PE w0 fq days W p y o E) (hk : Kp W.heap.size (fx3 p y o) W W') {g : Nat} {T : TypeId} {cs : Array Value} (hb : Blk W g T cs) (hT : mtB T = false) : Blk W' g T cs := hb.fx h.ty hk hT
theorem PE.other {w1 : World} (h : PE w1 fq days W q y2 o2 E') (hp : PE w0 fq days W p y o E) (hk : Kp W.heap.size (fx3 p y o) W W') (hb : Below w1.heap.size w1 W') (h1 : ¬ fx3 p y o q) (h2 : ¬ fx3 p y o y2) (h3 : ¬ fx3 p y o o2) : PE w1 fq days W' q y2 o2 E' := by
 obtain ⟨lo, li, h0, he⟩ := h.em
 exact ⟨hb, ⟨lo, li, h0, he.fx hp.ty hk h1 h2 h3⟩, h.ok⟩
end
section
variable {w0 W : World} {fq days : Int} {p y o : Nat} {E : Em}
theorem fx23 {p y o : Nat} {N : Nat} {W W' : World} (h : Kp N (fx2 p o) W W') : Kp N (fx3 p y o) W W' := h.mono fun g hg => hg.elim Or.inl (fun h => Or.inr (Or.inr h))
theorem PE.slk (h : PE w0 fq days W p y o E) {W' : World} (hk : Kp W.heap.size (fx2 p o) W W') : ∀ g, g < W.heap.size → SlAt W y g → SlAt W' y g := by
 obtain ⟨lo, li, _, he⟩ := h.em
 obtain ⟨n1, n2, n3⟩ := he.diff
 obtain ⟨K, h1, h2⟩ := he.ex
 obtain ⟨A, c, B, d, h5⟩ := h2.yr
 intro g hg hs
 have hb := h5.blk.kp hk h5.blk.lt (fun hx => hx.elim (fun e => n1 e.symm) (fun e => n3 e))
 exact hs.same ((hb.cell 1).trans (h5.blk.cell 1).symm)
theorem PE.slAt (h : PE w0 fq days W p y o E) {g : Nat} (hg : W.heap.size ≤ g) : SlAt W y g := by
 obtain ⟨lo, li, _, he⟩ := h.em
 exact he.slAt hg
theorem PE.pt (h : PE w0 fq days W p y o E) {W' : World} {g : Nat} {cs : Array Value} (hk : Blk W g 76 cs) (h0 : w0.heap.size ≤ g) (hs : SlAt W y g) (hg : W.grownBy W' (some g)) : PE w0 fq days W' p y o E := by
 obtain ⟨lo, li, h1, he⟩ := h.em
 exact ⟨h.bl.grown hg h.bl.size (fun k hk => by injection hk with hk; omega), ⟨lo, li, h1, he.pt hk hs hg⟩, h.ok⟩
theorem pe_pay (h : PE w0 fq days W p y o E) {A : Option Addr} {m c : Nat} {l : List El} (hl : ElSl W A m l) (hm : m ≤ 1000) (re : Int) (E' : Em) (he : Hid (re = payE E (cntI fq days) l)) (h1 : Hid (re = 0 → E' = payV E l)) (h2 : Hid (re ≠ 0 → E' = E)) :
  Calls Tryz.prog 55 #[.pointer (some ⟨p, 0, none⟩), .slice A m c] W fun e W' => e = .returned (.int .i64 re) ∧ PE w0 fq days W' p y o E' ∧ Kp W.heap.size (fx3 p y o) W W' ∧ (∀ g, g < W.heap.size → SlAt W y g → SlAt W' y g) := by
 obtain ⟨lo, li, h0, hE⟩ := h.em
 refine (rpay_c fq days lo li p y o E A m c l W hE h.ok hl hm re E' he h1 h2).mono ?_
 rintro e W' ⟨e1, ⟨li', hE'⟩, hk, _⟩
 refine ⟨e1, h.act (fx23 hk) h0 hE' ?_, fx23 hk, h.slk hk⟩
 by_cases hr : re = 0
 ·
  rw [h1.out hr]; exact h.ok.pay (he.out.symm.trans hr)
 ·
  rw [h2.out hr]; exact h.ok
theorem pe_code (h : PE w0 fq days W p y o E) (c : Cd) (re : Int) (E' : Em) (he : Hid (re = codeE E (cntI fq days) c)) (h1 : Hid (re = 0 → E' = codeV E c)) (h2 : Hid (re ≠ 0 → E' = E)) :
  Calls Tryz.prog 56 #[.pointer (some ⟨p, 0, none⟩), .agg #[.int .i64 c.s, .int .i64 c.k, .int .i64 c.a, .int .i64 c.f, .bool c.al]] W fun e W' => e = .returned (.int .i64 re) ∧ PE w0 fq days W' p y o E' ∧ Kp W.heap.size (fx3 p y o) W W' ∧ (∀ g, g < W.heap.size → SlAt W y g → SlAt W' y g) := by
 obtain ⟨lo, li, h0, hE⟩ := h.em
 refine (rcodeset_c fq days lo li p y o E c.s c.k c.a c.f c.al W hE h.ok re E' he h1 h2).mono ?_
 rintro e W' ⟨e1, ⟨li', hE'⟩, hk, _⟩
 refine ⟨e1, h.act (fx23 hk) h0 hE' ?_, fx23 hk, h.slk hk⟩
 by_cases hr : re = 0
 ·
  rw [h1.out hr]; exact h.ok.code c
 ·
  rw [h2.out hr]; exact h.ok
theorem pe_prot (h : PE w0 fq days W p y o E) (x : Int) (re : Int) (E' : Em) (he : Hid (re = protE x)) (h1 : Hid (re = 0 → E' = protV E x)) (h2 : Hid (re ≠ 0 → E' = E)) :
  Calls Tryz.prog 59 #[.pointer (some ⟨p, 0, none⟩), .int .i64 x] W fun e W' => e = .returned (.int .i64 re) ∧ PE w0 fq days W' p y o E' ∧ Kp W.heap.size (fx3 p y o) W W' ∧ (∀ g, g < W.heap.size → SlAt W y g → SlAt W' y g) := by
 obtain ⟨lo, li, h0, hE⟩ := h.em
 refine (rprotect_c fq days lo li p y o E x W hE re E' he h1 h2).mono ?_
 rintro e W' ⟨e1, ⟨li', hE'⟩, hk, _⟩
 refine ⟨e1, h.act (fx23 hk) h0 hE' ?_, fx23 hk, h.slk hk⟩
 by_cases hr : re = 0
 ·
  rw [h1.out hr]; exact h.ok.prot x
 ·
  rw [h2.out hr]; exact h.ok
theorem pe_order (h : PE w0 fq days W p y o E) (id pr am ra tt : Int) :
  Calls Tryz.prog 57 #[.pointer (some ⟨p, 0, none⟩), .agg #[.int .i64 id, .int .i64 pr, .int .i64 am, .int .i64 ra, .int .i64 tt]] W fun e W' => e = .returned (.int .i64 (addE E.bk ⟨id, pr, am, ra, tt, 0, 0⟩)) ∧ PE w0 fq days W' p y o (ordEV E ⟨id, pr, am, ra, tt, 0, 0⟩) ∧ Kp W.heap.size (fx3 p y o) W W' ∧ (∀ g, g < W.heap.size → SlAt W y g → SlAt W' y g) := by
 obtain ⟨lo, li, h0, hE⟩ := h.em
 refine (rorder_c fq days lo li p y o E id pr am ra tt W hE h.ok.bk.len h.ok.so).mono ?_
 rintro e W' ⟨e1, ⟨li', hE'⟩, hk, _⟩
 exact ⟨e1, h.act (fx23 hk) h0 hE' (h.ok.ord ⟨rfl, rfl⟩), fx23 hk, h.slk hk⟩
theorem pe_cancel (h : PE w0 fq days W p y o E) (id : Int) :
  Calls Tryz.prog 58 #[.pointer (some ⟨p, 0, none⟩), .int .i64 id] W fun e W' => e = .returned (.int .i64 (canE E.bk id)) ∧ PE w0 fq days W' p y o (canEV E id) ∧ Kp W.heap.size (fx3 p y o) W W' ∧ (∀ g, g < W.heap.size → SlAt W y g → SlAt W' y g) := by
 obtain ⟨lo, li, h0, hE⟩ := h.em
 refine (rcancel_c fq days lo li p y o E id W hE h.ok.bk.len).mono ?_
 rintro e W' ⟨e1, ⟨li', hE'⟩, hk, _⟩
 exact ⟨e1, h.act (fx23 hk) h0 hE' (h.ok.can id), fx23 hk, h.slk hk⟩
theorem pe_repl (h : PE w0 fq days W p y o E) (k : Int) {A : Option Addr} {m c : Nat} {l : List El} (hl : ElSl W A m l) (hm : m ≤ 1000) (re : Int) (E' : Em) (he : Hid (re = replE E (nomI fq) (cntI fq days) k l)) (h1 : Hid (re = 0 → E' = replV E k l)) (h2 : Hid (re ≠ 0 → E' = E)) :
  Calls Tryz.prog 63 #[.pointer (some ⟨p, 0, none⟩), .int .i64 k, .slice A m c] W fun e W' => e = .returned (.int .i64 re) ∧ PE w0 fq days W' p y o E' ∧ Kp W.heap.size (fx3 p y o) W W' ∧ (∀ g, g < W.heap.size → SlAt W y g → SlAt W' y g) := by
 obtain ⟨lo, li, h0, hE⟩ := h.em
 refine (rrepl_c fq days lo li p y o E k A m c l W hE h.ok hl hm re E' he h1 h2).mono ?_
 rintro e W' ⟨e1, ⟨li', hE'⟩, hk, _⟩
 refine ⟨e1, h.act (fx23 hk) h0 hE' ?_, fx23 hk, h.slk hk⟩
 by_cases hr : re = 0
 ·
  rw [h1.out hr]; exact h.ok.repl (he.out.symm.trans hr)
 ·
  rw [h2.out hr]; exact h.ok
def SlipE (re : Int) (z : Sp) (W : World) (e : Ending) (W' : World) : Prop := ∃ (Z : Sp) (A : Option Addr) (n c : Nat) (B : Option Addr) (m d : Nat), e = .returned (.tuple #[.agg (spC Z A n c B m d), .int .i64 re]) ∧ SlipV W' W.heap.size re z Z A n c B m d
theorem pe_run (h : PE w0 fq days W p y o E) (re : Int) (z : Sp) (E' : Em) (he : Hid (re = runE E (nomI fq) (cntI fq days))) (hz : Hid (z = runS E (nomI fq))) (h1 : Hid (re = 0 → E' = runV E (nomI fq))) (h2 : Hid (re ≠ 0 → E' = E)) :
  Calls Tryz.prog 60 #[.pointer (some ⟨p, 0, none⟩)] W fun e W' => SlipE re z W e W' ∧ (∃ o', PE w0 fq days W' p y o' E' ∧ (o' = o ∨ W.heap.size ≤ o')) ∧ Kp W.heap.size (fx3 p y o) W W' ∧ (∀ g, g < W.heap.size → SlAt W y g → SlAt W' y g) := by
 obtain ⟨lo, li, h0, hE⟩ := h.em
 refine (rrun_c fq days lo li p y o E W hE h.ok re z E' he hz h1 h2).mono ?_
 rintro e W' ⟨e1, ⟨li', o', hE', ho⟩, hk, _, _, hs⟩
 refine ⟨e1, ⟨o', h.act hk h0 hE' ?_, ho⟩, hk, hs⟩
 by_cases hr : re = 0
 ·
  rw [h1.out hr]; exact h.ok.run (he.out.symm.trans hr)
 ·
  rw [h2.out hr]; exact h.ok
theorem pe_try (h : PE w0 fq days W p y o E) (gr : Int) (re : Int) (z : Sp) (he : Hid (re = tryE E (nomI fq) (cntI fq days) gr)) (hz : Hid (z = tryV E (nomI fq) gr)) :
  Calls Tryz.prog 64 #[.pointer (some ⟨p, 0, none⟩), .int .i64 gr] W fun e W' => SlipE re z W e W' ∧ Below W.heap.size W W' := by
 obtain ⟨lo, li, h0, hE⟩ := h.em
 refine (rtry_c fq days lo li p y o E gr W hE h.ok re z he hz).mono ?_
 rintro e W' ⟨e1, hb⟩
 exact ⟨e1, hb⟩
theorem keep_sizes {t : Tb} (h : keepE t = 0) : (∀ k, k < t.sch.length → (t.sch.getD k []).length ≤ 100000) ∧ ∀ k, k < t.cts.length → (t.cts.getD k ct0).bands.length ≤ 100000 := by
 have h0 : tbE t = 0 := by
  unfold keepE at h
  by_cases h0 : tbE t = 0
  ·
   exact h0
  ·
   rw [if_pos h0] at h; exact absurd h h0
 obtain ⟨hok, _⟩ := tb_of h0
 have key : ∀ l : List Bd, bandsErr l = 0 → l.length ≤ 100000 := fun l hl => by
  unfold bandsErr at hl
  split at hl
  ·
   cases hl
  ·
   omega
 exact ⟨fun k hk => key _ (hok.sch k hk).bands, fun k hk => key _ (hok.cts k hk).bands⟩
theorem pe_clone (h : PE w0 fq days W p y o E) :
  Calls Tryz.prog 54 #[.pointer (some ⟨p, 0, none⟩)] W fun e W' => (∃ q y2 o2, e = .returned (.pointer (some ⟨q, 0, none⟩)) ∧ PE W fq days W' q y2 o2 E) ∧ Below W.heap.size W W' := by
 obtain ⟨lo, li, h0, hE⟩ := h.em
 obtain ⟨s1, s2⟩ := keep_sizes h.ok.tb
 refine (rclone_c fq days lo li p y o E W hE h.ok s1 s2).mono ?_
 rintro e W' ⟨⟨q, y2, o2, e1, hE'⟩, hb⟩
 exact ⟨⟨q, y2, o2, e1, ⟨hb, ⟨_, _, Nat.le_refl _, hE'⟩, h.ok⟩⟩, hb⟩
end
section
variable {w0 W : World} {fq days : Int} {p y o : Nat} {E : Em}
theorem pe_period (h : PE w0 fq days W p y o E) : Calls Tryz.prog 36 #[.pointer (some ⟨p, 0, none⟩)] W (ValB (.int .i64 (periodI E (cntI fq days))) W) := by
 obtain ⟨lo, li, h0, hE⟩ := h.em
 exact rperiod_c fq days lo li p y o E W hE h.ok
theorem pe_protd (h : PE w0 fq days W p y o E) : Calls Tryz.prog 47 #[.pointer (some ⟨p, 0, none⟩)] W (ValB (.int .i64 E.prot) W) := by
 obtain ⟨lo, li, h0, hE⟩ := h.em
 exact rprot_c fq days lo li p y o E W hE
theorem pe_taxcode (h : PE w0 fq days W p y o E) : Calls Tryz.prog 46 #[.pointer (some ⟨p, 0, none⟩)] W (ValB (.agg #[.int .i64 E.c.s, .int .i64 E.c.k, .int .i64 E.c.a, .int .i64 E.c.f, .bool E.c.al]) W) := by
 obtain ⟨lo, li, h0, hE⟩ := h.em
 exact rcode_c fq days lo li p y o E W hE
theorem pe_next (h : PE w0 fq days W p y o E) : Calls Tryz.prog 48 #[.pointer (some ⟨p, 0, none⟩)] W (CloneV 149 3 E.next.length (E.next.flatMap elC) W) := by
 obtain ⟨lo, li, h0, hE⟩ := h.em
 exact rnext_c fq days lo li p y o E W hE h.ok.nx
theorem pe_inputs (h : PE w0 fq days W p y o E) : Calls Tryz.prog 23 #[.pointer (some ⟨p, 0, none⟩)] W (InsR E.ins W) := by
 obtain ⟨lo, li, h0, hE⟩ := h.em
 exact rinputs_c fq days lo li p y o E W hE (by have := h.ok.ins53; omega) h.ok.il
theorem pe_orders (h : PE w0 fq days W p y o E) : Calls Tryz.prog 101 #[.pointer (some ⟨p, 0, none⟩)] W (GivesOd E.bk.length E.bk W) := by
 obtain ⟨lo, li, h0, hE⟩ := h.em
 exact rords_c fq days lo li p y o E W hE (by have := h.ok.bk.len; omega)
theorem pe_posted (h : PE w0 fq days W p y o E) : Calls Tryz.prog 18 #[.pointer (some ⟨p, 0, none⟩)] W (YCloneR E.yr W) := by
 obtain ⟨lo, li, h0, hE⟩ := h.em
 exact rpost_c fq days lo li p y o E W hE (by have := h.ok.yr; have := h.ok.tc; omega) (by have := h.ok.sl; have := h.ok.ins53; omega) (fun z hz => by have := h.ok.each z hz; omega)
end
def PNew (w0 : World) (re : Int) (E : Em) (fq days : Int) (w : World) (e : Ending) (w' : World) : Prop :=
 (re = 0 → ∃ p y o, e = .returned (.tuple #[.pointer (some ⟨p, 0, none⟩), .int .i64 0]) ∧ PE w0 fq days w' p y o E ∧ w.heap.size ≤ p ∧ w.heap.size ≤ y ∧ w.heap.size ≤ o) ∧ (re ≠ 0 → e = .returned (.tuple #[.pointer none, .int .i64 re])) ∧ Below w.heap.size w w'
theorem pe_new {w0 w : World} (h0 : Below w0.heap.size w0 w) (t : Tb) (As Ac Ak : Option Addr) (ns cs nc cc nk ck : Nat) (lim rnd : Int) (fq days : Int) (hf : nomI fq ≠ 0) (hd : 0 ≤ days ∧ days ≤ 366) (gy : Nat) (c : Cd) (hs : ScSl w As ns t.sch) (hc : CtSl w Ac nc t.cts) (hcc : nc ≤ cc) (hkd : KdSl w Ak nk t.kds) (hck : nk ≤ ck) (hl : lim = t.lim) (hr : rnd = t.rnd) (hsz : ns ≤ 20 ∧ nc ≤ 20 ∧ nk ≤ 30)
  (hy : YrAt w gy fq days) (re : Int) (he : Hid (re = newE t c)) :
  Calls Tryz.prog 42 #[.agg #[.slice As ns cs, .slice Ac nc cc, .slice Ak nk ck, .int .i64 lim, .int .i64 rnd], .pointer (some ⟨gy, 0, none⟩), .agg #[.int .i64 c.s, .int .i64 c.k, .int .i64 c.a, .int .i64 c.f, .bool c.al]] w (PNew w0 re (newV t c) fq days w) := by
 refine (rnew_c t As Ac Ak ns cs nc cc nk ck lim rnd fq days gy c.s c.k c.a c.f c.al w hs hc hcc hkd hck hl hr hy (fun hk => by
  obtain ⟨a, b⟩ := keep_sizes hk
  exact ⟨fun k hk => a k (by have := hs.1; omega), fun k hk => b k (by have := hc.1; omega)⟩) re he).mono ?_
 rintro e w' ⟨⟨h1, p, y, o, h2, h3⟩ | ⟨h1, h2⟩, hb⟩
 ·
  refine ⟨fun _ => ⟨p, y, o, h2, ⟨bT h0 hb, ⟨_, _, h0.size, h3⟩, ?_⟩, h3.lp, h3.ly, h3.lo'⟩, fun h => absurd h1 h, hb⟩
  have hk : keepE t = 0 := (seqE_zero (he.out.symm.trans h1)).1
  exact EmOK.new hf hd hk (by rw [← hs.1]; exact hsz.1) (by rw [← hc.1]; exact hsz.2.1) (by rw [← hkd.1]; exact hsz.2.2)
 ·
  exact ⟨fun h => absurd h h1, fun _ => h2, hb⟩
theorem els_one1 (w : World) (z : El) : ElSl (w.alloc (.cells #[.string z.k, .int .i64 z.a, .int .i64 z.u] 149)) (some ⟨w.heap.size, 0, none⟩) 1 [z] := by
 have hb := Blk.mk w 149 #[.string z.k, .int .i64 z.a, .int .i64 z.u]
 refine ⟨rfl, by decide, fun _ => ⟨w.heap.size, 0, rfl, hb.lt, fun k hk j u hu => ?_⟩⟩
 have hk0 : k = 0 := by simpa using hk
 subst hk0
 rw [show (0 + 0 * 3 + j) = j by omega]
 have hj : j < 3 := by
  have := (List.getElem?_eq_some_iff.1 hu).1
  simpa [elC] using this
 rw [hb.cell j]
 have : j = 0 ∨ j = 1 ∨ j = 2 := by omega
 rcases this with rfl | rfl | rfl <;> exact hu
end Go.Proofs.YtmlphohnegmgkaaGreat
namespace Go.Proofs.YtmlphohnegmgkaaGreat
set_option maxRecDepth 100000
set_option maxHeartbeats 25600000
set_option linter.unusedVariables false
set_option linter.unusedSimpArgs false
open Go.RowKit
def bd3C (f r e : Int) : Array Value := #[.int .i64 f, .int .i64 r, .int .i64 e]
theorem bd_row1 {w : World} {g : Nat} {f r e : Int} (h : Blk w g 202 (bd3C f r e)) : BandSl w (some ⟨g, 0, none⟩) 1 [⟨f, r, e⟩] := by
 refine ⟨rfl, by decide, fun _ => ⟨g, 0, rfl, h.lt, fun k hk => ?_⟩⟩
 have hk0 : k = 0 := by simpa using hk
 subst hk0
 exact ⟨h.cell 0, h.cell 1, h.cell 2⟩
theorem sc_row1 {w : World} {g g2 : Nat} {l : List Bd} (h : Blk w g 197 #[.slice (some ⟨g2, 0, none⟩) 1 1]) (hb : BandSl w (some ⟨g2, 0, none⟩) 1 l) : ScSl w (some ⟨g, 0, none⟩) 1 [l] := by
 refine ⟨rfl, by decide, fun _ => ⟨g, 0, rfl, h.lt, fun k hk => ?_⟩⟩
 have hk0 : k = 0 := by simpa using hk
 subst hk0
 exact ⟨_, _, _, h.cell 0, hb⟩
theorem ct_row1 {w : World} {g : Nat} {A : Option Addr} {n c : Nat} {x : Ct} (h : Blk w g 199 #[.string x.nm, .int .i64 x.base, .slice A n c, .int .i64 x.pc, .int .i64 x.yc, .int .i64 x.rd]) (hb : BandSl w A n x.bands) (hs : x.nm.size ≤ 9223372036854775807) : CtSl w (some ⟨g, 0, none⟩) 1 [x] := by
 refine ⟨rfl, by decide, fun _ => ⟨g, 0, rfl, h.lt, fun k hk => ?_⟩⟩
 have hk0 : k = 0 := by simpa using hk
 subst hk0
 exact ⟨h.cell 0, hs, h.cell 1, ⟨_, _, _, h.cell 2, hb⟩, h.cell 3, h.cell 4, h.cell 5⟩
theorem kd_row1 {w : World} {g : Nat} {x : Kd} (h : Blk w g 206 #[.string x.nm, .int .i64 x.c, .int .i64 x.t, .int .i64 x.s]) (hs : x.nm.size ≤ 9223372036854775807) : KdSl w (some ⟨g, 0, none⟩) 1 [x] := by
 refine ⟨rfl, by decide, fun _ => ⟨g, 0, rfl, h.lt, fun k hk => ?_⟩⟩
 have hk0 : k = 0 := by simpa using hk
 subst hk0
 exact ⟨h.cell 0, hs, h.cell 1, h.cell 2, h.cell 3⟩
def PlainR (t : Tb) (nc : Nat) (w : World) (e : Ending) (w' : World) : Prop := (∃ As Ac Ak, e = .returned (.agg #[.slice As 1 1, .slice Ac nc nc, .slice Ak 1 1, .int .i64 t.lim, .int .i64 t.rnd]) ∧ ScSl w' As 1 t.sch ∧ CtSl w' Ac nc t.cts ∧ KdSl w' Ak 1 t.kds) ∧ Below w.heap.size w w'
theorem plain21_c (w : World) : Calls Tryz.prog 100 #[] w (PlainR plT 1 w) := by
 have HF0 := Lib.hid (Fr.start w)
 go_enter Tryz.func100, Tryz.ntmps100
 go_wp2_with fail
 have hx := ((((((HF0.out.al 26 #[.slice (some ⟨w.heap.size + 1 + 1, 0, none⟩) 1 1, .slice (some ⟨w.heap.size + 1 + 1 + 1 + 1, 0, none⟩) 1 1, .slice (some ⟨w.heap.size + 1 + 1 + 1 + 1 + 1, 0, none⟩) 1 1, .int .i64 5000, .int .i64 1]).al 202 #[.int .i64 0, .int .i64 2000, .int .i64 0]).al 197 #[.slice (some ⟨w.heap.size + 1, 0, none⟩) 1 1]).al 202 #[.int .i64 0, .int .i64 1000, .int .i64 500]).al 199 #[.string fundB, .int .i64 2, .slice (some ⟨w.heap.size + 1 + 1 + 1, 0, none⟩) 1 1, .int .i64 0, .int .i64 0, .int .i64 1]).al 206 #[.string salB, .int .i64 1, .int .i64 1, .int .i64 1])
 try simp only [World.size_alloc, World.size_setCell] at hx
 have HF1 := Lib.hid hx
 clear hx HF0
 have qz := HF1.out.b 0 rfl
 have c0_0 := qz.cv 0 (.slice (some ⟨w.heap.size + 1 + 1, 0, none⟩) 1 1) rfl
 have c0_1 := qz.cv 1 (.slice (some ⟨w.heap.size + 1 + 1 + 1 + 1, 0, none⟩) 1 1) rfl
 have c0_2 := qz.cv 2 (.slice (some ⟨w.heap.size + 1 + 1 + 1 + 1 + 1, 0, none⟩) 1 1) rfl
 have c0_3 := qz.cv 3 (.int .i64 5000) rfl
 have c0_4 := qz.cv 4 (.int .i64 1) rfl
 clear qz
 refine bodyPost_ret (v := .agg #[.slice (some ⟨w.heap.size + 1 + 1, 0, none⟩) 1 1, .slice (some ⟨w.heap.size + 1 + 1 + 1 + 1, 0, none⟩) 1 1, .slice (some ⟨w.heap.size + 1 + 1 + 1 + 1 + 1, 0, none⟩) 1 1, .int .i64 5000, .int .i64 1]) (by simp [results, Tryz.results100, go_sem, c0_0, c0_1, c0_2, c0_3, c0_4]) rfl ⟨⟨_, _, _, rfl, ?_, ?_, ?_⟩, HF1.out.bl⟩
 ·
  exact sc_row1 (HF1.out.b 2 rfl) (bd_row1 (f := 0) (r := 2000) (e := 0) (HF1.out.b 1 rfl))
 ·
  exact ct_row1 (x := ⟨fundB, 2, [⟨0, 1000, 500⟩], 0, 0, 1⟩) (HF1.out.b 4 rfl) (bd_row1 (f := 0) (r := 1000) (e := 500) (HF1.out.b 3 rfl)) (by decide)
 ·
  exact kd_row1 (x := ⟨salB, 1, 1, 1⟩) (HF1.out.b 5 rfl) (by decide)
theorem months21_c (w : World) : Calls Tryz.prog 43 #[] w fun e w' => (∃ g, e = .returned (.pointer (some ⟨g, 0, none⟩)) ∧ YrAt w' g 4 365) ∧ Below w.heap.size w w' := by
 have K := Lib.hid (new2024_yes 4 (by decide) w)
 unfold NewYr at K
 go_enter Tryz.func43, Tryz.ntmps43
 go_wp2_with fail
 refine K.out.mono ?_
 rintro e w1 ⟨⟨g, rfl, hy, _, _⟩, hb⟩
 go_wp2_with fail
 go_ret
 exact ⟨⟨g, rfl, hy⟩, hb⟩
end Go.Proofs.YtmlphohnegmgkaaGreat
