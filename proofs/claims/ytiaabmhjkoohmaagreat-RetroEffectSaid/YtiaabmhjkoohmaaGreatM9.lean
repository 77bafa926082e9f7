/-
  Contracts of functions that the claim reaches, and the plain laws behind them. Conditions as named in each.
-/
import Derived.Test.YtiaabmhjkoohmaaGreatRun
import Derived.Test.YtiaabmhjkoohmaaGreatRClo
namespace Go.Proofs.YtiaabmhjkoohmaaGreat
set_option linter.unusedVariables false
set_option linter.unusedSimpArgs false
open Go.RowKit
structure PE (w0 : World) (fq days : Int) (W : World) (p y o : Nat) (E : Em) : Prop where
 bl : Below w0.heap.size w0 W
 em : ∃ lo li, w0.heap.size ≤ lo ∧ Ea9 W lo li fq days p y o E
 ok : EmOK fq days E
theorem below_kp {w0 W W' : World} {X : Nat → Prop} (h : Below w0.heap.size w0 W) (hk : Kp W.heap.size X W W') (hx : ∀ g, X g → w0.heap.size ≤ g) : Below w0.heap.size w0 W' :=
 ⟨hk.os.trans h.os, hk.tape.trans h.tape, hk.output.trans h.output, Nat.le_trans h.size hk.size, fun i hi => (hk.block i (Nat.lt_of_lt_of_le hi h.size) (fun hX => by have := hx i hX; omega)).trans (h.block i hi)⟩
section
variable {w0 W W' : World} {fq days : Int} {p y o q y2 o2 : Nat} {E E' : Em}
theorem PE.ty (h : PE w0 fq days W p y o E) : Ty (fx3 p y o) W := by
 obtain ⟨lo, li, _, he⟩ := h.em
 exact he.ty
theorem PE.lt (h : PE w0 fq days W p y o E) : p < W.heap.size ∧ y < W.heap.size ∧ o < W.heap.size := by
 obtain ⟨lo, li, _, he⟩ := h.em
 exact he.lt
theorem PE.ge (h : PE w0 fq days W p y o E) : w0.heap.size ≤ p ∧ w0.heap.size ≤ y ∧ w0.heap.size ≤ o := by
 obtain ⟨lo, li, h0, he⟩ := h.em
 exact ⟨Nat.le_trans h0 he.lp, Nat.le_trans h0 he.ly, Nat.le_trans h0 he.lo'⟩
theorem PE.below (h : PE w0 fq days W p y o E) (hb : Below W.heap.size W W') : PE w0 fq days W' p y o E := by
 obtain ⟨lo, li, h0, he⟩ := h.em
 exact ⟨bT h.bl hb, ⟨lo, li, h0, he.below hb⟩, h.ok⟩
theorem PE.act (h : PE w0 fq days W p y o E) (hk : Kp W.heap.size (fx3 p y o) W W') {lo li o' : Nat} (h0 : w0.heap.size ≤ lo) (he : Ea9 W' lo li fq days p y o' E') (hok : EmOK fq days E') : PE w0 fq days W' p y o' E' :=
 ⟨below_kp h.bl hk (by obtain ⟨a, b, c⟩ := h.ge; rintro g (rfl | rfl | rfl) <;> assumption), ⟨lo, li, h0, he⟩, hok⟩
theorem PE.blk (h : PE w0 fq days W p y o E) (hk : Kp W.heap.size (fx3 p y o) W W') {g : Nat} {T : TypeId} {cs : Array Value} (hb : Blk W g T cs) (hT : mtB T = false) : Blk W' g T cs := hb.fx h.ty hk hT
theorem PE.other {w1 : World} (h : PE w1 fq days W q y2 o2 E') (hp : PE w0 fq days W p y o E) (hk : Kp W.heap.size (fx3 p y o) W W') (hb : Below w1.heap.size w1 W') (h1 : ¬ fx3 p y o q) (h2 : ¬ fx3 p y o y2) (h3 : ¬ fx3 p y o o2) : PE w1 fq days W' q y2 o2 E' := by
 obtain ⟨lo, li, h0, he⟩ := h.em
 exact ⟨hb, ⟨lo, li, h0, he.fx hp.ty hk h1 h2 h3⟩, h.ok⟩
end
section
variable {w0 W : World} {fq days : Int} {p y o : Nat} {E : Em}
theorem fx23 {p y o : Nat} {N : Nat} {W W' : World} (h : Kp N (fx2 p o) W W') : Kp N (fx3 p y o) W W' := h.mono fun g hg => hg.elim Or.inl (fun h => Or.inr (Or.inr h))
theorem PE.slk (h : PE w0 fq days W p y o E) {W' : World} (hk : Kp W.heap.size (fx2 p o) W W') : ∀ g, g < W.heap.size → SlAt W y g → SlAt W' y g := by
 obtain ⟨lo, li, _, he⟩ := h.em
 obtain ⟨n1, n2, n3⟩ := he.diff
 obtain ⟨K, h1, h2⟩ := he.ex
 obtain ⟨A, c, B, d, h5⟩ := h2.yr
 intro g hg hs
 have hb := h5.blk.kp hk h5.blk.lt (fun hx => hx.elim (fun e => n1 e.symm) (fun e => n3 e))
 exact hs.same ((hb.cell 1).trans (h5.blk.cell 1).symm)
theorem PE.slAt (h : PE w0 fq days W p y o E) {g : Nat} (hg : W.heap.size ≤ g) : SlAt W y g := by
 obtain ⟨lo, li, _, he⟩ := h.em
 exact he.slAt hg
theorem PE.pt (h : PE w0 fq days W p y o E) {W' : World} {g : Nat} {cs : Array Value} (hk : Blk W g 45 cs) (h0 : w0.heap.size ≤ g) (hs : SlAt W y g) (hg : W.grownBy W' (some g)) : PE w0 fq days W' p y o E := by
 obtain ⟨lo, li, h1, he⟩ := h.em
 exact ⟨h.bl.grown hg h.bl.size (fun k hk => by injection hk with hk; omega), ⟨lo, li, h1, he.pt hk hs hg⟩, h.ok⟩
theorem pe_repl (h : PE w0 fq days W p y o E) (k : Int) {A : Option Addr} {m c : Nat} {l : List El} (hl : ElSl W A m l) (hm : m ≤ 1000) (re : Int) (E' : Em) (he : Hid (re = replE E (nomI fq) (cntI fq days) k l)) (h1 : Hid (re = 0 → E' = replV E k l)) (h2 : Hid (re ≠ 0 → E' = E)) :
  Calls Tryz.prog 57 #[.pointer (some ⟨p, 0, none⟩), .int .i64 k, .slice A m c] W fun e W' => e = .returned (.int .i64 re) ∧ PE w0 fq days W' p y o E' ∧ Kp W.heap.size (fx3 p y o) W W' ∧ (∀ g, g < W.heap.size → SlAt W y g → SlAt W' y g) := by
 obtain ⟨lo, li, h0, hE⟩ := h.em
 refine (rrepl_c fq days lo li p y o E k A m c l W hE h.ok hl hm re E' he h1 h2).mono ?_
 rintro e W' ⟨e1, ⟨li', hE'⟩, hk, _⟩
 refine ⟨e1, h.act (fx23 hk) h0 hE' ?_, fx23 hk, h.slk hk⟩
 by_cases hr : re = 0
 ·
  rw [h1.out hr]; exact h.ok.repl (he.out.symm.trans hr)
 ·
  rw [h2.out hr]; exact h.ok
def SlipE (re : Int) (z : Sp) (W : World) (e : Ending) (W' : World) : Prop := ∃ (Z : Sp) (A : Option Addr) (n c : Nat) (B : Option Addr) (m d : Nat), e = .returned (.tuple #[.agg (spC Z A n c B m d), .int .i64 re]) ∧ SlipV W' W.heap.size re z Z A n c B m d
theorem pe_try (h : PE w0 fq days W p y o E) (gr : Int) (re : Int) (z : Sp) (he : Hid (re = tryE E (nomI fq) (cntI fq days) gr)) (hz : Hid (z = tryV E (nomI fq) gr)) :
  Calls Tryz.prog 20 #[.pointer (some ⟨p, 0, none⟩), .int .i64 gr] W fun e W' => SlipE re z W e W' ∧ Below W.heap.size W W' := by
 obtain ⟨lo, li, h0, hE⟩ := h.em
 refine (rtry_c fq days lo li p y o E gr W hE h.ok re z he hz).mono ?_
 rintro e W' ⟨e1, hb⟩
 exact ⟨e1, hb⟩
theorem keep_sizes {t : Tb} (h : keepE t = 0) : (∀ k, k < t.sch.length → (t.sch.getD k []).length ≤ 100000) ∧ ∀ k, k < t.cts.length → (t.cts.getD k ct0).bands.length ≤ 100000 := by
 have h0 : tbE t = 0 := by
  unfold keepE at h
  by_cases h0 : tbE t = 0
  ·
   exact h0
  ·
   rw [if_pos h0] at h; exact absurd h h0
 obtain ⟨hok, _⟩ := tb_of h0
 have key : ∀ l : List Bd, bE9 l = 0 → l.length ≤ 100000 := fun l hl => by
  unfold bE9 at hl
  split at hl
  ·
   cases hl
  ·
   omega
 exact ⟨fun k hk => key _ (hok.sch k hk).bands, fun k hk => key _ (hok.cts k hk).bands⟩
theorem pe_clone (h : PE w0 fq days W p y o E) :
  Calls Tryz.prog 56 #[.pointer (some ⟨p, 0, none⟩)] W fun e W' => (∃ q y2 o2, e = .returned (.pointer (some ⟨q, 0, none⟩)) ∧ PE W fq days W' q y2 o2 E) ∧ Below W.heap.size W W' := by
 obtain ⟨lo, li, h0, hE⟩ := h.em
 obtain ⟨s1, s2⟩ := keep_sizes h.ok.tb
 refine (rclone_c fq days lo li p y o E W hE h.ok s1 s2).mono ?_
 rintro e W' ⟨⟨q, y2, o2, e1, hE'⟩, hb⟩
 exact ⟨⟨q, y2, o2, e1, ⟨hb, ⟨_, _, Nat.le_refl _, hE'⟩, h.ok⟩⟩, hb⟩
end
section
variable {w0 W : World} {fq days : Int} {p y o : Nat} {E : Em}
theorem pe_period (h : PE w0 fq days W p y o E) : Calls Tryz.prog 38 #[.pointer (some ⟨p, 0, none⟩)] W (ValB (.int .i64 (periodI E (cntI fq days))) W) := by
 obtain ⟨lo, li, h0, hE⟩ := h.em
 exact rperiod_c fq days lo li p y o E W hE h.ok
theorem pe_inputs (h : PE w0 fq days W p y o E) : Calls Tryz.prog 18 #[.pointer (some ⟨p, 0, none⟩)] W (InsR E.ins W) := by
 obtain ⟨lo, li, h0, hE⟩ := h.em
 exact rinputs_c fq days lo li p y o E W hE (by have := h.ok.ins53; omega) h.ok.il
theorem pe_posted (h : PE w0 fq days W p y o E) : Calls Tryz.prog 11 #[.pointer (some ⟨p, 0, none⟩)] W (YCloneR E.yr W) := by
 obtain ⟨lo, li, h0, hE⟩ := h.em
 exact rpost_c fq days lo li p y o E W hE (by have := h.ok.yr; have := h.ok.tc; omega) (by have := h.ok.sl; have := h.ok.ins53; omega) (fun z hz => by have := h.ok.each z hz; omega)
end
def PNew (w0 : World) (re : Int) (E : Em) (fq days : Int) (w : World) (e : Ending) (w' : World) : Prop :=
 (re = 0 → ∃ p y o, e = .returned (.tuple #[.pointer (some ⟨p, 0, none⟩), .int .i64 0]) ∧ PE w0 fq days w' p y o E ∧ w.heap.size ≤ p ∧ w.heap.size ≤ y ∧ w.heap.size ≤ o) ∧ (re ≠ 0 → e = .returned (.tuple #[.pointer none, .int .i64 re])) ∧ Below w.heap.size w w'
theorem pe_new {w0 w : World} (h0 : Below w0.heap.size w0 w) (t : Tb) (As Ac Ak : Option Addr) (ns cs nc cc nk ck : Nat) (lim rnd : Int) (fq days : Int) (hf : nomI fq ≠ 0) (hd : 0 ≤ days ∧ days ≤ 366) (gy : Nat) (c : Cd) (hs : ScSl w As ns t.sch) (hc : CtSl w Ac nc t.cts) (hcc : nc ≤ cc) (hkd : KdSl w Ak nk t.kds) (hck : nk ≤ ck) (hl : lim = t.lim) (hr : rnd = t.rnd) (hsz : ns ≤ 20 ∧ nc ≤ 20 ∧ nk ≤ 30)
  (hy : YrAt w gy fq days) (re : Int) (he : Hid (re = newE t c)) :
  Calls Tryz.prog 30 #[.agg #[.slice As ns cs, .slice Ac nc cc, .slice Ak nk ck, .int .i64 lim, .int .i64 rnd], .pointer (some ⟨gy, 0, none⟩), .agg #[.int .i64 c.s, .int .i64 c.k, .int .i64 c.a, .int .i64 c.f, .bool c.al]] w (PNew w0 re (newV t c) fq days w) := by
 refine (rnew_c t As Ac Ak ns cs nc cc nk ck lim rnd fq days gy c.s c.k c.a c.f c.al w hs hc hcc hkd hck hl hr hy (fun hk => by
  obtain ⟨a, b⟩ := keep_sizes hk
  exact ⟨fun k hk => a k (by have := hs.1; omega), fun k hk => b k (by have := hc.1; omega)⟩) re he).mono ?_
 rintro e w' ⟨⟨h1, p, y, o, h2, h3⟩ | ⟨h1, h2⟩, hb⟩
 ·
  refine ⟨fun _ => ⟨p, y, o, h2, ⟨bT h0 hb, ⟨_, _, h0.size, h3⟩, ?_⟩, h3.lp, h3.ly, h3.lo'⟩, fun h => absurd h1 h, hb⟩
  have hk : keepE t = 0 := (sZ9 (he.out.symm.trans h1)).1
  exact EmOK.new hf hd hk (by rw [← hs.1]; exact hsz.1) (by rw [← hc.1]; exact hsz.2.1) (by rw [← hkd.1]; exact hsz.2.2)
 ·
  exact ⟨fun h => absurd h h1, fun _ => h2, hb⟩
theorem els_one1 (w : World) (z : El) : ElSl (w.alloc (.cells #[.string z.k, .int .i64 z.a, .int .i64 z.u] 98)) (some ⟨w.heap.size, 0, none⟩) 1 [z] := by
 have hb := Blk.mk w 98 #[.string z.k, .int .i64 z.a, .int .i64 z.u]
 refine ⟨rfl, by decide, fun _ => ⟨w.heap.size, 0, rfl, hb.lt, fun k hk j u hu => ?_⟩⟩
 have hk0 : k = 0 := by simpa using hk
 subst hk0
 rw [show (0 + 0 * 3 + j) = j by omega]
 have hj : j < 3 := by
  have := (List.getElem?_eq_some_iff.1 hu).1
  simpa [elC] using this
 rw [hb.cell j]
 have : j = 0 ∨ j = 1 ∨ j = 2 := by omega
 rcases this with rfl | rfl | rfl <;> exact hu
end Go.Proofs.YtiaabmhjkoohmaaGreat
namespace Go.Proofs.YtiaabmhjkoohmaaGreat
set_option maxRecDepth 100000
set_option maxHeartbeats 25600000
set_option linter.unusedVariables false
set_option linter.unusedSimpArgs false
open Go.RowKit Tryz
open Lib (hid)
def bd3C (f r e : Int) : Array Value := #[.int .i64 f, .int .i64 r, .int .i64 e]
theorem bd_row1 {w : World} {g : Nat} {f r e : Int} (h : Blk w g 145 (bd3C f r e)) : BandSl w (some ⟨g, 0, none⟩) 1 [⟨f, r, e⟩] := by
 refine ⟨rfl, by decide, fun _ => ⟨g, 0, rfl, h.lt, fun k hk => ?_⟩⟩
 have hk0 : k = 0 := by simpa using hk
 subst hk0
 exact ⟨h.cell 0, h.cell 1, h.cell 2⟩
theorem sc_row1 {w : World} {g g2 : Nat} {l : List Bd} (h : Blk w g 146 #[.slice (some ⟨g2, 0, none⟩) 1 1]) (hb : BandSl w (some ⟨g2, 0, none⟩) 1 l) : ScSl w (some ⟨g, 0, none⟩) 1 [l] := by
 refine ⟨rfl, by decide, fun _ => ⟨g, 0, rfl, h.lt, fun k hk => ?_⟩⟩
 have hk0 : k = 0 := by simpa using hk
 subst hk0
 exact ⟨_, _, _, h.cell 0, hb⟩
theorem kd_row1 {w : World} {g : Nat} {x : Kd} (h : Blk w g 148 #[.string x.nm, .int .i64 x.c, .int .i64 x.t, .int .i64 x.s]) (hs : x.nm.size ≤ 9223372036854775807) : KdSl w (some ⟨g, 0, none⟩) 1 [x] := by
 refine ⟨rfl, by decide, fun _ => ⟨g, 0, rfl, h.lt, fun k hk => ?_⟩⟩
 have hk0 : k = 0 := by simpa using hk
 subst hk0
 exact ⟨h.cell 0, hs, h.cell 1, h.cell 2, h.cell 3⟩
def PlainR (t : Tb) (nc : Nat) (w : World) (e : Ending) (w' : World) : Prop := (∃ As Ac Ak, e = .returned (.agg #[.slice As 1 1, .slice Ac nc nc, .slice Ak 1 1, .int .i64 t.lim, .int .i64 t.rnd]) ∧ ScSl w' As 1 t.sch ∧ CtSl w' Ac nc t.cts ∧ KdSl w' Ak 1 t.kds) ∧ Below w.heap.size w w'
theorem months23_c (w : World) : Calls prog 32 #[] w fun e w' => (∃ g, e = .returned (.pointer (some ⟨g, 0, none⟩)) ∧ YrAt w' g 4 365) ∧ Below w.heap.size w w' := by
 have K := hid (new2024_yes 4 (by decide) w)
 unfold NewYr at K
 go_enter func32, ntmps32
 go_wp2_with fail
 refine K.out.mono ?_
 rintro e w1 ⟨⟨g, rfl, hy, _, _⟩, hb⟩
 go_wp2_with fail
 go_ret
 exact ⟨⟨g, rfl, hy⟩, hb⟩
theorem plain23_c (w : World) : Calls prog 31 #[] w (PlainR plT23 0 w) := by
 have HF0 := hid (Fr.start w)
 go_enter func31, ntmps31
 go_wp2_with fail
 have HF1 := al9 (((((HF0.out.al 26 #[.slice (some ⟨w.heap.size + 1 + 1, 0, none⟩) 1 1, .slice none 0 0, .slice (some ⟨w.heap.size + 1 + 1 + 1, 0, none⟩) 1 1, .int .i64 5000, .int .i64 1]).al 145 #[.int .i64 0, .int .i64 2000, .int .i64 0]).al 146 #[.slice (some ⟨w.heap.size + 1, 0, none⟩) 1 1]).al 148 #[.string salB, .int .i64 1, .int .i64 1, .int .i64 1]))
 clear HF0
 obtain ⟨c0_0, c0_1, c0_2, c0_3, c0_4⟩ := (HF1.out.b 0 rfl).q5
 refine bodyPost_ret (v := .agg #[.slice (some ⟨w.heap.size + 1 + 1, 0, none⟩) 1 1, .slice none 0 0, .slice (some ⟨w.heap.size + 1 + 1 + 1, 0, none⟩) 1 1, .int .i64 5000, .int .i64 1]) (by simp [results, results31, go_sem, c0_0, c0_1, c0_2, c0_3, c0_4]) rfl ⟨⟨_, _, _, rfl, ?_, ?_, ?_⟩, HF1.out.bl⟩
 ·
  exact sc_row1 (HF1.out.b 2 rfl) (bd_row1 (f := 0) (r := 2000) (e := 0) (HF1.out.b 1 rfl))
 ·
  exact ⟨rfl, by decide, fun h => absurd h (by decide)⟩
 ·
  exact kd_row1 (x := ⟨salB, 1, 1, 1⟩) (HF1.out.b 3 rfl) (by decide)
def mtD (T : TypeId) : Bool := T == 109 || T == 111 || T == 143 || T == 55 || T == 67 || T == 62
def TyD (X : Nat → Prop) (w : World) : Prop := ∀ g, X g → g < w.heap.size → ∃ T cs, Blk w g T cs ∧ mtD T = true
section
variable {X : Nat → Prop} {w w' : World} {base : Nat}
theorem own_fy {size n : Nat} {e : TypeId} {v : Value} {xs : List Value} (h : w.ownsRow base e size v n xs) (ty : TyD X w) (hk : Kp w.heap.size X w w') (he : mtD e = false) : w'.ownsRow base e size v n xs :=
 own_kp h hk fun g hg => ⟨(h.lt g hg).2, fun hX => by
  obtain ⟨T, cs, hb, hm⟩ := ty g hX (h.lt g hg).2
  exact own_blk h hb (fun hE => by subst hE; rw [he] at hm; cases hm) hg.symm⟩
theorem TyD.below (h : TyD X w) (hb : Below w.heap.size w w') (hX : ∀ g, X g → g < w.heap.size) : TyD X w' := fun g hg _ => by
 obtain ⟨T, cs, h1, h2⟩ := h g hg (hX g hg)
 exact ⟨T, cs, h1.t hb, h2⟩
theorem Blk.fy {g : Nat} {t : TypeId} {cs : Array Value} (h : Blk w g t cs) (ty : TyD X w) (hk : Kp w.heap.size X w w') (ht : mtD t = false) : Blk w' g t cs :=
 h.kp hk h.lt fun hX => by
  obtain ⟨T, cs', hb, hm⟩ := ty g hX h.lt
  exact Blk.differ h hb (fun hE => by subst hE; rw [ht] at hm; cases hm) rfl
theorem OwnB.fy {v : Value} {n : Nat} {l : List Bd} (h : OwnB w base v n l) (ty : TyD X w) (hk : Kp w.heap.size X w w') : OwnB w' base v n l := ⟨h.1, own_fy h.2 ty hk (by decide)⟩
theorem OwnT.fy {sch : List (List Bd)} {cts : List Ct} {kds : List Kd} {As Ac Ak : Option Addr} {ns cs nc cc nk ck : Nat} (h : OwnT w base sch cts kds As Ac Ak ns cs nc cc nk ck) (ty : TyD X w) (hk : Kp w.heap.size X w w') : OwnT w' base sch cts kds As Ac Ak ns cs nc cc nk ck := by
 obtain ⟨⟨ls, e1, o1, b1⟩, ⟨lc, e2, o2, b2⟩, o3, b3⟩ := h
 exact ⟨⟨ls, e1, own_fy o1 ty hk (by decide), fun p hp => (b1 p hp).fy ty hk⟩, ⟨lc, e2, own_fy o2 ty hk (by decide), fun p hp => ⟨(b2 p hp).1.fy ty hk, (b2 p hp).2⟩⟩, own_fy o3 ty hk (by decide), b3⟩
theorem SpOwn.fy {q : SpP} (h : SpOwn w base q) (ty : TyD X w) (hk : Kp w.heap.size X w w') : SpOwn w' base q := ⟨own_fy h.rows ty hk (by decide), own_fy h.tk ty hk (by decide)⟩
theorem SlipsOwn.fy {A : Option Addr} {n c : Nat} {l : List Sp} (h : SlipsOwn w base A n c l) (ty : TyD X w) (hk : Kp w.heap.size X w w') : SlipsOwn w' base A n c l := by
 obtain ⟨L, h1, h2, h3, h4⟩ := h.ex
 exact ⟨L, h1, h2, own_fy h3 ty hk (by decide), fun q hq => (h4 q hq).fy ty hk⟩
theorem Ya9.fy {p : Nat} {Y : Yr} {A : Option Addr} {c : Nat} {B : Option Addr} {d : Nat} (h : Ya9 w base p Y A c B d) (ty : TyD X w) (hk : Kp w.heap.size X w w') (hp : ¬ X p) : Ya9 w' base p Y A c B d :=
 ⟨h.blk.kp hk h.blk.lt hp, h.sl.fy ty hk, own_fy h.rows ty hk (by decide)⟩
theorem Bk.fy {p : Nat} {l : List Od} (h : Bk w p l) (ty : TyD X w) (hk : Kp w.heap.size X w w') (hp : ¬ X p) : Bk w' p l := by
 obtain ⟨v, h1, h2⟩ := h
 exact ⟨v, h1.kp hk h1.lt hp, h2.1, own_fy h2.2 ty hk (by decide)⟩
theorem YrAt.fy {g : Nat} {f d : Int} (h : YrAt w g f d) (ty : TyD X w) (hk : Kp w.heap.size X w w') : YrAt w' g f d := by
 obtain ⟨a, b, c, d, e, x, y, h⟩ := h
 exact ⟨a, b, c, d, e, x, y, h.fy ty hk (by decide)⟩
end
def blkO (A : Option Addr) : Option Nat := A.map Addr.block
theorem own_adr {w w' : World} {X : Nat → Prop} {base size n c : Nat} {e : TypeId} {A : Option Addr} {xs : List Value} (h : w.ownsRow base e size (.slice A n c) n xs) (hk : Kp w.heap.size X w w') (hx : ∀ g, blkO A = some g → ¬ X g) : w'.ownsRow base e size (.slice A n c) n xs :=
 own_kp h hk fun g hg => ⟨(h.lt g hg).2, hx g (by
  have h2 := hg
  rcases A with _ | ⟨b, o, t⟩
  ·
   cases h2
  ·
   exact h2)⟩
theorem Iw9.fy {X : Nat → Prop} {w w' : World} {lo base : Nat} {A : Option Addr} {n c : Nat} {l : List In} (h : Iw9 w lo base A n c l) (ty : TyD X w) (hk : Kp w.heap.size X w w') (hx : ∀ g, blkO A = some g → ¬ X g) : Iw9 w' lo base A n c l := by
 obtain ⟨L, h1, h2, h3, h4⟩ := h.ex
 exact ⟨L, h1, h2, own_adr h3 hk hx, fun q hq => ⟨(h4 q hq).1, own_fy (h4 q hq).2 ty hk (by decide)⟩⟩
structure FxP where
 z : Fx
 A : Option Addr
 n : Nat
 c : Nat
def fxp0 : FxP := ⟨fx0, none, 0, 0⟩
def fxPC (q : FxP) : List Value := [.int .i64 q.z.k, .slice q.A q.n q.c, .int .i64 q.z.a]
theorem fxPC_len (q : FxP) : (fxPC q).length = 3 := rfl
theorem fxp_one (x : FxP) : ∀ u ∈ fxPC x, u.oneCell' = true := by intro u hu; simp [fxPC] at hu; rcases hu with rfl | rfl | rfl <;> rfl
structure FxOwn (w : World) (lo base : Nat) (A : Option Addr) (n c : Nat) (l : List Fx) : Prop where
 ex : ∃ L : List FxP, L.map FxP.z = l ∧ n = L.length ∧ w.ownsRow base 62 3 (.slice A n c) n (L.flatMap fxPC) ∧ ∀ q ∈ L, q.n = q.z.l.length ∧ w.ownsRow lo 98 3 (.slice q.A q.n q.c) q.n (q.z.l.flatMap elC)
structure FxIn (w : World) (A : Option Addr) (n : Nat) (l : List Fx) : Prop where
 ex : ∃ L : List FxP, L.map FxP.z = l ∧ RowSl fxPC 3 fxp0 w A n L ∧ ∀ q ∈ L, ElSl w q.A q.n q.z.l
section
variable {w w' : World} {lo base : Nat} {A : Option Addr} {n c : Nat} {l : List Fx}
theorem FxIn.below (h : FxIn w A n l) (hb : Below w.heap.size w w') : FxIn w' A n l := by
 obtain ⟨L, h1, h2, h3⟩ := h.ex
 exact ⟨L, h1, h2.below hb, fun q hq => (h3 q hq).below hb⟩
theorem FxOwn.len (h : FxOwn w lo base A n c l) : n = l.length := by
 obtain ⟨L, h1, h2, _⟩ := h.ex
 rw [h2, ← h1, List.length_map]
theorem FxOwn.below (h : FxOwn w lo base A n c l) (hb : Below w.heap.size w w') : FxOwn w' lo base A n c l := by
 obtain ⟨L, h1, h2, h3, h4⟩ := h.ex
 exact ⟨L, h1, h2, oB9 h3 hb, fun q hq => ⟨(h4 q hq).1, oB9 (h4 q hq).2 hb⟩⟩
theorem FxOwn.more {lo' base' : Nat} (h : FxOwn w lo base A n c l) (hl : lo' ≤ lo) (hb : base' ≤ base) : FxOwn w lo' base' A n c l := by
 obtain ⟨L, h1, h2, h3, h4⟩ := h.ex
 exact ⟨L, h1, h2, oM9 h3 hb, fun q hq => ⟨(h4 q hq).1, oM9 (h4 q hq).2 hl⟩⟩
theorem FxOwn.fy {X : Nat → Prop} (h : FxOwn w lo base A n c l) (ty : TyD X w) (hk : Kp w.heap.size X w w') (hx : ∀ g, blkO A = some g → ¬ X g) : FxOwn w' lo base A n c l := by
 obtain ⟨L, h1, h2, h3, h4⟩ := h.ex
 exact ⟨L, h1, h2, own_adr h3 hk hx, fun q hq => ⟨(h4 q hq).1, own_fy (h4 q hq).2 ty hk (by decide)⟩⟩
theorem FxOwn.fx {X : Nat → Prop} (h : FxOwn w lo base A n c l) (ty : Ty X w) (hk : Kp w.heap.size X w w') : FxOwn w' lo base A n c l := by
 obtain ⟨L, h1, h2, h3, h4⟩ := h.ex
 exact ⟨L, h1, h2, own_fx h3 ty hk (by decide), fun q hq => ⟨(h4 q hq).1, own_fx (h4 q hq).2 ty hk (by decide)⟩⟩
theorem FxOwn.view (h : FxOwn w lo base A n c l) : FxIn w A n l := by
 obtain ⟨L, h1, h2, h3, h4⟩ := h.ex
 obtain ⟨A', c', he, _, hs⟩ := own_sl fxPC 3 fxp0 fxPC_len h3 h2 (by decide)
 injection he with e1 _ e3
 subst e1
 exact ⟨L, h1, hs, fun q hq => el_row (h4 q hq).2 (h4 q hq).1⟩
theorem FxOwn.nil (w : World) (lo base : Nat) : FxOwn w lo base none 0 0 [] := ⟨[], rfl, rfl, World.ownsRow_nil _ _ _ _, fun q hq => by cases hq⟩
end
structure DkS where
 d : Nat
 p : Nat
 y : Nat
 o : Nat
 A1 : Option Addr
 A2 : Option Addr
 A3 : Option Addr
def DkS.mt (s : DkS) (g : Nat) : Prop := g = s.d ∨ g = s.p ∨ g = s.y ∨ g = s.o ∨ blkO s.A1 = some g ∨ blkO s.A2 = some g
def DkS.rd (s : DkS) (g : Nat) : Prop := s.mt g ∨ blkO s.A3 = some g
structure DkAt (w : World) (lo : Nat) (fq days : Int) (s : DkS) (D : Dk) : Prop where
 ex : ∃ c1 c2 c3, Blk w s.d 55 #[.pointer (some ⟨s.p, 0, none⟩), .slice s.A2 D.fx.length c2, .slice s.A1 D.fs.length c1] ∧ w.cell? ⟨s.p, 13, none⟩ = some (.slice s.A3 D.e.ins.length c3) ∧ FxOwn w lo lo s.A2 D.fx.length c2 D.fx ∧ Iw9 w lo lo s.A1 D.fs.length c1 D.fs
 em : Ea9 w lo lo fq days s.p s.y s.o D.e
 ld : lo ≤ s.d
 sep : ∀ g, blkO s.A1 = some g → blkO s.A3 ≠ some g
def DkMut (D' : Dk) (lo : Nat) (fq days : Int) (s : DkS) (w w' : World) : Prop :=
 ∃ s', (s'.d = s.d ∧ s'.p = s.p ∧ s'.y = s.y) ∧ DkAt w' lo fq days s' D' ∧ (∀ g, s'.rd g → s.rd g ∨ w.heap.size ≤ g) ∧ (∀ g, s'.mt g → s.mt g ∨ w.heap.size ≤ g) ∧ Kp w.heap.size s.mt w w' ∧ ∀ g, g < w.heap.size → SlAt w s.y g → SlAt w' s.y g
section
variable {w w' : World} {lo li : Nat} {fq days : Int} {p y o : Nat} {E : Em} {K : EmC}
theorem EmRows.low (h : EmRows w lo li fq days E K y o) (hl : lo ≤ li) : EmRows w lo lo fq days E K y o := ⟨h.tb, h.gy, h.nx, h.ins.more (Nat.le_refl _) hl, h.yr, h.bk⟩
theorem Ea9.low (h : Ea9 w lo li fq days p y o E) : Ea9 w lo lo fq days p y o E := by
 obtain ⟨K, h1, h2⟩ := h.ex
 exact ⟨⟨K, h1, h2.low h.li'⟩, h.lp, h.ly, h.lo', Nat.le_refl _⟩
theorem EmRows.fy {X : Nat → Prop} (h : EmRows w lo li fq days E K y o) (ty : TyD X w) (hk : Kp w.heap.size X w w') (hy : ¬ X y) (ho : ¬ X o) (hi : ∀ g, blkO K.Ai = some g → ¬ X g) : EmRows w' lo li fq days E K y o := by
 obtain ⟨A, c, B, d, h5⟩ := h.yr
 exact ⟨h.tb.fy ty hk, h.gy.fy ty hk, own_fy h.nx ty hk (by decide), h.ins.fy ty hk hi, ⟨A, c, B, d, h5.fy ty hk hy⟩, h.bk.fy ty hk ho⟩
theorem Ea9.c13 (h : Ea9 w lo li fq days p y o E) {A : Option Addr} {n c : Nat} (h2 : w.cell? ⟨p, 13, none⟩ = some (.slice A n c)) : ∃ K : EmC, K.Ai = A ∧ Blk w p 109 (emC E K y o) ∧ EmRows w lo li fq days E K y o := by
 obtain ⟨K, h3, h4⟩ := h.ex
 have h5 := (h3.cell 13).symm.trans h2
 have h6 : (emC E K y o)[13]? = some (.slice K.Ai E.ins.length K.ci) := rfl
 rw [h6] at h5
 injection h5 with h5
 injection h5 with h5 _ _
 exact ⟨K, h5, h3, h4⟩
theorem Ea9.fy {X : Nat → Prop} (h : Ea9 w lo li fq days p y o E) {A : Option Addr} {n c : Nat} (h2 : w.cell? ⟨p, 13, none⟩ = some (.slice A n c)) (ty : TyD X w) (hk : Kp w.heap.size X w w') (hp : ¬ X p) (hy : ¬ X y) (ho : ¬ X o) (hi : ∀ g, blkO A = some g → ¬ X g) : Ea9 w' lo li fq days p y o E := by
 obtain ⟨K, h3, h4, h5⟩ := h.c13 h2
 subst h3
 exact ⟨⟨K, h4.kp hk h4.lt hp, h5.fy ty hk hy ho hi⟩, h.lp, h.ly, h.lo', h.li'⟩
theorem Ty.d {X : Nat → Prop} (h : Ty X w) : TyD X w := fun g hg hl => by
 obtain ⟨T, cs, h1, h2⟩ := h g hg hl
 refine ⟨T, cs, h1, ?_⟩
 unfold mtD
 unfold mtB at h2
 rw [h2]
 rfl
end
section
variable {w w' : World} {lo : Nat} {fq days : Int} {s : DkS} {D : Dk}
theorem DkAt.below (h : DkAt w lo fq days s D) (hb : Below w.heap.size w w') : DkAt w' lo fq days s D := by
 obtain ⟨c1, c2, c3, h1, h2, h3, h4⟩ := h.ex
 refine ⟨⟨c1, c2, c3, h1.t hb, ?_, h3.below hb, h4.below hb⟩, h.em.below hb, h.ld, h.sep⟩
 exact (hb.cell (p := ⟨s.p, 13, none⟩) h.em.lt.1).trans h2
theorem own_typ {base size n c g : Nat} {e : TypeId} {A : Option Addr} {xs : List Value} (h : w.ownsRow base e size (.slice A n c) n xs) (hg : blkO A = some g) : (∃ cs, Blk w g e cs) ∧ base ≤ g := by
 rcases h.2 with ⟨h1, _⟩ | ⟨g', cap, cur, h1, h2, h3, _⟩
 ·
  cases h1; cases hg
 ·
  cases h1
  injection hg with hg
  subst hg
  exact ⟨⟨cur, h3⟩, h2⟩
theorem DkAt.tyd (h : DkAt w lo fq days s D) : TyD s.mt w := by
 obtain ⟨c1, c2, c3, h1, h2, h3, h4⟩ := h.ex
 have ht := h.em.ty
 rintro g (rfl | rfl | rfl | rfl | hg | hg) hl
 ·
  exact ⟨_, _, h1, by decide⟩
 ·
  exact ht.d s.p (Or.inl rfl) hl
 ·
  exact ht.d s.y (Or.inr (Or.inl rfl)) hl
 ·
  exact ht.d s.o (Or.inr (Or.inr rfl)) hl
 ·
  obtain ⟨L, _, _, h5, _⟩ := h4.ex
  obtain ⟨⟨cs, h6⟩, _⟩ := own_typ h5 hg
  exact ⟨_, _, h6, by decide⟩
 ·
  obtain ⟨L, _, _, h5, _⟩ := h3.ex
  obtain ⟨⟨cs, h6⟩, _⟩ := own_typ h5 hg
  exact ⟨_, _, h6, by decide⟩
theorem DkAt.ge (h : DkAt w lo fq days s D) {g : Nat} (hg : s.rd g) : lo ≤ g ∧ g < w.heap.size := by
 obtain ⟨c1, c2, c3, h1, h2, h3, h4⟩ := h.ex
 have hlt := h.em.lt
 rcases hg with (rfl | rfl | rfl | rfl | hg | hg) | hg
 ·
  exact ⟨h.ld, h1.lt⟩
 ·
  exact ⟨h.em.lp, hlt.1⟩
 ·
  exact ⟨h.em.ly, hlt.2.1⟩
 ·
  exact ⟨h.em.lo', hlt.2.2⟩
 ·
  obtain ⟨L, _, _, h5, _⟩ := h4.ex
  obtain ⟨⟨cs, h6⟩, h7⟩ := own_typ h5 hg
  exact ⟨h7, h6.lt⟩
 ·
  obtain ⟨L, _, _, h5, _⟩ := h3.ex
  obtain ⟨⟨cs, h6⟩, h7⟩ := own_typ h5 hg
  exact ⟨h7, h6.lt⟩
 ·
  obtain ⟨K, h5, _, h6⟩ := h.em.c13 h2
  obtain ⟨L, _, _, h7, _⟩ := h6.ins.ex
  rw [h5] at h7
  obtain ⟨⟨cs, h8⟩, h9⟩ := own_typ h7 hg
  exact ⟨h9, h8.lt⟩
theorem DkAt.fy {X : Nat → Prop} (h : DkAt w lo fq days s D) (ty : TyD X w) (hk : Kp w.heap.size X w w') (hx : ∀ g, s.rd g → ¬ X g) : DkAt w' lo fq days s D := by
 obtain ⟨c1, c2, c3, h1, h2, h3, h4⟩ := h.ex
 have e := h.em.fy h2 ty hk (hx _ (Or.inl (Or.inr (Or.inl rfl)))) (hx _ (Or.inl (Or.inr (Or.inr (Or.inl rfl))))) (hx _ (Or.inl (Or.inr (Or.inr (Or.inr (Or.inl rfl)))))) (fun g hg => hx g (Or.inr hg))
 refine ⟨⟨c1, c2, c3, h1.kp hk h1.lt (hx _ (Or.inl (Or.inl rfl))), ?_, h3.fy ty hk (fun g hg => hx g (Or.inl (Or.inr (Or.inr (Or.inr (Or.inr (Or.inr hg))))))), h4.fy ty hk (fun g hg => hx g (Or.inl (Or.inr (Or.inr (Or.inr (Or.inr (Or.inl hg))))))) ⟩, e, h.ld, h.sep⟩
 obtain ⟨K, h5, h6, _⟩ := h.em.c13 h2
 have h7 := h6.kp hk h6.lt (hx _ (Or.inl (Or.inr (Or.inl rfl))))
 exact ((h7.cell 13).trans (h6.cell 13).symm).trans h2
theorem DkAt.act (h : DkAt w lo fq days s D) {li : Nat} {E : Em} (he : Ea9 w' lo li fq days s.p s.y s.o E) (hk : Kp w.heap.size (fx3 s.p s.y s.o) w w') (hc : w'.cell? ⟨s.p, 13, none⟩ = w.cell? ⟨s.p, 13, none⟩) (hn : E.ins.length = D.e.ins.length) (hs : ∀ g, g < w.heap.size → SlAt w s.y g → SlAt w' s.y g) : DkMut { D with e := E } lo fq days s w w' := by
 obtain ⟨c1, c2, c3, h1, h2, h3, h4⟩ := h.ex
 have ht := h.em.ty
 have hd : ¬ fx3 s.p s.y s.o s.d := fun hx => by
  obtain ⟨T, cs, hb, hm⟩ := ht s.d hx h1.lt
  obtain ⟨K, h5, _⟩ := h.em.ex
  obtain ⟨K, hr⟩ := h.em.ex
  obtain ⟨A, c, B, d, hy⟩ := hr.2.yr
  obtain ⟨v, ho, _⟩ := hr.2.bk
  rcases hx with hx | hx | hx
  ·
   exact Blk.differ h1 h5 (by decide) hx
  ·
   exact Blk.differ h1 hy.blk (by decide) hx
  ·
   exact Blk.differ h1 ho (by decide) hx
 refine ⟨s, ⟨rfl, rfl, rfl⟩, ⟨⟨c1, c2, c3, h1.kp hk h1.lt hd, ?_, h3.fx ht hk, h4.fx ht hk⟩, he.low, h.ld, h.sep⟩, fun g hg => Or.inl hg, fun g hg => Or.inl hg, hk.mono ?_, hs⟩
 ·
  rw [hc, h2, hn]
 ·
  rintro g (rfl | rfl | rfl)
  ·
   exact Or.inr (Or.inl rfl)
  ·
   exact Or.inr (Or.inr (Or.inl rfl))
  ·
   exact Or.inr (Or.inr (Or.inr (Or.inl rfl)))
theorem DkMut.trans {w2 : World} {s : DkS} {D1 D2 : Dk} (h : DkMut D1 lo fq days s w w') (h2 : ∀ s', DkAt w' lo fq days s' D1 → DkMut D2 lo fq days s' w' w2) : DkMut D2 lo fq days s w w2 := by
 obtain ⟨s1, e1, a1, r1, m1, k1, y1⟩ := h
 obtain ⟨s2, e2, a2, r2, m2, k2, y2⟩ := h2 s1 a1
 refine ⟨s2, ⟨e2.1.trans e1.1, e2.2.1.trans e1.2.1, e2.2.2.trans e1.2.2⟩, a2, fun g hg => ?_, fun g hg => ?_, kK k1 k2 (fun g hl hg => ?_), fun g hg hs => e1.2.2 ▸ y2 g (Nat.lt_of_lt_of_le hg k1.size) (e1.2.2.symm ▸ y1 g hg hs)⟩
 ·
  rcases r2 g hg with hg | hg
  ·
   exact r1 g hg
  ·
   exact Or.inr (Nat.le_trans k1.size hg)
 ·
  rcases m2 g hg with hg | hg
  ·
   exact m1 g hg
  ·
   exact Or.inr (Nat.le_trans k1.size hg)
 ·
  rcases m1 g hg with hg | hg
  ·
   exact hg
  ·
   omega
end
section
variable {P : Program}
theorem run_appW (w : World) (t ty e : TypeId) (z : Value) (size bytes : Nat) (ht : P.underlying t = some (.slice e)) (hi : (P.info? e).map (fun i => (i.zero, i.size, i.bytes)) = some (some z, size, bytes))
  (hzs : z.cells.size = size) (hsz : 0 < size) {base : Nat} {v : Value} {n : Nat} {xs : List Value} (hown : w.ownsRow base e size v n xs) (ad : Addr) (m c : Nat) (news : List Value) (hm : 0 < m) (hl : news.length = m * size) (hnews : ∀ j u, news[j]? = some u → w.cell? (ad.add j) = some u) (h1 : ∀ u ∈ news, u.oneCell' = true)
  (hn : (n + m) * bytes ≤ 140737488355328) (hn2 : n + m ≤ 9223372036854775807) (hbase : base ≤ w.heap.size) :
  ∃ v' w', (Builtin.append_ #[t, t] ty #[v, .slice (some ad) m c]).run P w = .ok v' w' ∧ w'.ownsRow base e size v' (n + m) (xs ++ news) ∧ w.grownBy w' v.ownBlock ∧ (v'.ownBlock = v.ownBlock ∨ ∃ g, v'.ownBlock = some g ∧ w.heap.size ≤ g) := by
 obtain ⟨i, hi', hz, hs, hb⟩ := info_parts hi
 obtain ⟨v', w', hr, ho, hg, _⟩ := run_append_own (P := P) w base t ty e i z size bytes ht hi' hz hs hb hzs hsz v n xs hown ad m c news hl hnews h1 (by unfold maxLen; exact hn2) hn hbase
 refine ⟨v', w', hr, ho, hg, ?_⟩
 subst hs
 subst hb
 rcases hown.2 with ⟨rfl, rfl⟩ | ⟨g, cap, cur, rfl, hbg, hgg, hnc, hcm, hcs, htake⟩
 ·
  have hr2 := run_append_nil (P := P) w t ty e i z ht hi' hz ad m c news hl hnews (by omega) (by omega) (by have hb := hn; simp only [Nat.zero_add] at hb; omega)
  rw [hr] at hr2
  injection hr2 with e1 e2
  exact Or.inr ⟨w.heap.size, by rw [e1]; rfl, Nat.le_refl _⟩
 ·
  by_cases hroom : n + m ≤ cap
  ·
   have hfit : n * i.size + news.length ≤ cur.size := by rw [hl, hcs, ← Nat.add_mul]; exact Nat.mul_le_mul_right _ hroom
   have hr2 := run_append_room (P := P) w t ty e i ht hi' g n cap cur hgg ad m c news hl hnews h1 hroom hfit
   rw [hr] at hr2
   injection hr2 with e1 e2
   exact Or.inl (by rw [e1]; rfl)
  ·
   have holds : ∀ j u, xs[j]? = some u → w.cell? ((⟨g, 0, none⟩ : Addr).add j) = some u := hown.cells (g := g) rfl
   have hr2 := run_append_grow (P := P) w t ty e i z ht hi' hz ⟨g, 0, none⟩ n cap xs hown.1 holds ad m c news hl hnews (by omega) (by omega) (growslice_fits (by omega) hn)
   rw [hr] at hr2
   injection hr2 with e1 e2
   exact Or.inr ⟨w.heap.size, by rw [e1]; rfl, Nat.le_refl _⟩
theorem run_app1W (w : World) (t ty e : TypeId) (z : Value) (size bytes : Nat) (ht : P.underlying t = some (.slice e)) (hi : (P.info? e).map (fun i => (i.zero, i.size, i.bytes)) = some (some z, size, bytes))
  (hzs : z.cells.size = size) (hsz : 0 < size) {base : Nat} {v : Value} {n : Nat} {xs : List Value} (hown : w.ownsRow base e size v n xs) (cs : Array Value) (hl : cs.size = size) (h1 : ∀ u ∈ cs.toList, u.oneCell' = true)
  (hn : (n + 1) * bytes ≤ 140737488355328) (hn2 : n + 1 ≤ 9223372036854775807) (hbase : base ≤ w.heap.size) :
  ∃ v' w', (Builtin.append_ #[t, t] ty #[v, .slice (some ⟨w.heap.size, 0, none⟩) 1 1]).run P (w.alloc (.cells cs e)) = .ok v' w' ∧ w'.ownsRow base e size v' (n + 1) (xs ++ cs.toList) ∧ w.grownBy w' v.ownBlock ∧ (v'.ownBlock = v.ownBlock ∨ ∃ g, v'.ownBlock = some g ∧ w.heap.size ≤ g) := by
 obtain ⟨v', w', hr, ho, hg, hw⟩ := run_appW (P := P) (w.alloc (.cells cs e)) t ty e z size bytes ht hi hzs hsz (hown.alloc _) ⟨w.heap.size, 0, none⟩ 1 1 cs.toList (by decide) (by simpa using hl)
  (fun j u hu => by
   rw [add_plain, cell_of_row _ _ _ cs e (0, 0) (heap_alloc_new w _)]
   simpa using hu) h1 hn hn2 (by simp; omega)
 refine ⟨v', w', hr, ho, (World.grownBy_alloc w _ _).trans hg, hw.imp id fun ⟨g, h2, h3⟩ => ⟨g, h2, Nat.le_trans (by simp) h3⟩⟩
end
theorem blkO_own (A : Option Addr) (n c : Nat) : (Value.slice A n c).ownBlock = blkO A := by rcases A with _ | a <;> rfl
theorem oK9 {w W : World} {b1 b2 s1 s2 n1 n2 c2 : Nat} {e t : TypeId} {v : Value} {A : Option Addr} {xs ys : List Value} (h : w.ownsRow b1 e s1 v n1 xs) (ho : w.ownsRow b2 t s2 (.slice A n2 c2) n2 ys) (hne : e ≠ t) (hg : w.grownBy W (blkO A)) : W.ownsRow b1 e s1 v n1 xs := by
 rcases hA : blkO A with _ | g
 ·
  rw [hA] at hg
  rcases hv : v.ownBlock with _ | g2
  ·
   exact h.kept hg (Or.inl hv)
  ·
   exact h.kept hg (Or.inr (by rw [hv]; exact fun h => nomatch h))
 ·
  obtain ⟨⟨cs, hb⟩, _⟩ := own_typ ho hA
  rw [hA] at hg
  exact h.kept hg (Or.inr (own_blk h hb hne).symm)
section
variable {w W : World} {lo base : Nat} {A A' : Option Addr} {n c c' : Nat}
theorem FxOwn.app {l : List Fx} (h : FxOwn w lo base A n c l) : ∃ xs, w.ownsRow base 62 3 (.slice A n c) n xs ∧ ∀ (W5 W : World) (A' : Option Addr) (c' : Nat) (q : FxP), Below w.heap.size w W5 → W5.grownBy W (blkO A) → W.ownsRow base 62 3 (.slice A' (n + 1) c') (n + 1) (xs ++ fxPC q) → q.n = q.z.l.length → W.ownsRow lo 98 3 (.slice q.A q.n q.c) q.n (q.z.l.flatMap elC) → FxOwn W lo base A' (n + 1) c' (l ++ [q.z]) := by
 obtain ⟨L, h1, h2, h3, h4⟩ := h.ex
 refine ⟨_, h3, fun W5 W A' c' q hb hg ho hn hq => ⟨L ++ [q], by rw [List.map_append, h1]; rfl, by rw [List.length_append, ← h2]; rfl, by rw [List.flatMap_append]; simpa using ho, fun r hr => ?_⟩⟩
 rcases List.mem_append.1 hr with hr | hr
 ·
  exact ⟨(h4 r hr).1, oK9 (oB9 (h4 r hr).2 hb) (oB9 h3 hb) (by decide) hg⟩
 ·
  rw [List.mem_singleton] at hr; subst hr; exact ⟨hn, hq⟩
theorem Iw9.app {l : List In} (h : Iw9 w lo base A n c l) : ∃ xs, w.ownsRow base 67 6 (.slice A n c) n xs ∧ ∀ (W5 W : World) (A' : Option Addr) (c' : Nat) (q : InP), Below w.heap.size w W5 → W5.grownBy W (blkO A) → W.ownsRow base 67 6 (.slice A' (n + 1) c') (n + 1) (xs ++ inPC q) → q.n = q.z.l.length → W.ownsRow lo 98 3 (.slice q.A q.n q.k) q.n (q.z.l.flatMap elC) → Iw9 W lo base A' (n + 1) c' (l ++ [q.z]) := by
 obtain ⟨L, h1, h2, h3, h4⟩ := h.ex
 refine ⟨_, h3, fun W5 W A' c' q hb hg ho hn hq => ⟨L ++ [q], by rw [List.map_append, h1]; rfl, by rw [List.length_append, ← h2]; rfl, by rw [List.flatMap_append]; simpa using ho, fun r hr => ?_⟩⟩
 rcases List.mem_append.1 hr with hr | hr
 ·
  exact ⟨(h4 r hr).1, oK9 (oB9 (h4 r hr).2 hb) (oB9 h3 hb) (by decide) hg⟩
 ·
  rw [List.mem_singleton] at hr; subst hr; exact ⟨hn, hq⟩
end
section
variable {w W : World} {lo : Nat} {fq days : Int} {s : DkS} {D : Dk}
theorem Ea9.slk2 {w w' : World} {lo li : Nat} {fq days : Int} {p y o : Nat} {E : Em} (h : Ea9 w lo li fq days p y o E) (hk : Kp w.heap.size (fx2 p o) w w') : ∀ g, g < w.heap.size → SlAt w y g → SlAt w' y g := by
 obtain ⟨n1, n2, n3⟩ := h.diff
 obtain ⟨K, h1, h2⟩ := h.ex
 obtain ⟨A, c, B, d, h5⟩ := h2.yr
 intro g hg hs
 have hb := h5.blk.kp hk h5.blk.lt (fun hx => hx.elim (fun e => n1 e.symm) (fun e => n3 e))
 exact hs.same ((hb.cell 1).trans (h5.blk.cell 1).symm)
theorem DkAt.open (h : DkAt w lo fq days s D) : ∃ c1 c2 c3, Blk w s.d 55 #[.pointer (some ⟨s.p, 0, none⟩), .slice s.A2 D.fx.length c2, .slice s.A1 D.fs.length c1] ∧ w.cell? ⟨s.p, 13, none⟩ = some (.slice s.A3 D.e.ins.length c3) ∧ FxOwn w lo lo s.A2 D.fx.length c2 D.fx ∧ Iw9 w lo lo s.A1 D.fs.length c1 D.fs := h.ex
theorem DkAt.putFx (h : DkAt w lo fq days s D) {n2 n1 c1 c2 : Nat} (hB : Blk w s.d 55 #[.pointer (some ⟨s.p, 0, none⟩), .slice s.A2 n2 c2, .slice s.A1 n1 c1]) {A' : Option Addr} {c' : Nat} {f : Fx} (hg : w.grownBy W (blkO s.A2)) (ho : FxOwn W lo lo A' (D.fx.length + 1) c' (D.fx ++ [f])) (ha : blkO A' = blkO s.A2 ∨ ∃ g, blkO A' = some g ∧ w.heap.size ≤ g) :
  DkMut { D with fx := D.fx ++ [f] } lo fq days s w (W.setCell ⟨s.d, 1, none⟩ (.slice A' (D.fx.length + 1) c')) := by
 obtain ⟨k1, k2, k3, h1, h2, h3, h4⟩ := h.ex
 have hx : ∀ g, blkO s.A2 = some g → (∃ cs, Blk w g 62 cs) ∧ lo ≤ g := fun g hg => by
  obtain ⟨L, _, _, h5, _⟩ := h3.ex
  exact own_typ h5 hg
 have e1 := (hB.cell 2).symm.trans (h1.cell 2)
 injection e1 with e1
 injection e1 with _ e2 e3
 subst e2
 subst e3
 let X : Nat → Prop := fun g => g = s.d ∨ blkO s.A2 = some g
 have hk0 : Kp w.heap.size X w W := Kp.grown hg (Nat.le_refl _) (fun k hk => Or.inr (Or.inr hk))
 have hk : Kp w.heap.size X w (W.setCell ⟨s.d, 1, none⟩ (.slice A' (D.fx.length + 1) c')) := hk0.set (p := ⟨s.d, 1, none⟩) (Or.inr (Or.inl rfl)) _
 have ty : TyD X w := by
  rintro g (rfl | hg) _
  ·
   exact ⟨_, _, h1, by decide⟩
  ·
   obtain ⟨⟨cs, hb⟩, _⟩ := hx g hg
   exact ⟨_, _, hb, by decide⟩
 have hne : ∀ {g : Nat} {T : TypeId} {cs : Array Value}, Blk w g T cs → T ≠ 55 → T ≠ 62 → ¬ X g := fun hb n1 n2 hX => by
  rcases hX with hX | hX
  ·
   exact Blk.differ hb h1 n1 hX
  ·
   obtain ⟨⟨cs, hb2⟩, _⟩ := hx _ hX
   exact Blk.differ hb hb2 n2 rfl
 have hd : ¬ blkO s.A2 = some s.d := fun he => by
  obtain ⟨⟨cs, hb2⟩, _⟩ := hx _ he
  exact Blk.differ h1 hb2 (by decide) rfl
 obtain ⟨K, hK, hKr⟩ := h.em.ex
 obtain ⟨Ay, cy, By, dy, hy⟩ := hKr.yr
 obtain ⟨vo, hvo, _⟩ := hKr.bk
 have hi3 : ∀ g, blkO s.A3 = some g → ¬ X g := fun g hg => by
  obtain ⟨K2, k5, _, k6⟩ := h.em.c13 h2
  obtain ⟨L, _, _, k7, _⟩ := k6.ins.ex
  rw [k5] at k7
  obtain ⟨⟨cs, hb⟩, _⟩ := own_typ k7 hg
  exact hne hb (by decide) (by decide)
 have hi1 : ∀ g, blkO s.A1 = some g → ¬ X g := fun g hg => by
  obtain ⟨L, _, _, k7, _⟩ := h4.ex
  obtain ⟨⟨cs, hb⟩, _⟩ := own_typ k7 hg
  exact hne hb (by decide) (by decide)
 have em := h.em.fy h2 ty hk (hne hK (by decide) (by decide)) (hne hy.blk (by decide) (by decide)) (hne hvo (by decide) (by decide)) hi3
 have hdW : Blk W s.d 55 #[.pointer (some ⟨s.p, 0, none⟩), .slice s.A2 D.fx.length k2, .slice s.A1 D.fs.length c1] := h1.grown hg (fun he => hd he.symm)
 refine ⟨{ s with A2 := A' }, ⟨rfl, rfl, rfl⟩, ⟨⟨c1, c', k3, ?_, ?_, ?_, h4.fy ty hk hi1⟩, em, h.ld, h.sep⟩, ?_, ?_, hk.mono ?_, fun g hg hs => hs.same (((hy.blk.kp hk hy.blk.lt (hne hy.blk (by decide) (by decide))).cell 1).trans (hy.blk.cell 1).symm)⟩
 ·
  rw [List.length_append]; exact hdW.setJ 1 _
 ·
  have := hK.kp hk hK.lt (hne hK (by decide) (by decide))
  exact ((this.cell 13).trans (hK.cell 13).symm).trans h2
 ·
  show FxOwn _ lo lo A' (D.fx ++ [f]).length c' (D.fx ++ [f])
  rw [List.length_append]
  obtain ⟨L, q1, q2, q3, q4⟩ := ho.ex
  exact ⟨L, q1, q2, oS9 q3 hdW (by decide) 1 _, fun q hq => ⟨(q4 q hq).1, oS9 (q4 q hq).2 hdW (by decide) 1 _⟩⟩
 ·
  rintro g ((rfl | rfl | rfl | rfl | hg | hg) | hg)
  ·
   exact Or.inl (Or.inl (Or.inl rfl))
  ·
   exact Or.inl (Or.inl (Or.inr (Or.inl rfl)))
  ·
   exact Or.inl (Or.inl (Or.inr (Or.inr (Or.inl rfl))))
  ·
   exact Or.inl (Or.inl (Or.inr (Or.inr (Or.inr (Or.inl rfl)))))
  ·
   exact Or.inl (Or.inl (Or.inr (Or.inr (Or.inr (Or.inr (Or.inl hg))))))
  ·
   rcases ha with ha | ⟨g', ha, hl⟩
   ·
    exact Or.inl (Or.inl (Or.inr (Or.inr (Or.inr (Or.inr (Or.inr (ha.symm.trans hg)))))))
   ·
    have hgg := ha.symm.trans hg
    injection hgg with hgg
    exact Or.inr (hgg ▸ hl)
  ·
   exact Or.inl (Or.inr hg)
 ·
  rintro g (rfl | rfl | rfl | rfl | hg | hg)
  ·
   exact Or.inl (Or.inl rfl)
  ·
   exact Or.inl (Or.inr (Or.inl rfl))
  ·
   exact Or.inl (Or.inr (Or.inr (Or.inl rfl)))
  ·
   exact Or.inl (Or.inr (Or.inr (Or.inr (Or.inl rfl))))
  ·
   exact Or.inl (Or.inr (Or.inr (Or.inr (Or.inr (Or.inl hg)))))
  ·
   rcases ha with ha | ⟨g', ha, hl⟩
   ·
    exact Or.inl (Or.inr (Or.inr (Or.inr (Or.inr (Or.inr (ha.symm.trans hg))))))
   ·
    have hgg := ha.symm.trans hg
    injection hgg with hgg
    exact Or.inr (hgg ▸ hl)
 ·
  rintro g (rfl | hg)
  ·
   exact Or.inl rfl
  ·
   exact Or.inr (Or.inr (Or.inr (Or.inr (Or.inr hg))))
theorem DkAt.putFs (h : DkAt w lo fq days s D) {n2 n1 c1 c2 : Nat} (hB : Blk w s.d 55 #[.pointer (some ⟨s.p, 0, none⟩), .slice s.A2 n2 c2, .slice s.A1 n1 c1]) {A' : Option Addr} {c' : Nat} {z : In} (hg : w.grownBy W (blkO s.A1)) (ho : Iw9 W lo lo A' (D.fs.length + 1) c' (D.fs ++ [z])) (ha : blkO A' = blkO s.A1 ∨ ∃ g, blkO A' = some g ∧ w.heap.size ≤ g) :
  DkMut { D with fs := D.fs ++ [z] } lo fq days s w (W.setCell ⟨s.d, 2, none⟩ (.slice A' (D.fs.length + 1) c')) := by
 obtain ⟨k1, k2, k3, h1, h2, h3, h4⟩ := h.ex
 have hx : ∀ g, blkO s.A1 = some g → (∃ cs, Blk w g 67 cs) ∧ lo ≤ g := fun g hg => by
  obtain ⟨L, _, _, h5, _⟩ := h4.ex
  exact own_typ h5 hg
 have e1 := (hB.cell 1).symm.trans (h1.cell 1)
 injection e1 with e1
 injection e1 with _ e2 e3
 subst e2
 subst e3
 let X : Nat → Prop := fun g => g = s.d ∨ blkO s.A1 = some g
 have hk0 : Kp w.heap.size X w W := Kp.grown hg (Nat.le_refl _) (fun k hk => Or.inr (Or.inr hk))
 have hk : Kp w.heap.size X w (W.setCell ⟨s.d, 2, none⟩ (.slice A' (D.fs.length + 1) c')) := hk0.set (p := ⟨s.d, 2, none⟩) (Or.inr (Or.inl rfl)) _
 have ty : TyD X w := by
  rintro g (rfl | hg) _
  ·
   exact ⟨_, _, h1, by decide⟩
  ·
   obtain ⟨⟨cs, hb⟩, _⟩ := hx g hg
   exact ⟨_, _, hb, by decide⟩
 have hne : ∀ {g : Nat} {T : TypeId} {cs : Array Value}, Blk w g T cs → T ≠ 55 → T ≠ 67 → ¬ X g := fun hb n1 n2 hX => by
  rcases hX with hX | hX
  ·
   exact Blk.differ hb h1 n1 hX
  ·
   obtain ⟨⟨cs, hb2⟩, _⟩ := hx _ hX
   exact Blk.differ hb hb2 n2 rfl
 have hd : ¬ blkO s.A1 = some s.d := fun he => by
  obtain ⟨⟨cs, hb2⟩, _⟩ := hx _ he
  exact Blk.differ h1 hb2 (by decide) rfl
 obtain ⟨K, hK, hKr⟩ := h.em.ex
 obtain ⟨Ay, cy, By, dy, hy⟩ := hKr.yr
 obtain ⟨vo, hvo, _⟩ := hKr.bk
 have hi3 : ∀ g, blkO s.A3 = some g → ¬ X g := fun g hg hX => by
  rcases hX with hX | hX
  ·
   obtain ⟨K2, k5, _, k6⟩ := h.em.c13 h2
   obtain ⟨L, _, _, k7, _⟩ := k6.ins.ex
   rw [k5] at k7
   obtain ⟨⟨cs, hb⟩, _⟩ := own_typ k7 hg
   exact Blk.differ hb h1 (by decide) hX
  ·
   exact h.sep g hX hg
 have hi2 : ∀ g, blkO s.A2 = some g → ¬ X g := fun g hg => by
  obtain ⟨L, _, _, k7, _⟩ := h3.ex
  obtain ⟨⟨cs, hb⟩, _⟩ := own_typ k7 hg
  exact hne hb (by decide) (by decide)
 have em := h.em.fy h2 ty hk (hne hK (by decide) (by decide)) (hne hy.blk (by decide) (by decide)) (hne hvo (by decide) (by decide)) hi3
 have hdW : Blk W s.d 55 #[.pointer (some ⟨s.p, 0, none⟩), .slice s.A2 D.fx.length c2, .slice s.A1 D.fs.length k1] := h1.grown hg (fun he => hd he.symm)
 refine ⟨{ s with A1 := A' }, ⟨rfl, rfl, rfl⟩, ⟨⟨c', c2, k3, ?_, ?_, h3.fy ty hk hi2, ?_⟩, em, h.ld, ?_⟩, ?_, ?_, hk.mono ?_, fun g hg hs => hs.same (((hy.blk.kp hk hy.blk.lt (hne hy.blk (by decide) (by decide))).cell 1).trans (hy.blk.cell 1).symm)⟩
 ·
  rw [List.length_append]; exact hdW.setJ 2 _
 ·
  have := hK.kp hk hK.lt (hne hK (by decide) (by decide))
  exact ((this.cell 13).trans (hK.cell 13).symm).trans h2
 ·
  show Iw9 _ lo lo A' (D.fs ++ [z]).length c' (D.fs ++ [z])
  rw [List.length_append]
  obtain ⟨L, q1, q2, q3, q4⟩ := ho.ex
  exact ⟨L, q1, q2, oS9 q3 hdW (by decide) 2 _, fun q hq => ⟨(q4 q hq).1, oS9 (q4 q hq).2 hdW (by decide) 2 _⟩⟩
 ·
  intro g hg hg3
  rcases ha with ha | ⟨g', ha, hl⟩
  ·
   exact h.sep g (ha.symm.trans hg) hg3
  ·
   have hgg := ha.symm.trans hg
   injection hgg with hgg
   have := (h.ge (g := g) (Or.inr hg3)).2
   omega
 ·
  rintro g ((rfl | rfl | rfl | rfl | hg | hg) | hg)
  ·
   exact Or.inl (Or.inl (Or.inl rfl))
  ·
   exact Or.inl (Or.inl (Or.inr (Or.inl rfl)))
  ·
   exact Or.inl (Or.inl (Or.inr (Or.inr (Or.inl rfl))))
  ·
   exact Or.inl (Or.inl (Or.inr (Or.inr (Or.inr (Or.inl rfl)))))
  ·
   rcases ha with ha | ⟨g', ha, hl⟩
   ·
    exact Or.inl (Or.inl (Or.inr (Or.inr (Or.inr (Or.inr (Or.inl (ha.symm.trans hg)))))))
   ·
    have hgg := ha.symm.trans hg
    injection hgg with hgg
    exact Or.inr (hgg ▸ hl)
  ·
   exact Or.inl (Or.inl (Or.inr (Or.inr (Or.inr (Or.inr (Or.inr hg))))))
  ·
   exact Or.inl (Or.inr hg)
 ·
  rintro g (rfl | rfl | rfl | rfl | hg | hg)
  ·
   exact Or.inl (Or.inl rfl)
  ·
   exact Or.inl (Or.inr (Or.inl rfl))
  ·
   exact Or.inl (Or.inr (Or.inr (Or.inl rfl)))
  ·
   exact Or.inl (Or.inr (Or.inr (Or.inr (Or.inl rfl))))
  ·
   rcases ha with ha | ⟨g', ha, hl⟩
   ·
    exact Or.inl (Or.inr (Or.inr (Or.inr (Or.inr (Or.inl (ha.symm.trans hg))))))
   ·
    have hgg := ha.symm.trans hg
    injection hgg with hgg
    exact Or.inr (hgg ▸ hl)
  ·
   exact Or.inl (Or.inr (Or.inr (Or.inr (Or.inr (Or.inr hg)))))
 ·
  rintro g (rfl | hg)
  ·
   exact Or.inl rfl
  ·
   exact Or.inr (Or.inr (Or.inr (Or.inr (Or.inl hg))))
theorem DkAt.actN (h : DkAt w lo fq days s D) {li o' : Nat} {E : Em} (he : Ea9 W lo li fq days s.p s.y o' E) (ho : o' = s.o ∨ w.heap.size ≤ o') (hk : Kp w.heap.size (fx3 s.p s.y s.o) w W) (hc : (W.cell? ⟨s.p, 13, none⟩ = w.cell? ⟨s.p, 13, none⟩ ∧ E.ins.length = D.e.ins.length) ∨ ∃ g n c, W.cell? ⟨s.p, 13, none⟩ = some (.slice (some ⟨g, 0, none⟩) n c) ∧ w.heap.size ≤ g) (hs : ∀ g, g < w.heap.size → SlAt w s.y g → SlAt W s.y g) : DkMut { D with e := E } lo fq days s w W := by
 obtain ⟨c1, c2, c3, h1, h2, h3, h4⟩ := h.ex
 have ht := h.em.ty
 have hd : ¬ fx3 s.p s.y s.o s.d := fun hx => by
  obtain ⟨K, h5, _⟩ := h.em.ex
  obtain ⟨K, hr⟩ := h.em.ex
  obtain ⟨A, c, B, d, hy⟩ := hr.2.yr
  obtain ⟨v, ho, _⟩ := hr.2.bk
  rcases hx with hx | hx | hx
  ·
   exact Blk.differ h1 h5 (by decide) hx
  ·
   exact Blk.differ h1 hy.blk (by decide) hx
  ·
   exact Blk.differ h1 ho (by decide) hx
 obtain ⟨K, hK, hKr⟩ := he.ex
 have h6 : (emC E K s.y o')[13]? = some (.slice K.Ai E.ins.length K.ci) := rfl
 have hc2 : ∃ A3 c3', W.cell? ⟨s.p, 13, none⟩ = some (.slice A3 E.ins.length c3') ∧ (A3 = s.A3 ∨ ∃ g, A3 = some ⟨g, 0, none⟩ ∧ w.heap.size ≤ g) := by
  rcases hc with ⟨hc, hn⟩ | ⟨g, n, c, hc, hg⟩
  ·
   exact ⟨s.A3, c3, by rw [hc, h2, hn], Or.inl rfl⟩
  ·
   have h13 := (hK.cell 13).symm.trans hc
   rw [h6] at h13
   injection h13 with h13
   injection h13 with a1 a2 a3
   subst a2
   exact ⟨some ⟨g, 0, none⟩, c, hc, Or.inr ⟨g, rfl, hg⟩⟩
 obtain ⟨A3, c3', hc3, ha3⟩ := hc2
 have hnew : ∀ k, blkO A3 = some k → blkO s.A3 = some k ∨ w.heap.size ≤ k := fun k hk => by
  rcases ha3 with rfl | ⟨g, rfl, hg⟩
  ·
   exact Or.inl hk
  ·
   have hgg : some g = some k := hk
   injection hgg with hgg
   exact Or.inr (hgg ▸ hg)
 refine ⟨{ s with o := o', A3 := A3 }, ⟨rfl, rfl, rfl⟩, ⟨⟨c1, c2, c3', h1.kp hk h1.lt hd, hc3, h3.fx ht hk, h4.fx ht hk⟩, he.low, h.ld, ?_⟩, ?_, ?_, hk.mono ?_, hs⟩
 ·
  intro g1 hg1 hg3
  rcases hnew g1 hg3 with h9 | h9
  ·
   exact h.sep g1 hg1 h9
  ·
   have := (h.ge (g := g1) (Or.inl (Or.inr (Or.inr (Or.inr (Or.inr (Or.inl hg1))))))).2
   omega
 ·
  rintro k ((rfl | rfl | rfl | rfl | hg' | hg') | hg')
  ·
   exact Or.inl (Or.inl (Or.inl rfl))
  ·
   exact Or.inl (Or.inl (Or.inr (Or.inl rfl)))
  ·
   exact Or.inl (Or.inl (Or.inr (Or.inr (Or.inl rfl))))
  ·
   rcases ho with ho | ho
   ·
    exact Or.inl (Or.inl (Or.inr (Or.inr (Or.inr (Or.inl ho)))))
   ·
    exact Or.inr ho
  ·
   exact Or.inl (Or.inl (Or.inr (Or.inr (Or.inr (Or.inr (Or.inl hg'))))))
  ·
   exact Or.inl (Or.inl (Or.inr (Or.inr (Or.inr (Or.inr (Or.inr hg'))))))
  ·
   exact (hnew k hg').imp Or.inr id
 ·
  rintro k (rfl | rfl | rfl | rfl | hg' | hg')
  ·
   exact Or.inl (Or.inl rfl)
  ·
   exact Or.inl (Or.inr (Or.inl rfl))
  ·
   exact Or.inl (Or.inr (Or.inr (Or.inl rfl)))
  ·
   rcases ho with ho | ho
   ·
    exact Or.inl (Or.inr (Or.inr (Or.inr (Or.inl ho))))
   ·
    exact Or.inr ho
  ·
   exact Or.inl (Or.inr (Or.inr (Or.inr (Or.inr (Or.inl hg')))))
  ·
   exact Or.inl (Or.inr (Or.inr (Or.inr (Or.inr (Or.inr hg')))))
 ·
  rintro g (rfl | rfl | rfl)
  ·
   exact Or.inr (Or.inl rfl)
  ·
   exact Or.inr (Or.inr (Or.inl rfl))
  ·
   exact Or.inr (Or.inr (Or.inr (Or.inl rfl)))
theorem DkMut.refl (h : DkAt w lo fq days s D) : DkMut D lo fq days s w w := ⟨s, ⟨rfl, rfl, rfl⟩, h, fun g hg => Or.inl hg, fun g hg => Or.inl hg, Kp.refl _ _ _, fun _ _ h => h⟩
theorem DkMut.then {w1 w5 w7 : World} {s1 : DkS} {D2 : Dk} (e1 : s1.d = s.d ∧ s1.p = s.p ∧ s1.y = s.y) (r1 : ∀ g, s1.rd g → s.rd g ∨ w.heap.size ≤ g) (m1 : ∀ g, s1.mt g → s.mt g ∨ w.heap.size ≤ g) (k1 : Kp w.heap.size s.mt w w1) (y1 : ∀ g, g < w.heap.size → SlAt w s.y g → SlAt w1 s.y g) (hyl : s.y < w1.heap.size) (hb : Below w1.heap.size w1 w5) (h : DkMut D2 lo fq days s1 w5 w7) : DkMut D2 lo fq days s w w7 := by
 obtain ⟨s2, e2, a2, r2, m2, k2, y2⟩ := h
 have hs : w.heap.size ≤ w5.heap.size := Nat.le_trans k1.size hb.size
 refine ⟨s2, ⟨e2.1.trans e1.1, e2.2.1.trans e1.2.1, e2.2.2.trans e1.2.2⟩, a2, fun g hg => ?_, fun g hg => ?_, kK (kT k1 hb) k2 (fun g hl hg => ?_), fun g hg hss => ?_⟩
 ·
  rcases r2 g hg with hg | hg
  ·
   exact r1 g hg
  ·
   exact Or.inr (Nat.le_trans hs hg)
 ·
  rcases m2 g hg with hg | hg
  ·
   exact m1 g hg
  ·
   exact Or.inr (Nat.le_trans hs hg)
 ·
  rcases m1 g hg with hg | hg
  ·
   exact hg
  ·
   omega
 ·
  have h3 := y1 g hg hss
  have hl := hyl
  rw [← e1.2.2] at h3 hl ⊢
  exact y2 g (Nat.lt_of_lt_of_le hg hs) (h3.same (hb.cell (p := ⟨s1.y, 1, none⟩) hl))
theorem DkAt.pt (h : DkAt w lo fq days s D) {g : Nat} {cs : Array Value} (hk : Blk w g 45 cs) (hs : SlAt w s.y g) (hg : w.grownBy W (some g)) : DkAt W lo fq days s D := by
 obtain ⟨c1, c2, c3, h1, h2, h3, h4⟩ := h.ex
 obtain ⟨K, hK, _⟩ := h.em.ex
 refine ⟨⟨c1, c2, c3, h1.grown hg (by simpa using Blk.differ h1 hk (by decide)), ?_, ?_, h4.grown hk (by decide) (by decide) hg⟩, h.em.pt hk hs hg, h.ld, h.sep⟩
 ·
  have h9 := hK.grown hg (by simpa using Blk.differ hK hk (by decide))
  exact ((h9.cell 13).trans (hK.cell 13).symm).trans h2
 ·
  obtain ⟨L, q1, q2, q3, q4⟩ := h3.ex
  exact ⟨L, q1, q2, q3.kept hg (Or.inr (own_blk q3 hk (by decide)).symm), fun q hq => ⟨(q4 q hq).1, (q4 q hq).2.kept hg (Or.inr (own_blk (q4 q hq).2 hk (by decide)).symm)⟩⟩
theorem DkMut.wrap {w0 W1 W2 W3 : World} {D2 : Dk} (hb0 : Below w.heap.size w w0) (hyl : s.y < w.heap.size) (h : DkMut D2 lo fq days s w0 W1) (hb : Below W1.heap.size W1 W2) {r0 : Nat} {cs : Array Value} (hr : Blk W2 r0 45 cs) (hr0 : w.heap.size ≤ r0) (hs : SlAt W1 s.y r0) (hg : W2.grownBy W3 (some r0)) : DkMut D2 lo fq days s w W3 := by
 obtain ⟨s1, e1, a1, r1, m1, k1, y1⟩ := h
 have hyl1 : s.y < W1.heap.size := Nat.lt_of_lt_of_le (Nat.lt_of_lt_of_le hyl hb0.size) k1.size
 have hs2 : SlAt W2 s1.y r0 := by rw [e1.2.2]; exact hs.same (hb.cell (p := ⟨s.y, 1, none⟩) hyl1)
 have a2 := a1.below hb
 have kp1 : Kp w.heap.size s.mt w W1 := kK (Kp.below hb0 (Nat.le_refl _)) k1 (fun g _ hg => hg)
 have kp2 := kT kp1 hb
 refine ⟨s1, e1, a2.pt hr hs2 hg, fun g hg => (r1 g hg).imp id (Nat.le_trans hb0.size), fun g hg => (m1 g hg).imp id (Nat.le_trans hb0.size), kp2.trans (Kp.grown hg kp2.size (fun k hk => by injection hk with hk; subst hk; exact Or.inl hr0)), fun g hg' hss => ?_⟩
 have h3 := y1 g (Nat.lt_of_lt_of_le hg' hb0.size) (hss.same (hb0.cell (p := ⟨s.y, 1, none⟩) hyl))
 obtain ⟨K, _, hKr⟩ := a2.em.ex
 obtain ⟨Ay, cy, By, dy, hy⟩ := hKr.yr
 rw [e1.2.2] at hy
 have h4 := hy.blk.grown hg (by simpa using Blk.differ hy.blk hr (by decide))
 exact (h3.same (hb.cell (p := ⟨s.y, 1, none⟩) hyl1)).same ((h4.cell 1).trans (hy.blk.cell 1).symm)
theorem SlipV.keptT {w W : World} {base : Nat} {E : Int} {z Z : Sp} {A : Option Addr} {n c : Nat} {B : Option Addr} {m d : Nat} (h : SlipV w base E z Z A n c B m d) {b2 s2 n2 c2 : Nat} {t : TypeId} {A2 : Option Addr} {ys : List Value} (ho : w.ownsRow b2 t s2 (.slice A2 n2 c2) n2 ys) (h1 : 79 ≠ t) (h2 : 116 ≠ t) (hg : w.grownBy W (blkO A2)) : SlipV W base E z Z A n c B m d :=
 ⟨fun h0 => ⟨(h.ok h0).1, (h.ok h0).2.1, (h.ok h0).2.2.1, oK9 (h.ok h0).2.2.2.1 ho h1 hg, oK9 (h.ok h0).2.2.2.2 ho h2 hg⟩, h.no⟩
end
theorem pickD (re : Int) (X Y : Em) : ∃ Z, (re = 0 → Z = X) ∧ (re ≠ 0 → Z = Y) := by
 by_cases h : re = 0
 ·
  exact ⟨X, fun _ => rfl, fun h2 => absurd h h2⟩
 ·
  exact ⟨Y, fun h2 => absurd h2 h, fun _ => rfl⟩
structure PD (w0 : World) (fq days : Int) (W : World) (s : DkS) (D : Dk) : Prop where
 bl : Below w0.heap.size w0 W
 ex : ∃ lo, w0.heap.size ≤ lo ∧ DkAt W lo fq days s D
 ok : DkOK fq days D
def DMut (w0 : World) (D' : Dk) (fq days : Int) (s : DkS) (W W' : World) : Prop :=
 ∃ s', (s'.d = s.d ∧ s'.p = s.p ∧ s'.y = s.y) ∧ PD w0 fq days W' s' D' ∧ (∀ g, s'.rd g → s.rd g ∨ W.heap.size ≤ g) ∧ (∀ g, s'.mt g → s.mt g ∨ W.heap.size ≤ g) ∧ Kp W.heap.size s.mt W W' ∧ ∀ g, g < W.heap.size → SlAt W s.y g → SlAt W' s.y g
section
variable {w0 w1 W W' : World} {fq days : Int} {s s2 : DkS} {D D' : Dk}
theorem PD.below (h : PD w0 fq days W s D) (hb : Below W.heap.size W W') : PD w0 fq days W' s D := by
 obtain ⟨lo, h0, hD⟩ := h.ex
 exact ⟨bT h.bl hb, ⟨lo, h0, hD.below hb⟩, h.ok⟩
theorem PD.ge (h : PD w0 fq days W s D) {g : Nat} (hg : s.rd g) : w0.heap.size ≤ g ∧ g < W.heap.size := by
 obtain ⟨lo, h0, hD⟩ := h.ex
 exact ⟨Nat.le_trans h0 (hD.ge hg).1, (hD.ge hg).2⟩
theorem PD.tyd (h : PD w0 fq days W s D) : TyD s.mt W := by
 obtain ⟨lo, h0, hD⟩ := h.ex
 exact hD.tyd
theorem PD.kp (h : PD w0 fq days W s D) (hk : Kp W.heap.size s.mt W W') : Below w0.heap.size w0 W' := below_kp h.bl hk fun g hg => (h.ge (Or.inl hg)).1
theorem PD.mut (h : PD w0 fq days W s D) {lo : Nat} (h0 : w0.heap.size ≤ lo) (hm : DkMut D' lo fq days s W W') (hok : DkOK fq days D') : DMut w0 D' fq days s W W' := by
 obtain ⟨s', e, a, r, m, k, y⟩ := hm
 exact ⟨s', e, ⟨h.kp k, ⟨lo, h0, a⟩, hok⟩, r, m, k, y⟩
theorem PD.blk (h : PD w0 fq days W s D) (hk : Kp W.heap.size s.mt W W') {g : Nat} {T : TypeId} {cs : Array Value} (hb : Blk W g T cs) (hT : mtD T = false) : Blk W' g T cs := hb.fy h.tyd hk hT
theorem PD.own (h : PD w0 fq days W s D) (hk : Kp W.heap.size s.mt W W') {base size n : Nat} {e : TypeId} {v : Value} {xs : List Value} (ho : W.ownsRow base e size v n xs) (he : mtD e = false) : W'.ownsRow base e size v n xs := own_fy ho h.tyd hk he
theorem PD.other (h : PD w1 fq days W s2 D') (hp : PD w0 fq days W s D) (hk : Kp W.heap.size s.mt W W') (hb : Below w1.heap.size w1 W') (hx : ∀ g, s2.rd g → ¬ s.mt g) : PD w1 fq days W' s2 D' := by
 obtain ⟨lo, h0, hD⟩ := h.ex
 exact ⟨hb, ⟨lo, h0, hD.fy hp.tyd hk hx⟩, h.ok⟩
theorem PD.desk (h : PD w0 fq days W s D) : ∃ c1 c2, Blk W s.d 55 #[.pointer (some ⟨s.p, 0, none⟩), .slice s.A2 D.fx.length c2, .slice s.A1 D.fs.length c1] := by
 obtain ⟨lo, h0, hD⟩ := h.ex
 obtain ⟨c1, c2, c3, h1, _⟩ := hD.ex
 exact ⟨c1, c2, h1⟩
theorem PD.pe (h : PD w0 fq days W s D) : PE w0 fq days W s.p s.y s.o D.e := by
 obtain ⟨lo, h0, hD⟩ := h.ex
 exact ⟨h.bl, ⟨lo, lo, h0, hD.em⟩, h.ok.e⟩
theorem pd_pay (h : PD w0 fq days W s D) {A : Option Addr} {m c : Nat} {l : List El} (hl : ElSl W A m l) (hm : m ≤ 1000) (re : Int) (E' : Em) (he : Hid (re = payE D.e (cntI fq days) l)) (h1 : Hid (re = 0 → E' = payV D.e l)) (h2 : Hid (re ≠ 0 → E' = D.e)) :
  Calls Tryz.prog 34 #[.pointer (some ⟨s.p, 0, none⟩), .slice A m c] W fun e W' => e = .returned (.int .i64 re) ∧ DMut w0 { D with e := E' } fq days s W W' := by
 obtain ⟨lo, h0, hD⟩ := h.ex
 refine (rpay_c fq days lo lo s.p s.y s.o D.e A m c l W hD.em h.ok.e hl hm re E' he h1 h2).mono ?_
 rintro e W' ⟨e1, ⟨li', hE'⟩, hk, hc⟩
 have hn : E'.ins.length = D.e.ins.length := by
  by_cases hr : re = 0
  ·
   rw [h1.out hr]; rfl
  ·
   rw [h2.out hr]
 refine ⟨e1, h.mut h0 (hD.act hE' (fx23 hk) hc hn (hD.em.slk2 hk)) (h.ok.act ?_ hn)⟩
 by_cases hr : re = 0
 ·
  rw [h1.out hr]; exact h.ok.e.pay (he.out.symm.trans hr)
 ·
  rw [h2.out hr]; exact h.ok.e
theorem pd_code (h : PD w0 fq days W s D) (c : Cd) (re : Int) (E' : Em) (he : Hid (re = codeE D.e (cntI fq days) c)) (h1 : Hid (re = 0 → E' = codeV D.e c)) (h2 : Hid (re ≠ 0 → E' = D.e)) :
  Calls Tryz.prog 39 #[.pointer (some ⟨s.p, 0, none⟩), .agg #[.int .i64 c.s, .int .i64 c.k, .int .i64 c.a, .int .i64 c.f, .bool c.al]] W fun e W' => e = .returned (.int .i64 re) ∧ DMut w0 { D with e := E' } fq days s W W' := by
 obtain ⟨lo, h0, hD⟩ := h.ex
 refine (rcodeset_c fq days lo lo s.p s.y s.o D.e c.s c.k c.a c.f c.al W hD.em h.ok.e re E' he h1 h2).mono ?_
 rintro e W' ⟨e1, ⟨li', hE'⟩, hk, hc⟩
 have hn : E'.ins.length = D.e.ins.length := by
  by_cases hr : re = 0
  ·
   rw [h1.out hr]; rfl
  ·
   rw [h2.out hr]
 refine ⟨e1, h.mut h0 (hD.act hE' (fx23 hk) hc hn (hD.em.slk2 hk)) (h.ok.act ?_ hn)⟩
 by_cases hr : re = 0
 ·
  rw [h1.out hr]; exact h.ok.e.code c
 ·
  rw [h2.out hr]; exact h.ok.e
theorem pd_prot (h : PD w0 fq days W s D) (x : Int) (re : Int) (E' : Em) (he : Hid (re = protE x)) (h1 : Hid (re = 0 → E' = protV D.e x)) (h2 : Hid (re ≠ 0 → E' = D.e)) :
  Calls Tryz.prog 42 #[.pointer (some ⟨s.p, 0, none⟩), .int .i64 x] W fun e W' => e = .returned (.int .i64 re) ∧ DMut w0 { D with e := E' } fq days s W W' := by
 obtain ⟨lo, h0, hD⟩ := h.ex
 refine (rprotect_c fq days lo lo s.p s.y s.o D.e x W hD.em re E' he h1 h2).mono ?_
 rintro e W' ⟨e1, ⟨li', hE'⟩, hk, hc⟩
 have hn : E'.ins.length = D.e.ins.length := by
  by_cases hr : re = 0
  ·
   rw [h1.out hr]; rfl
  ·
   rw [h2.out hr]
 refine ⟨e1, h.mut h0 (hD.act hE' (fx23 hk) hc hn (hD.em.slk2 hk)) (h.ok.act ?_ hn)⟩
 by_cases hr : re = 0
 ·
  rw [h1.out hr]; exact h.ok.e.prot x
 ·
  rw [h2.out hr]; exact h.ok.e
theorem ordEV_ins (E : Em) (z : Od) : (ordEV E z).ins = E.ins := by unfold ordEV; rfl
theorem canEV_ins (E : Em) (id : Int) : (canEV E id).ins = E.ins := by unfold canEV; split <;> rfl
theorem pd_order (h : PD w0 fq days W s D) (id pr am ra tt : Int) :
  Calls Tryz.prog 40 #[.pointer (some ⟨s.p, 0, none⟩), .agg #[.int .i64 id, .int .i64 pr, .int .i64 am, .int .i64 ra, .int .i64 tt]] W fun e W' => e = .returned (.int .i64 (addE D.e.bk ⟨id, pr, am, ra, tt, 0, 0⟩)) ∧ DMut w0 { D with e := ordEV D.e ⟨id, pr, am, ra, tt, 0, 0⟩ } fq days s W W' := by
 obtain ⟨lo, h0, hD⟩ := h.ex
 refine (rorder_c fq days lo lo s.p s.y s.o D.e id pr am ra tt W hD.em h.ok.e.bk.len h.ok.e.so).mono ?_
 rintro e W' ⟨e1, ⟨li', hE'⟩, hk, hc⟩
 have hn : (ordEV D.e ⟨id, pr, am, ra, tt, 0, 0⟩).ins.length = D.e.ins.length := by rw [ordEV_ins]
 exact ⟨e1, h.mut h0 (hD.act hE' (fx23 hk) hc hn (hD.em.slk2 hk)) (h.ok.act (h.ok.e.ord ⟨rfl, rfl⟩) hn)⟩
theorem pd_cancel (h : PD w0 fq days W s D) (id : Int) :
  Calls Tryz.prog 41 #[.pointer (some ⟨s.p, 0, none⟩), .int .i64 id] W fun e W' => e = .returned (.int .i64 (canE D.e.bk id)) ∧ DMut w0 { D with e := canEV D.e id } fq days s W W' := by
 obtain ⟨lo, h0, hD⟩ := h.ex
 refine (rcancel_c fq days lo lo s.p s.y s.o D.e id W hD.em h.ok.e.bk.len).mono ?_
 rintro e W' ⟨e1, ⟨li', hE'⟩, hk, hc⟩
 have hn : (canEV D.e id).ins.length = D.e.ins.length := by rw [canEV_ins]
 exact ⟨e1, h.mut h0 (hD.act hE' (fx23 hk) hc hn (hD.em.slk2 hk)) (h.ok.act (h.ok.e.can id) hn)⟩
end
end Go.Proofs.YtiaabmhjkoohmaaGreat
