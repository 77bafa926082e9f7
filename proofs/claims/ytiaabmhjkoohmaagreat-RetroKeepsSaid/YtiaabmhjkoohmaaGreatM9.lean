/-
  Contracts of functions that the claim reaches, and the plain laws behind them. Conditions as named in each.
-/
import Derived.Test.YtiaabmhjkoohmaaGreatRun
import Derived.Test.YtiaabmhjkoohmaaGreatRClo
import Derived.Test.YtiaabmhjkoohmaaGreatDBet
namespace Go.Proofs.YtiaabmhjkoohmaaGreat
set_option linter.unusedVariables false
set_option linter.unusedSimpArgs false
open Go.RowKit
structure PE (w0 : World) (fq days : Int) (W : World) (p y o : Nat) (E : Em) : Prop where
 bl : Below w0.heap.size w0 W
 em : ∃ lo li, w0.heap.size ≤ lo ∧ Ea9 W lo li fq days p y o E
 ok : EmOK fq days E
theorem below_kp {w0 W W' : World} {X : Nat → Prop} (h : Below w0.heap.size w0 W) (hk : Kp W.heap.size X W W') (hx : ∀ g, X g → w0.heap.size ≤ g) : Below w0.heap.size w0 W' :=
 ⟨hk.os.trans h.os, hk.tape.trans h.tape, hk.output.trans h.output, Nat.le_trans h.size hk.size, fun i hi => (hk.block i (Nat.lt_of_lt_of_le hi h.size) (fun hX => by have := hx i hX; omega)).trans (h.block i hi)⟩
section
variable {w0 W W' : World} {fq days : Int} {p y o q y2 o2 : Nat} {E E' : Em}
theorem PE.ty (h : PE w0 fq days W p y o E) : Ty (fx3 p y o) W := by
 obtain ⟨lo, li, _, he⟩ := h.em
 exact he.ty
theorem PE.lt (h : PE w0 fq days W p y o E) : p < W.heap.size ∧ y < W.heap.size ∧ o < W.heap.size := by
 obtain ⟨lo, li, _, he⟩ := h.em
 exact he.lt
theorem PE.ge (h : PE w0 fq days W p y o E) : w0.heap.size ≤ p ∧ w0.heap.size ≤ y ∧ w0.heap.size ≤ o := by
 obtain ⟨lo, li, h0, he⟩ := h.em
 exact ⟨Nat.le_trans h0 he.lp, Nat.le_trans h0 he.ly, Nat.le_trans h0 he.lo'⟩
theorem PE.below (h : PE w0 fq days W p y o E) (hb : Below W.heap.size W W') : PE w0 fq days W' p y o E := by
 obtain ⟨lo, li, h0, he⟩ := h.em
 exact ⟨bT h.bl hb, ⟨lo, li, h0, he.below hb⟩, h.ok⟩
theorem PE.act (h : PE w0 fq days W p y o E) (hk : Kp W.heap.size (fx3 p y o) W W') {lo li o' : Nat} (h0 : w0.heap.size ≤ lo) (he : Ea9 W' lo li fq days p y o' E') (hok : EmOK fq days E') : PE w0 fq days W' p y o' E' :=
 ⟨below_kp h.bl hk (by obtain ⟨a, b, c⟩ := h.ge; rintro g (rfl | rfl | rfl) <;> assumption), ⟨lo, li, h0, he⟩, hok⟩
theorem PE.blk (h : PE w0 fq days W p y o E) (hk : Kp W.heap.size (fx3 p y o) W W') {g : Nat} {T : TypeId} {cs : Array Value} (hb : Blk W g T cs) (hT : mtB T = false) : Blk W' g T cs := hb.fx h.ty hk hT
theorem PE.other {w1 : World} (h : PE w1 fq days W q y2 o2 E') (hp : PE w0 fq days W p y o E) (hk : Kp W.heap.size (fx3 p y o) W W') (hb : Below w1.heap.size w1 W') (h1 : ¬ fx3 p y o q) (h2 : ¬ fx3 p y o y2) (h3 : ¬ fx3 p y o o2) : PE w1 fq days W' q y2 o2 E' := by
 obtain ⟨lo, li, h0, he⟩ := h.em
 exact ⟨hb, ⟨lo, li, h0, he.fx hp.ty hk h1 h2 h3⟩, h.ok⟩
end
section
variable {w0 W : World} {fq days : Int} {p y o : Nat} {E : Em}
theorem fx23 {p y o : Nat} {N : Nat} {W W' : World} (h : Kp N (fx2 p o) W W') : Kp N (fx3 p y o) W W' := h.mono fun g hg => hg.elim Or.inl (fun h => Or.inr (Or.inr h))
theorem PE.slk (h : PE w0 fq days W p y o E) {W' : World} (hk : Kp W.heap.size (fx2 p o) W W') : ∀ g, g < W.heap.size → SlAt W y g → SlAt W' y g := by
 obtain ⟨lo, li, _, he⟩ := h.em
 obtain ⟨n1, n2, n3⟩ := he.diff
 obtain ⟨K, h1, h2⟩ := he.ex
 obtain ⟨A, c, B, d, h5⟩ := h2.yr
 intro g hg hs
 have hb := h5.blk.kp hk h5.blk.lt (fun hx => hx.elim (fun e => n1 e.symm) (fun e => n3 e))
 exact hs.same ((hb.cell 1).trans (h5.blk.cell 1).symm)
theorem PE.slAt (h : PE w0 fq days W p y o E) {g : Nat} (hg : W.heap.size ≤ g) : SlAt W y g := by
 obtain ⟨lo, li, _, he⟩ := h.em
 exact he.slAt hg
theorem PE.pt (h : PE w0 fq days W p y o E) {W' : World} {g : Nat} {cs : Array Value} (hk : Blk W g 45 cs) (h0 : w0.heap.size ≤ g) (hs : SlAt W y g) (hg : W.grownBy W' (some g)) : PE w0 fq days W' p y o E := by
 obtain ⟨lo, li, h1, he⟩ := h.em
 exact ⟨h.bl.grown hg h.bl.size (fun k hk => by injection hk with hk; omega), ⟨lo, li, h1, he.pt hk hs hg⟩, h.ok⟩
theorem pe_repl (h : PE w0 fq days W p y o E) (k : Int) {A : Option Addr} {m c : Nat} {l : List El} (hl : ElSl W A m l) (hm : m ≤ 1000) (re : Int) (E' : Em) (he : Hid (re = replE E (nIz fq) (cntI fq days) k l)) (h1 : Hid (re = 0 → E' = replV E k l)) (h2 : Hid (re ≠ 0 → E' = E)) :
  Calls Tryz.prog 57 #[.pointer (some ⟨p, 0, none⟩), .int .i64 k, .slice A m c] W fun e W' => e = .returned (.int .i64 re) ∧ PE w0 fq days W' p y o E' ∧ Kp W.heap.size (fx3 p y o) W W' ∧ (∀ g, g < W.heap.size → SlAt W y g → SlAt W' y g) := by
 obtain ⟨lo, li, h0, hE⟩ := h.em
 refine (rrepl_c fq days lo li p y o E k A m c l W hE h.ok hl hm re E' he h1 h2).mono ?_
 rintro e W' ⟨e1, ⟨li', hE'⟩, hk, _⟩
 refine ⟨e1, h.act (fx23 hk) h0 hE' ?_, fx23 hk, h.slk hk⟩
 by_cases hr : re = 0
 ·
  rw [h1.out hr]; exact h.ok.repl (he.out.symm.trans hr)
 ·
  rw [h2.out hr]; exact h.ok
def SlipE (re : Int) (z : Sp) (W : World) (e : Ending) (W' : World) : Prop := ∃ (Z : Sp) (A : Option Addr) (n c : Nat) (B : Option Addr) (m d : Nat), e = .returned (.tuple #[.agg (spC Z A n c B m d), .int .i64 re]) ∧ Slz W' W.heap.size re z Z A n c B m d
theorem pe_try (h : PE w0 fq days W p y o E) (gr : Int) (re : Int) (z : Sp) (he : Hid (re = tEz E (nIz fq) (cntI fq days) gr)) (hz : Hid (z = tryV E (nIz fq) gr)) :
  Calls Tryz.prog 20 #[.pointer (some ⟨p, 0, none⟩), .int .i64 gr] W fun e W' => SlipE re z W e W' ∧ Below W.heap.size W W' := by
 obtain ⟨lo, li, h0, hE⟩ := h.em
 refine (rtry_c fq days lo li p y o E gr W hE h.ok re z he hz).mono ?_
 rintro e W' ⟨e1, hb⟩
 exact ⟨e1, hb⟩
theorem keep_sizes {t : Tb} (h : keepE t = 0) : (∀ k, k < t.sch.length → (t.sch.getD k []).length ≤ 100000) ∧ ∀ k, k < t.cts.length → (t.cts.getD k ct0).bands.length ≤ 100000 := by
 have h0 : tbE t = 0 := by
  unfold keepE at h
  by_cases h0 : tbE t = 0
  ·
   exact h0
  ·
   rw [if_pos h0] at h; exact absurd h h0
 obtain ⟨hok, _⟩ := tb_of h0
 have key : ∀ l : List Bd, bE9 l = 0 → l.length ≤ 100000 := fun l hl => by
  unfold bE9 at hl
  split at hl
  ·
   cases hl
  ·
   omega
 exact ⟨fun k hk => key _ (hok.sch k hk).bands, fun k hk => key _ (hok.cts k hk).bands⟩
theorem pe_clone (h : PE w0 fq days W p y o E) :
  Calls Tryz.prog 56 #[.pointer (some ⟨p, 0, none⟩)] W fun e W' => (∃ q y2 o2, e = .returned (.pointer (some ⟨q, 0, none⟩)) ∧ PE W fq days W' q y2 o2 E) ∧ Below W.heap.size W W' := by
 obtain ⟨lo, li, h0, hE⟩ := h.em
 obtain ⟨s1, s2⟩ := keep_sizes h.ok.tb
 refine (rclone_c fq days lo li p y o E W hE h.ok s1 s2).mono ?_
 rintro e W' ⟨⟨q, y2, o2, e1, hE'⟩, hb⟩
 exact ⟨⟨q, y2, o2, e1, ⟨hb, ⟨_, _, Nat.le_refl _, hE'⟩, h.ok⟩⟩, hb⟩
end
section
variable {w0 W : World} {fq days : Int} {p y o : Nat} {E : Em}
theorem pe_period (h : PE w0 fq days W p y o E) : Calls Tryz.prog 38 #[.pointer (some ⟨p, 0, none⟩)] W (ValB (.int .i64 (periodI E (cntI fq days))) W) := by
 obtain ⟨lo, li, h0, hE⟩ := h.em
 exact rperiod_c fq days lo li p y o E W hE h.ok
theorem pe_next (h : PE w0 fq days W p y o E) : Calls Tryz.prog 14 #[.pointer (some ⟨p, 0, none⟩)] W (CloneV 98 3 E.next.length (E.next.flatMap elC) W) := by
 obtain ⟨lo, li, h0, hE⟩ := h.em
 exact rnext_c fq days lo li p y o E W hE h.ok.nx
theorem pe_inputs (h : PE w0 fq days W p y o E) : Calls Tryz.prog 18 #[.pointer (some ⟨p, 0, none⟩)] W (InsR E.ins W) := by
 obtain ⟨lo, li, h0, hE⟩ := h.em
 exact rinputs_c fq days lo li p y o E W hE (by have := h.ok.ins53; omega) h.ok.il
end
def PNew (w0 : World) (re : Int) (E : Em) (fq days : Int) (w : World) (e : Ending) (w' : World) : Prop :=
 (re = 0 → ∃ p y o, e = .returned (.tuple #[.pointer (some ⟨p, 0, none⟩), .int .i64 0]) ∧ PE w0 fq days w' p y o E ∧ w.heap.size ≤ p ∧ w.heap.size ≤ y ∧ w.heap.size ≤ o) ∧ (re ≠ 0 → e = .returned (.tuple #[.pointer none, .int .i64 re])) ∧ Below w.heap.size w w'
theorem pe_new {w0 w : World} (h0 : Below w0.heap.size w0 w) (t : Tb) (As Ac Ak : Option Addr) (ns cs nc cc nk ck : Nat) (lim rnd : Int) (fq days : Int) (hf : nIz fq ≠ 0) (hd : 0 ≤ days ∧ days ≤ 366) (gy : Nat) (c : Cd) (hs : ScSl w As ns t.sch) (hc : CtSl w Ac nc t.cts) (hcc : nc ≤ cc) (hkd : KdSl w Ak nk t.kds) (hck : nk ≤ ck) (hl : lim = t.lim) (hr : rnd = t.rnd) (hsz : ns ≤ 20 ∧ nc ≤ 20 ∧ nk ≤ 30)
  (hy : YrAt w gy fq days) (re : Int) (he : Hid (re = newE t c)) :
  Calls Tryz.prog 30 #[.agg #[.slice As ns cs, .slice Ac nc cc, .slice Ak nk ck, .int .i64 lim, .int .i64 rnd], .pointer (some ⟨gy, 0, none⟩), .agg #[.int .i64 c.s, .int .i64 c.k, .int .i64 c.a, .int .i64 c.f, .bool c.al]] w (PNew w0 re (newV t c) fq days w) := by
 refine (rnew_c t As Ac Ak ns cs nc cc nk ck lim rnd fq days gy c.s c.k c.a c.f c.al w hs hc hcc hkd hck hl hr hy (fun hk => by
  obtain ⟨a, b⟩ := keep_sizes hk
  exact ⟨fun k hk => a k (by have := hs.1; omega), fun k hk => b k (by have := hc.1; omega)⟩) re he).mono ?_
 rintro e w' ⟨⟨h1, p, y, o, h2, h3⟩ | ⟨h1, h2⟩, hb⟩
 ·
  refine ⟨fun _ => ⟨p, y, o, h2, ⟨bT h0 hb, ⟨_, _, h0.size, h3⟩, ?_⟩, h3.lp, h3.ly, h3.lo'⟩, fun h => absurd h1 h, hb⟩
  have hk : keepE t = 0 := (sZ9 (he.out.symm.trans h1)).1
  exact EmOK.new hf hd hk (by rw [← hs.1]; exact hsz.1) (by rw [← hc.1]; exact hsz.2.1) (by rw [← hkd.1]; exact hsz.2.2)
 ·
  exact ⟨fun h => absurd h h1, fun _ => h2, hb⟩
theorem els_one1 (w : World) (z : El) : ElSl (w.alloc (.cells #[.string z.k, .int .i64 z.a, .int .i64 z.u] 98)) (some ⟨w.heap.size, 0, none⟩) 1 [z] := by
 have hb := Blk.mk w 98 #[.string z.k, .int .i64 z.a, .int .i64 z.u]
 refine ⟨rfl, by decide, fun _ => ⟨w.heap.size, 0, rfl, hb.lt, fun k hk j u hu => ?_⟩⟩
 have hk0 : k = 0 := by simpa using hk
 subst hk0
 rw [show (0 + 0 * 3 + j) = j by omega]
 have hj : j < 3 := by
  have := (List.getElem?_eq_some_iff.1 hu).1
  simpa [elC] using this
 rw [hb.cell j]
 have : j = 0 ∨ j = 1 ∨ j = 2 := by omega
 rcases this with rfl | rfl | rfl <;> exact hu
end Go.Proofs.YtiaabmhjkoohmaaGreat
namespace Go.Proofs.YtiaabmhjkoohmaaGreat
set_option maxRecDepth 100000
set_option maxHeartbeats 25600000
set_option linter.unusedVariables false
set_option linter.unusedSimpArgs false
open Go.RowKit Tryz
open Lib (hid)
def bd3C (f r e : Int) : Array Value := #[.int .i64 f, .int .i64 r, .int .i64 e]
theorem bd_row1 {w : World} {g : Nat} {f r e : Int} (h : Blk w g 145 (bd3C f r e)) : Blz w (some ⟨g, 0, none⟩) 1 [⟨f, r, e⟩] := by
 refine ⟨rfl, by decide, fun _ => ⟨g, 0, rfl, h.lt, fun k hk => ?_⟩⟩
 have hk0 : k = 0 := by simpa using hk
 subst hk0
 exact ⟨h.cell 0, h.cell 1, h.cell 2⟩
theorem sc_row1 {w : World} {g g2 : Nat} {l : List Bd} (h : Blk w g 146 #[.slice (some ⟨g2, 0, none⟩) 1 1]) (hb : Blz w (some ⟨g2, 0, none⟩) 1 l) : ScSl w (some ⟨g, 0, none⟩) 1 [l] := by
 refine ⟨rfl, by decide, fun _ => ⟨g, 0, rfl, h.lt, fun k hk => ?_⟩⟩
 have hk0 : k = 0 := by simpa using hk
 subst hk0
 exact ⟨_, _, _, h.cell 0, hb⟩
theorem kd_row1 {w : World} {g : Nat} {x : Kd} (h : Blk w g 148 #[.string x.nm, .int .i64 x.c, .int .i64 x.t, .int .i64 x.s]) (hs : x.nm.size ≤ 9223372036854775807) : KdSl w (some ⟨g, 0, none⟩) 1 [x] := by
 refine ⟨rfl, by decide, fun _ => ⟨g, 0, rfl, h.lt, fun k hk => ?_⟩⟩
 have hk0 : k = 0 := by simpa using hk
 subst hk0
 exact ⟨h.cell 0, hs, h.cell 1, h.cell 2, h.cell 3⟩
def PlainR (t : Tb) (nc : Nat) (w : World) (e : Ending) (w' : World) : Prop := (∃ As Ac Ak, e = .returned (.agg #[.slice As 1 1, .slice Ac nc nc, .slice Ak 1 1, .int .i64 t.lim, .int .i64 t.rnd]) ∧ ScSl w' As 1 t.sch ∧ CtSl w' Ac nc t.cts ∧ KdSl w' Ak 1 t.kds) ∧ Below w.heap.size w w'
theorem months23_c (w : World) : Calls prog 32 #[] w fun e w' => (∃ g, e = .returned (.pointer (some ⟨g, 0, none⟩)) ∧ YrAt w' g 4 365) ∧ Below w.heap.size w w' := by
 have K := hid (new2024_yes 4 (by decide) w)
 unfold NewYr at K
 go_enter func32, ntmps32
 go_wp2_with fail
 refine K.out.mono ?_
 rintro e w1 ⟨⟨g, rfl, hy, _, _⟩, hb⟩
 go_wp2_with fail
 go_ret
 exact ⟨⟨g, rfl, hy⟩, hb⟩
theorem plain23_c (w : World) : Calls prog 31 #[] w (PlainR plT23 0 w) := by
 have HF0 := hid (Fr.start w)
 go_enter func31, ntmps31
 go_wp2_with fail
 have HF1 := al9 (((((HF0.out.al 26 #[.slice (some ⟨w.heap.size + 1 + 1, 0, none⟩) 1 1, .slice none 0 0, .slice (some ⟨w.heap.size + 1 + 1 + 1, 0, none⟩) 1 1, .int .i64 5000, .int .i64 1]).al 145 #[.int .i64 0, .int .i64 2000, .int .i64 0]).al 146 #[.slice (some ⟨w.heap.size + 1, 0, none⟩) 1 1]).al 148 #[.string salB, .int .i64 1, .int .i64 1, .int .i64 1]))
 clear HF0
 obtain ⟨c0_0, c0_1, c0_2, c0_3, c0_4⟩ := (HF1.out.b 0 rfl).q5
 refine bodyPost_ret (v := .agg #[.slice (some ⟨w.heap.size + 1 + 1, 0, none⟩) 1 1, .slice none 0 0, .slice (some ⟨w.heap.size + 1 + 1 + 1, 0, none⟩) 1 1, .int .i64 5000, .int .i64 1]) (by simp [results, results31, go_sem, c0_0, c0_1, c0_2, c0_3, c0_4]) rfl ⟨⟨_, _, _, rfl, ?_, ?_, ?_⟩, HF1.out.bl⟩
 ·
  exact sc_row1 (HF1.out.b 2 rfl) (bd_row1 (f := 0) (r := 2000) (e := 0) (HF1.out.b 1 rfl))
 ·
  exact ⟨rfl, by decide, fun h => absurd h (by decide)⟩
 ·
  exact kd_row1 (x := ⟨salB, 1, 1, 1⟩) (HF1.out.b 3 rfl) (by decide)
def mtD (T : TypeId) : Bool := T == 109 || T == 111 || T == 143 || T == 55 || T == 67 || T == 62
def TyD (X : Nat → Prop) (w : World) : Prop := ∀ g, X g → g < w.heap.size → ∃ T cs, Blk w g T cs ∧ mtD T = true
section
variable {X : Nat → Prop} {w w' : World} {base : Nat}
theorem own_fy {size n : Nat} {e : TypeId} {v : Value} {xs : List Value} (h : w.ownsRow base e size v n xs) (ty : TyD X w) (hk : Kp w.heap.size X w w') (he : mtD e = false) : w'.ownsRow base e size v n xs :=
 own_kp h hk fun g hg => ⟨(h.lt g hg).2, fun hX => by
  obtain ⟨T, cs, hb, hm⟩ := ty g hX (h.lt g hg).2
  exact obz h hb (fun hE => by subst hE; rw [he] at hm; cases hm) hg.symm⟩
theorem TyD.below (h : TyD X w) (hb : Below w.heap.size w w') (hX : ∀ g, X g → g < w.heap.size) : TyD X w' := fun g hg _ => by
 obtain ⟨T, cs, h1, h2⟩ := h g hg (hX g hg)
 exact ⟨T, cs, h1.t hb, h2⟩
theorem Blk.fy {g : Nat} {t : TypeId} {cs : Array Value} (h : Blk w g t cs) (ty : TyD X w) (hk : Kp w.heap.size X w w') (ht : mtD t = false) : Blk w' g t cs :=
 h.kp hk h.lt fun hX => by
  obtain ⟨T, cs', hb, hm⟩ := ty g hX h.lt
  exact Blk.differ h hb (fun hE => by subst hE; rw [ht] at hm; cases hm) rfl
theorem OwnB.fy {v : Value} {n : Nat} {l : List Bd} (h : OwnB w base v n l) (ty : TyD X w) (hk : Kp w.heap.size X w w') : OwnB w' base v n l := ⟨h.1, own_fy h.2 ty hk (by decide)⟩
theorem OwnT.fy {sch : List (List Bd)} {cts : List Ct} {kds : List Kd} {As Ac Ak : Option Addr} {ns cs nc cc nk ck : Nat} (h : OwnT w base sch cts kds As Ac Ak ns cs nc cc nk ck) (ty : TyD X w) (hk : Kp w.heap.size X w w') : OwnT w' base sch cts kds As Ac Ak ns cs nc cc nk ck := by
 obtain ⟨⟨ls, e1, o1, b1⟩, ⟨lc, e2, o2, b2⟩, o3, b3⟩ := h
 exact ⟨⟨ls, e1, own_fy o1 ty hk (by decide), fun p hp => (b1 p hp).fy ty hk⟩, ⟨lc, e2, own_fy o2 ty hk (by decide), fun p hp => ⟨(b2 p hp).1.fy ty hk, (b2 p hp).2⟩⟩, own_fy o3 ty hk (by decide), b3⟩
theorem SpOwn.fy {q : SpP} (h : SpOwn w base q) (ty : TyD X w) (hk : Kp w.heap.size X w w') : SpOwn w' base q := ⟨own_fy h.rows ty hk (by decide), own_fy h.tk ty hk (by decide)⟩
theorem Soz.fy {A : Option Addr} {n c : Nat} {l : List Sp} (h : Soz w base A n c l) (ty : TyD X w) (hk : Kp w.heap.size X w w') : Soz w' base A n c l := by
 obtain ⟨L, h1, h2, h3, h4⟩ := h.ex
 exact ⟨L, h1, h2, own_fy h3 ty hk (by decide), fun q hq => (h4 q hq).fy ty hk⟩
theorem Ya9.fy {p : Nat} {Y : Yr} {A : Option Addr} {c : Nat} {B : Option Addr} {d : Nat} (h : Ya9 w base p Y A c B d) (ty : TyD X w) (hk : Kp w.heap.size X w w') (hp : ¬ X p) : Ya9 w' base p Y A c B d :=
 ⟨h.blk.kp hk h.blk.lt hp, h.sl.fy ty hk, own_fy h.rows ty hk (by decide)⟩
theorem Bk.fy {p : Nat} {l : List Od} (h : Bk w p l) (ty : TyD X w) (hk : Kp w.heap.size X w w') (hp : ¬ X p) : Bk w' p l := by
 obtain ⟨v, h1, h2⟩ := h
 exact ⟨v, h1.kp hk h1.lt hp, h2.1, own_fy h2.2 ty hk (by decide)⟩
theorem YrAt.fy {g : Nat} {f d : Int} (h : YrAt w g f d) (ty : TyD X w) (hk : Kp w.heap.size X w w') : YrAt w' g f d := by
 obtain ⟨a, b, c, d, e, x, y, h⟩ := h
 exact ⟨a, b, c, d, e, x, y, h.fy ty hk (by decide)⟩
end
def blkO (A : Option Addr) : Option Nat := A.map Addr.block
theorem own_adr {w w' : World} {X : Nat → Prop} {base size n c : Nat} {e : TypeId} {A : Option Addr} {xs : List Value} (h : w.ownsRow base e size (.slice A n c) n xs) (hk : Kp w.heap.size X w w') (hx : ∀ g, blkO A = some g → ¬ X g) : w'.ownsRow base e size (.slice A n c) n xs :=
 own_kp h hk fun g hg => ⟨(h.lt g hg).2, hx g (by
  have h2 := hg
  rcases A with _ | ⟨b, o, t⟩
  ·
   cases h2
  ·
   exact h2)⟩
theorem Iw9.fy {X : Nat → Prop} {w w' : World} {lo base : Nat} {A : Option Addr} {n c : Nat} {l : List In} (h : Iw9 w lo base A n c l) (ty : TyD X w) (hk : Kp w.heap.size X w w') (hx : ∀ g, blkO A = some g → ¬ X g) : Iw9 w' lo base A n c l := by
 obtain ⟨L, h1, h2, h3, h4⟩ := h.ex
 exact ⟨L, h1, h2, own_adr h3 hk hx, fun q hq => ⟨(h4 q hq).1, own_fy (h4 q hq).2 ty hk (by decide)⟩⟩
structure FxP where
 z : Fx
 A : Option Addr
 n : Nat
 c : Nat
def fxp0 : FxP := ⟨fx0, none, 0, 0⟩
def fxPC (q : FxP) : List Value := [.int .i64 q.z.k, .slice q.A q.n q.c, .int .i64 q.z.a]
theorem fxPC_len (q : FxP) : (fxPC q).length = 3 := rfl
theorem fxp_one (x : FxP) : ∀ u ∈ fxPC x, u.oneCell' = true := by intro u hu; simp [fxPC] at hu; rcases hu with rfl | rfl | rfl <;> rfl
structure FxOwn (w : World) (lo base : Nat) (A : Option Addr) (n c : Nat) (l : List Fx) : Prop where
 ex : ∃ L : List FxP, L.map FxP.z = l ∧ n = L.length ∧ w.ownsRow base 62 3 (.slice A n c) n (L.flatMap fxPC) ∧ ∀ q ∈ L, q.n = q.z.l.length ∧ w.ownsRow lo 98 3 (.slice q.A q.n q.c) q.n (q.z.l.flatMap elC)
structure FxIn (w : World) (A : Option Addr) (n : Nat) (l : List Fx) : Prop where
 ex : ∃ L : List FxP, L.map FxP.z = l ∧ Rlz fxPC 3 fxp0 w A n L ∧ ∀ q ∈ L, ElSl w q.A q.n q.z.l
section
variable {w w' : World} {lo base : Nat} {A : Option Addr} {n c : Nat} {l : List Fx}
theorem FxIn.below (h : FxIn w A n l) (hb : Below w.heap.size w w') : FxIn w' A n l := by
 obtain ⟨L, h1, h2, h3⟩ := h.ex
 exact ⟨L, h1, h2.below hb, fun q hq => (h3 q hq).below hb⟩
theorem FxOwn.len (h : FxOwn w lo base A n c l) : n = l.length := by
 obtain ⟨L, h1, h2, _⟩ := h.ex
 rw [h2, ← h1, List.length_map]
theorem FxOwn.below (h : FxOwn w lo base A n c l) (hb : Below w.heap.size w w') : FxOwn w' lo base A n c l := by
 obtain ⟨L, h1, h2, h3, h4⟩ := h.ex
 exact ⟨L, h1, h2, oB9 h3 hb, fun q hq => ⟨(h4 q hq).1, oB9 (h4 q hq).2 hb⟩⟩
theorem FxOwn.more {lo' base' : Nat} (h : FxOwn w lo base A n c l) (hl : lo' ≤ lo) (hb : base' ≤ base) : FxOwn w lo' base' A n c l := by
 obtain ⟨L, h1, h2, h3, h4⟩ := h.ex
 exact ⟨L, h1, h2, oM9 h3 hb, fun q hq => ⟨(h4 q hq).1, oM9 (h4 q hq).2 hl⟩⟩
theorem FxOwn.fy {X : Nat → Prop} (h : FxOwn w lo base A n c l) (ty : TyD X w) (hk : Kp w.heap.size X w w') (hx : ∀ g, blkO A = some g → ¬ X g) : FxOwn w' lo base A n c l := by
 obtain ⟨L, h1, h2, h3, h4⟩ := h.ex
 exact ⟨L, h1, h2, own_adr h3 hk hx, fun q hq => ⟨(h4 q hq).1, own_fy (h4 q hq).2 ty hk (by decide)⟩⟩
theorem FxOwn.fx {X : Nat → Prop} (h : FxOwn w lo base A n c l) (ty : Ty X w) (hk : Kp w.heap.size X w w') : FxOwn w' lo base A n c l := by
 obtain ⟨L, h1, h2, h3, h4⟩ := h.ex
 exact ⟨L, h1, h2, own_fx h3 ty hk (by decide), fun q hq => ⟨(h4 q hq).1, own_fx (h4 q hq).2 ty hk (by decide)⟩⟩
theorem FxOwn.view (h : FxOwn w lo base A n c l) : FxIn w A n l := by
 obtain ⟨L, h1, h2, h3, h4⟩ := h.ex
 obtain ⟨A', c', he, _, hs⟩ := own_sl fxPC 3 fxp0 fxPC_len h3 h2 (by decide)
 injection he with e1 _ e3
 subst e1
 exact ⟨L, h1, hs, fun q hq => el_row (h4 q hq).2 (h4 q hq).1⟩
theorem FxOwn.nil (w : World) (lo base : Nat) : FxOwn w lo base none 0 0 [] := ⟨[], rfl, rfl, World.ownsRow_nil _ _ _ _, fun q hq => by cases hq⟩
end
structure DkS where
 d : Nat
 p : Nat
 y : Nat
 o : Nat
 A1 : Option Addr
 A2 : Option Addr
 A3 : Option Addr
def DkS.mt (s : DkS) (g : Nat) : Prop := g = s.d ∨ g = s.p ∨ g = s.y ∨ g = s.o ∨ blkO s.A1 = some g ∨ blkO s.A2 = some g
def DkS.rd (s : DkS) (g : Nat) : Prop := s.mt g ∨ blkO s.A3 = some g
structure DkAt (w : World) (lo : Nat) (fq days : Int) (s : DkS) (D : Dk) : Prop where
 ex : ∃ c1 c2 c3, Blk w s.d 55 #[.pointer (some ⟨s.p, 0, none⟩), .slice s.A2 D.fx.length c2, .slice s.A1 D.fs.length c1] ∧ w.cell? ⟨s.p, 13, none⟩ = some (.slice s.A3 D.e.ins.length c3) ∧ FxOwn w lo lo s.A2 D.fx.length c2 D.fx ∧ Iw9 w lo lo s.A1 D.fs.length c1 D.fs
 em : Ea9 w lo lo fq days s.p s.y s.o D.e
 ld : lo ≤ s.d
 sep : ∀ g, blkO s.A1 = some g → blkO s.A3 ≠ some g
def DkMut (D' : Dk) (lo : Nat) (fq days : Int) (s : DkS) (w w' : World) : Prop :=
 ∃ s', (s'.d = s.d ∧ s'.p = s.p ∧ s'.y = s.y) ∧ DkAt w' lo fq days s' D' ∧ (∀ g, s'.rd g → s.rd g ∨ w.heap.size ≤ g) ∧ (∀ g, s'.mt g → s.mt g ∨ w.heap.size ≤ g) ∧ Kp w.heap.size s.mt w w' ∧ ∀ g, g < w.heap.size → SlAt w s.y g → SlAt w' s.y g
section
variable {w w' : World} {lo li : Nat} {fq days : Int} {p y o : Nat} {E : Em} {K : EmC}
theorem EmRows.low (h : EmRows w lo li fq days E K y o) (hl : lo ≤ li) : EmRows w lo lo fq days E K y o := ⟨h.tb, h.gy, h.nx, h.ins.more (Nat.le_refl _) hl, h.yr, h.bk⟩
theorem Ea9.low (h : Ea9 w lo li fq days p y o E) : Ea9 w lo lo fq days p y o E := by
 obtain ⟨K, h1, h2⟩ := h.ex
 exact ⟨⟨K, h1, h2.low h.li'⟩, h.lp, h.ly, h.lo', Nat.le_refl _⟩
theorem EmRows.fy {X : Nat → Prop} (h : EmRows w lo li fq days E K y o) (ty : TyD X w) (hk : Kp w.heap.size X w w') (hy : ¬ X y) (ho : ¬ X o) (hi : ∀ g, blkO K.Ai = some g → ¬ X g) : EmRows w' lo li fq days E K y o := by
 obtain ⟨A, c, B, d, h5⟩ := h.yr
 exact ⟨h.tb.fy ty hk, h.gy.fy ty hk, own_fy h.nx ty hk (by decide), h.ins.fy ty hk hi, ⟨A, c, B, d, h5.fy ty hk hy⟩, h.bk.fy ty hk ho⟩
theorem Ea9.c13 (h : Ea9 w lo li fq days p y o E) {A : Option Addr} {n c : Nat} (h2 : w.cell? ⟨p, 13, none⟩ = some (.slice A n c)) : ∃ K : EmC, K.Ai = A ∧ Blk w p 109 (emC E K y o) ∧ EmRows w lo li fq days E K y o := by
 obtain ⟨K, h3, h4⟩ := h.ex
 have h5 := (h3.cell 13).symm.trans h2
 have h6 : (emC E K y o)[13]? = some (.slice K.Ai E.ins.length K.ci) := rfl
 rw [h6] at h5
 injection h5 with h5
 injection h5 with h5 _ _
 exact ⟨K, h5, h3, h4⟩
theorem Ea9.fy {X : Nat → Prop} (h : Ea9 w lo li fq days p y o E) {A : Option Addr} {n c : Nat} (h2 : w.cell? ⟨p, 13, none⟩ = some (.slice A n c)) (ty : TyD X w) (hk : Kp w.heap.size X w w') (hp : ¬ X p) (hy : ¬ X y) (ho : ¬ X o) (hi : ∀ g, blkO A = some g → ¬ X g) : Ea9 w' lo li fq days p y o E := by
 obtain ⟨K, h3, h4, h5⟩ := h.c13 h2
 subst h3
 exact ⟨⟨K, h4.kp hk h4.lt hp, h5.fy ty hk hy ho hi⟩, h.lp, h.ly, h.lo', h.li'⟩
theorem Ty.d {X : Nat → Prop} (h : Ty X w) : TyD X w := fun g hg hl => by
 obtain ⟨T, cs, h1, h2⟩ := h g hg hl
 refine ⟨T, cs, h1, ?_⟩
 unfold mtD
 unfold mtB at h2
 rw [h2]
 rfl
end
section
variable {w w' : World} {lo : Nat} {fq days : Int} {s : DkS} {D : Dk}
theorem DkAt.below (h : DkAt w lo fq days s D) (hb : Below w.heap.size w w') : DkAt w' lo fq days s D := by
 obtain ⟨c1, c2, c3, h1, h2, h3, h4⟩ := h.ex
 refine ⟨⟨c1, c2, c3, h1.t hb, ?_, h3.below hb, h4.below hb⟩, h.em.below hb, h.ld, h.sep⟩
 exact (hb.cell (p := ⟨s.p, 13, none⟩) h.em.lt.1).trans h2
theorem otz {base size n c g : Nat} {e : TypeId} {A : Option Addr} {xs : List Value} (h : w.ownsRow base e size (.slice A n c) n xs) (hg : blkO A = some g) : (∃ cs, Blk w g e cs) ∧ base ≤ g := by
 rcases h.2 with ⟨h1, _⟩ | ⟨g', cap, cur, h1, h2, h3, _⟩
 ·
  cases h1; cases hg
 ·
  cases h1
  injection hg with hg
  subst hg
  exact ⟨⟨cur, h3⟩, h2⟩
theorem DkAt.tyd (h : DkAt w lo fq days s D) : TyD s.mt w := by
 obtain ⟨c1, c2, c3, h1, h2, h3, h4⟩ := h.ex
 have ht := h.em.ty
 rintro g (rfl | rfl | rfl | rfl | hg | hg) hl
 ·
  exact ⟨_, _, h1, by decide⟩
 ·
  exact ht.d s.p (Or.inl rfl) hl
 ·
  exact ht.d s.y (Or.inr (Or.inl rfl)) hl
 ·
  exact ht.d s.o (Or.inr (Or.inr rfl)) hl
 ·
  obtain ⟨L, _, _, h5, _⟩ := h4.ex
  obtain ⟨⟨cs, h6⟩, _⟩ := otz h5 hg
  exact ⟨_, _, h6, by decide⟩
 ·
  obtain ⟨L, _, _, h5, _⟩ := h3.ex
  obtain ⟨⟨cs, h6⟩, _⟩ := otz h5 hg
  exact ⟨_, _, h6, by decide⟩
theorem DkAt.ge (h : DkAt w lo fq days s D) {g : Nat} (hg : s.rd g) : lo ≤ g ∧ g < w.heap.size := by
 obtain ⟨c1, c2, c3, h1, h2, h3, h4⟩ := h.ex
 have hlt := h.em.lt
 rcases hg with (rfl | rfl | rfl | rfl | hg | hg) | hg
 ·
  exact ⟨h.ld, h1.lt⟩
 ·
  exact ⟨h.em.lp, hlt.1⟩
 ·
  exact ⟨h.em.ly, hlt.2.1⟩
 ·
  exact ⟨h.em.lo', hlt.2.2⟩
 ·
  obtain ⟨L, _, _, h5, _⟩ := h4.ex
  obtain ⟨⟨cs, h6⟩, h7⟩ := otz h5 hg
  exact ⟨h7, h6.lt⟩
 ·
  obtain ⟨L, _, _, h5, _⟩ := h3.ex
  obtain ⟨⟨cs, h6⟩, h7⟩ := otz h5 hg
  exact ⟨h7, h6.lt⟩
 ·
  obtain ⟨K, h5, _, h6⟩ := h.em.c13 h2
  obtain ⟨L, _, _, h7, _⟩ := h6.ins.ex
  rw [h5] at h7
  obtain ⟨⟨cs, h8⟩, h9⟩ := otz h7 hg
  exact ⟨h9, h8.lt⟩
theorem DkAt.fy {X : Nat → Prop} (h : DkAt w lo fq days s D) (ty : TyD X w) (hk : Kp w.heap.size X w w') (hx : ∀ g, s.rd g → ¬ X g) : DkAt w' lo fq days s D := by
 obtain ⟨c1, c2, c3, h1, h2, h3, h4⟩ := h.ex
 have e := h.em.fy h2 ty hk (hx _ (Or.inl (Or.inr (Or.inl rfl)))) (hx _ (Or.inl (Or.inr (Or.inr (Or.inl rfl))))) (hx _ (Or.inl (Or.inr (Or.inr (Or.inr (Or.inl rfl)))))) (fun g hg => hx g (Or.inr hg))
 refine ⟨⟨c1, c2, c3, h1.kp hk h1.lt (hx _ (Or.inl (Or.inl rfl))), ?_, h3.fy ty hk (fun g hg => hx g (Or.inl (Or.inr (Or.inr (Or.inr (Or.inr (Or.inr hg))))))), h4.fy ty hk (fun g hg => hx g (Or.inl (Or.inr (Or.inr (Or.inr (Or.inr (Or.inl hg))))))) ⟩, e, h.ld, h.sep⟩
 obtain ⟨K, h5, h6, _⟩ := h.em.c13 h2
 have h7 := h6.kp hk h6.lt (hx _ (Or.inl (Or.inr (Or.inl rfl))))
 exact ((h7.cell 13).trans (h6.cell 13).symm).trans h2
theorem DkAt.act (h : DkAt w lo fq days s D) {li : Nat} {E : Em} (he : Ea9 w' lo li fq days s.p s.y s.o E) (hk : Kp w.heap.size (fx3 s.p s.y s.o) w w') (hc : w'.cell? ⟨s.p, 13, none⟩ = w.cell? ⟨s.p, 13, none⟩) (hn : E.ins.length = D.e.ins.length) (hs : ∀ g, g < w.heap.size → SlAt w s.y g → SlAt w' s.y g) : DkMut { D with e := E } lo fq days s w w' := by
 obtain ⟨c1, c2, c3, h1, h2, h3, h4⟩ := h.ex
 have ht := h.em.ty
 have hd : ¬ fx3 s.p s.y s.o s.d := fun hx => by
  obtain ⟨T, cs, hb, hm⟩ := ht s.d hx h1.lt
  obtain ⟨K, h5, _⟩ := h.em.ex
  obtain ⟨K, hr⟩ := h.em.ex
  obtain ⟨A, c, B, d, hy⟩ := hr.2.yr
  obtain ⟨v, ho, _⟩ := hr.2.bk
  rcases hx with hx | hx | hx
  ·
   exact Blk.differ h1 h5 (by decide) hx
  ·
   exact Blk.differ h1 hy.blk (by decide) hx
  ·
   exact Blk.differ h1 ho (by decide) hx
 refine ⟨s, ⟨rfl, rfl, rfl⟩, ⟨⟨c1, c2, c3, h1.kp hk h1.lt hd, ?_, h3.fx ht hk, h4.fx ht hk⟩, he.low, h.ld, h.sep⟩, fun g hg => Or.inl hg, fun g hg => Or.inl hg, hk.mono ?_, hs⟩
 ·
  rw [hc, h2, hn]
 ·
  rintro g (rfl | rfl | rfl)
  ·
   exact Or.inr (Or.inl rfl)
  ·
   exact Or.inr (Or.inr (Or.inl rfl))
  ·
   exact Or.inr (Or.inr (Or.inr (Or.inl rfl)))
theorem DkMut.trans {w2 : World} {s : DkS} {D1 D2 : Dk} (h : DkMut D1 lo fq days s w w') (h2 : ∀ s', DkAt w' lo fq days s' D1 → DkMut D2 lo fq days s' w' w2) : DkMut D2 lo fq days s w w2 := by
 obtain ⟨s1, e1, a1, r1, m1, k1, y1⟩ := h
 obtain ⟨s2, e2, a2, r2, m2, k2, y2⟩ := h2 s1 a1
 refine ⟨s2, ⟨e2.1.trans e1.1, e2.2.1.trans e1.2.1, e2.2.2.trans e1.2.2⟩, a2, fun g hg => ?_, fun g hg => ?_, kK k1 k2 (fun g hl hg => ?_), fun g hg hs => e1.2.2 ▸ y2 g (Nat.lt_of_lt_of_le hg k1.size) (e1.2.2.symm ▸ y1 g hg hs)⟩
 ·
  rcases r2 g hg with hg | hg
  ·
   exact r1 g hg
  ·
   exact Or.inr (Nat.le_trans k1.size hg)
 ·
  rcases m2 g hg with hg | hg
  ·
   exact m1 g hg
  ·
   exact Or.inr (Nat.le_trans k1.size hg)
 ·
  rcases m1 g hg with hg | hg
  ·
   exact hg
  ·
   omega
end
section
variable {P : Program}
theorem run_appW (w : World) (t ty e : TypeId) (z : Value) (size bytes : Nat) (ht : P.underlying t = some (.slice e)) (hi : (P.info? e).map (fun i => (i.zero, i.size, i.bytes)) = some (some z, size, bytes))
  (hzs : z.cells.size = size) (hsz : 0 < size) {base : Nat} {v : Value} {n : Nat} {xs : List Value} (hown : w.ownsRow base e size v n xs) (ad : Addr) (m c : Nat) (news : List Value) (hm : 0 < m) (hl : news.length = m * size) (hnews : ∀ j u, news[j]? = some u → w.cell? (ad.add j) = some u) (h1 : ∀ u ∈ news, u.oneCell' = true)
  (hn : (n + m) * bytes ≤ 140737488355328) (hn2 : n + m ≤ 9223372036854775807) (hbase : base ≤ w.heap.size) :
  ∃ v' w', (Builtin.append_ #[t, t] ty #[v, .slice (some ad) m c]).run P w = .ok v' w' ∧ w'.ownsRow base e size v' (n + m) (xs ++ news) ∧ w.grownBy w' v.ownBlock ∧ (v'.ownBlock = v.ownBlock ∨ ∃ g, v'.ownBlock = some g ∧ w.heap.size ≤ g) := by
 obtain ⟨i, hi', hz, hs, hb⟩ := info_parts hi
 obtain ⟨v', w', hr, ho, hg, _⟩ := run_append_own (P := P) w base t ty e i z size bytes ht hi' hz hs hb hzs hsz v n xs hown ad m c news hl hnews h1 (by unfold maxLen; exact hn2) hn hbase
 refine ⟨v', w', hr, ho, hg, ?_⟩
 subst hs
 subst hb
 rcases hown.2 with ⟨rfl, rfl⟩ | ⟨g, cap, cur, rfl, hbg, hgg, hnc, hcm, hcs, htake⟩
 ·
  have hr2 := run_append_nil (P := P) w t ty e i z ht hi' hz ad m c news hl hnews (by omega) (by omega) (by have hb := hn; simp only [Nat.zero_add] at hb; omega)
  rw [hr] at hr2
  injection hr2 with e1 e2
  exact Or.inr ⟨w.heap.size, by rw [e1]; rfl, Nat.le_refl _⟩
 ·
  by_cases hroom : n + m ≤ cap
  ·
   have hfit : n * i.size + news.length ≤ cur.size := by rw [hl, hcs, ← Nat.add_mul]; exact Nat.mul_le_mul_right _ hroom
   have hr2 := run_append_room (P := P) w t ty e i ht hi' g n cap cur hgg ad m c news hl hnews h1 hroom hfit
   rw [hr] at hr2
   injection hr2 with e1 e2
   exact Or.inl (by rw [e1]; rfl)
  ·
   have holds : ∀ j u, xs[j]? = some u → w.cell? ((⟨g, 0, none⟩ : Addr).add j) = some u := hown.cells (g := g) rfl
   have hr2 := run_append_grow (P := P) w t ty e i z ht hi' hz ⟨g, 0, none⟩ n cap xs hown.1 holds ad m c news hl hnews (by omega) (by omega) (growslice_fits (by omega) hn)
   rw [hr] at hr2
   injection hr2 with e1 e2
   exact Or.inr ⟨w.heap.size, by rw [e1]; rfl, Nat.le_refl _⟩
theorem run_app1W (w : World) (t ty e : TypeId) (z : Value) (size bytes : Nat) (ht : P.underlying t = some (.slice e)) (hi : (P.info? e).map (fun i => (i.zero, i.size, i.bytes)) = some (some z, size, bytes))
  (hzs : z.cells.size = size) (hsz : 0 < size) {base : Nat} {v : Value} {n : Nat} {xs : List Value} (hown : w.ownsRow base e size v n xs) (cs : Array Value) (hl : cs.size = size) (h1 : ∀ u ∈ cs.toList, u.oneCell' = true)
  (hn : (n + 1) * bytes ≤ 140737488355328) (hn2 : n + 1 ≤ 9223372036854775807) (hbase : base ≤ w.heap.size) :
  ∃ v' w', (Builtin.append_ #[t, t] ty #[v, .slice (some ⟨w.heap.size, 0, none⟩) 1 1]).run P (w.alloc (.cells cs e)) = .ok v' w' ∧ w'.ownsRow base e size v' (n + 1) (xs ++ cs.toList) ∧ w.grownBy w' v.ownBlock ∧ (v'.ownBlock = v.ownBlock ∨ ∃ g, v'.ownBlock = some g ∧ w.heap.size ≤ g) := by
 obtain ⟨v', w', hr, ho, hg, hw⟩ := run_appW (P := P) (w.alloc (.cells cs e)) t ty e z size bytes ht hi hzs hsz (hown.alloc _) ⟨w.heap.size, 0, none⟩ 1 1 cs.toList (by decide) (by simpa using hl)
  (fun j u hu => by
   rw [add_plain, cell_of_row _ _ _ cs e (0, 0) (heap_alloc_new w _)]
   simpa using hu) h1 hn hn2 (by simp; omega)
 refine ⟨v', w', hr, ho, (World.grownBy_alloc w _ _).trans hg, hw.imp id fun ⟨g, h2, h3⟩ => ⟨g, h2, Nat.le_trans (by simp) h3⟩⟩
theorem wpList_app1W {ops : Array Oper} {rest : List Oper} {o : Oper} {a : Act} {Q : Exit → Act → World → Prop} (w : World) (hgd : o.guard = none) (s x : Operand) (t : TypeId)
  (ho : o.op = .call { callee := .builtin .append, args := #[s, x], argTypes := #[t, t] })
  (e : TypeId) (z : Value) (size bytes : Nat) (ht : P.underlying t = some (.slice e)) (hi : (P.info? e).map (fun i => (i.zero, i.size, i.bytes)) = some (some z, size, bytes))
  (hzs : z.cells.size = size) (hsz : 0 < size) {base : Nat} {v : Value} {n : Nat} {xs : List Value} (hs : a.eval s = v) (hown : w.ownsRow base e size v n xs) (cs : Array Value) {nb : Nat} (hx : a.eval x = .slice (some ⟨nb, 0, none⟩) 1 1) (hnb : nb = w.heap.size)
  (hl : cs.size = size) (h1 : ∀ u ∈ cs.toList, u.oneCell' = true) (hn : (n + 1) * bytes ≤ 140737488355328) (hn2 : n + 1 ≤ 9223372036854775807) (hbase : base ≤ w.heap.size)
  (h : ∀ v' w', w'.ownsRow base e size v' (n + 1) (xs ++ cs.toList) → w.grownBy w' v.ownBlock → (v'.ownBlock = v.ownBlock ∨ ∃ g, v'.ownBlock = some g ∧ w.heap.size ≤ g) → wpList P ops Q rest (a.put o.dst v') w') : wpList P ops Q (o :: rest) a (w.alloc (.cells cs e)) := by
 subst hnb
 refine wpList_plain hgd fun K hK => ?_
 obtain ⟨v', w', hr, h2, h3, h4⟩ := run_app1W w t o.type e z size bytes ht hi hzs hsz hown cs hl h1 hn hn2 hbase
 unfold Oper.wp execOp
 simp only [ho, resolve, invoke, builtin, Sem.run_bind, Sem.run_pure, Result.andThen_ok, List.map_toArray, List.map_cons, List.map_nil, hs, hx, hr]
 exact hK _ _ (h v' w' h2 h3 h4)
end
theorem bOz (A : Option Addr) (n c : Nat) : (Value.slice A n c).ownBlock = blkO A := by rcases A with _ | a <;> rfl
theorem oK9 {w W : World} {b1 b2 s1 s2 n1 n2 c2 : Nat} {e t : TypeId} {v : Value} {A : Option Addr} {xs ys : List Value} (h : w.ownsRow b1 e s1 v n1 xs) (ho : w.ownsRow b2 t s2 (.slice A n2 c2) n2 ys) (hne : e ≠ t) (hg : w.grownBy W (blkO A)) : W.ownsRow b1 e s1 v n1 xs := by
 rcases hA : blkO A with _ | g
 ·
  rw [hA] at hg
  rcases hv : v.ownBlock with _ | g2
  ·
   exact h.kept hg (Or.inl hv)
  ·
   exact h.kept hg (Or.inr (by rw [hv]; exact fun h => nomatch h))
 ·
  obtain ⟨⟨cs, hb⟩, _⟩ := otz ho hA
  rw [hA] at hg
  exact h.kept hg (Or.inr (obz h hb hne).symm)
section
variable {w W : World} {lo base : Nat} {A A' : Option Addr} {n c c' : Nat}
theorem FxOwn.app {l : List Fx} (h : FxOwn w lo base A n c l) : ∃ xs, w.ownsRow base 62 3 (.slice A n c) n xs ∧ ∀ (W5 W : World) (A' : Option Addr) (c' : Nat) (q : FxP), Below w.heap.size w W5 → W5.grownBy W (blkO A) → W.ownsRow base 62 3 (.slice A' (n + 1) c') (n + 1) (xs ++ fxPC q) → q.n = q.z.l.length → W.ownsRow lo 98 3 (.slice q.A q.n q.c) q.n (q.z.l.flatMap elC) → FxOwn W lo base A' (n + 1) c' (l ++ [q.z]) := by
 obtain ⟨L, h1, h2, h3, h4⟩ := h.ex
 refine ⟨_, h3, fun W5 W A' c' q hb hg ho hn hq => ⟨L ++ [q], by rw [List.map_append, h1]; rfl, by rw [List.length_append, ← h2]; rfl, by rw [List.flatMap_append]; simpa using ho, fun r hr => ?_⟩⟩
 rcases List.mem_append.1 hr with hr | hr
 ·
  exact ⟨(h4 r hr).1, oK9 (oB9 (h4 r hr).2 hb) (oB9 h3 hb) (by decide) hg⟩
 ·
  rw [List.mem_singleton] at hr; subst hr; exact ⟨hn, hq⟩
theorem Iw9.app {l : List In} (h : Iw9 w lo base A n c l) : ∃ xs, w.ownsRow base 67 6 (.slice A n c) n xs ∧ ∀ (W5 W : World) (A' : Option Addr) (c' : Nat) (q : InP), Below w.heap.size w W5 → W5.grownBy W (blkO A) → W.ownsRow base 67 6 (.slice A' (n + 1) c') (n + 1) (xs ++ inPC q) → q.n = q.z.l.length → W.ownsRow lo 98 3 (.slice q.A q.n q.k) q.n (q.z.l.flatMap elC) → Iw9 W lo base A' (n + 1) c' (l ++ [q.z]) := by
 obtain ⟨L, h1, h2, h3, h4⟩ := h.ex
 refine ⟨_, h3, fun W5 W A' c' q hb hg ho hn hq => ⟨L ++ [q], by rw [List.map_append, h1]; rfl, by rw [List.length_append, ← h2]; rfl, by rw [List.flatMap_append]; simpa using ho, fun r hr => ?_⟩⟩
 rcases List.mem_append.1 hr with hr | hr
 ·
  exact ⟨(h4 r hr).1, oK9 (oB9 (h4 r hr).2 hb) (oB9 h3 hb) (by decide) hg⟩
 ·
  rw [List.mem_singleton] at hr; subst hr; exact ⟨hn, hq⟩
end
section
variable {w W : World} {lo : Nat} {fq days : Int} {s : DkS} {D : Dk}
theorem Ea9.slk2 {w w' : World} {lo li : Nat} {fq days : Int} {p y o : Nat} {E : Em} (h : Ea9 w lo li fq days p y o E) (hk : Kp w.heap.size (fx2 p o) w w') : ∀ g, g < w.heap.size → SlAt w y g → SlAt w' y g := by
 obtain ⟨n1, n2, n3⟩ := h.diff
 obtain ⟨K, h1, h2⟩ := h.ex
 obtain ⟨A, c, B, d, h5⟩ := h2.yr
 intro g hg hs
 have hb := h5.blk.kp hk h5.blk.lt (fun hx => hx.elim (fun e => n1 e.symm) (fun e => n3 e))
 exact hs.same ((hb.cell 1).trans (h5.blk.cell 1).symm)
theorem DkAt.open (h : DkAt w lo fq days s D) : ∃ c1 c2 c3, Blk w s.d 55 #[.pointer (some ⟨s.p, 0, none⟩), .slice s.A2 D.fx.length c2, .slice s.A1 D.fs.length c1] ∧ w.cell? ⟨s.p, 13, none⟩ = some (.slice s.A3 D.e.ins.length c3) ∧ FxOwn w lo lo s.A2 D.fx.length c2 D.fx ∧ Iw9 w lo lo s.A1 D.fs.length c1 D.fs := h.ex
theorem DkAt.putFx (h : DkAt w lo fq days s D) {n2 n1 c1 c2 : Nat} (hB : Blk w s.d 55 #[.pointer (some ⟨s.p, 0, none⟩), .slice s.A2 n2 c2, .slice s.A1 n1 c1]) {A' : Option Addr} {c' : Nat} {f : Fx} (hg : w.grownBy W (blkO s.A2)) (ho : FxOwn W lo lo A' (D.fx.length + 1) c' (D.fx ++ [f])) (ha : blkO A' = blkO s.A2 ∨ ∃ g, blkO A' = some g ∧ w.heap.size ≤ g) :
  DkMut { D with fx := D.fx ++ [f] } lo fq days s w (W.setCell ⟨s.d, 1, none⟩ (.slice A' (D.fx.length + 1) c')) := by
 obtain ⟨k1, k2, k3, h1, h2, h3, h4⟩ := h.ex
 have hx : ∀ g, blkO s.A2 = some g → (∃ cs, Blk w g 62 cs) ∧ lo ≤ g := fun g hg => by
  obtain ⟨L, _, _, h5, _⟩ := h3.ex
  exact otz h5 hg
 have e1 := (hB.cell 2).symm.trans (h1.cell 2)
 injection e1 with e1
 injection e1 with _ e2 e3
 subst e2
 subst e3
 let X : Nat → Prop := fun g => g = s.d ∨ blkO s.A2 = some g
 have hk0 : Kp w.heap.size X w W := Kp.grown hg (Nat.le_refl _) (fun k hk => Or.inr (Or.inr hk))
 have hk : Kp w.heap.size X w (W.setCell ⟨s.d, 1, none⟩ (.slice A' (D.fx.length + 1) c')) := hk0.set (p := ⟨s.d, 1, none⟩) (Or.inr (Or.inl rfl)) _
 have ty : TyD X w := by
  rintro g (rfl | hg) _
  ·
   exact ⟨_, _, h1, by decide⟩
  ·
   obtain ⟨⟨cs, hb⟩, _⟩ := hx g hg
   exact ⟨_, _, hb, by decide⟩
 have hne : ∀ {g : Nat} {T : TypeId} {cs : Array Value}, Blk w g T cs → T ≠ 55 → T ≠ 62 → ¬ X g := fun hb n1 n2 hX => by
  rcases hX with hX | hX
  ·
   exact Blk.differ hb h1 n1 hX
  ·
   obtain ⟨⟨cs, hb2⟩, _⟩ := hx _ hX
   exact Blk.differ hb hb2 n2 rfl
 have hd : ¬ blkO s.A2 = some s.d := fun he => by
  obtain ⟨⟨cs, hb2⟩, _⟩ := hx _ he
  exact Blk.differ h1 hb2 (by decide) rfl
 obtain ⟨K, hK, hKr⟩ := h.em.ex
 obtain ⟨Ay, cy, By, dy, hy⟩ := hKr.yr
 obtain ⟨vo, hvo, _⟩ := hKr.bk
 have hi3 : ∀ g, blkO s.A3 = some g → ¬ X g := fun g hg => by
  obtain ⟨K2, k5, _, k6⟩ := h.em.c13 h2
  obtain ⟨L, _, _, k7, _⟩ := k6.ins.ex
  rw [k5] at k7
  obtain ⟨⟨cs, hb⟩, _⟩ := otz k7 hg
  exact hne hb (by decide) (by decide)
 have hi1 : ∀ g, blkO s.A1 = some g → ¬ X g := fun g hg => by
  obtain ⟨L, _, _, k7, _⟩ := h4.ex
  obtain ⟨⟨cs, hb⟩, _⟩ := otz k7 hg
  exact hne hb (by decide) (by decide)
 have em := h.em.fy h2 ty hk (hne hK (by decide) (by decide)) (hne hy.blk (by decide) (by decide)) (hne hvo (by decide) (by decide)) hi3
 have hdW : Blk W s.d 55 #[.pointer (some ⟨s.p, 0, none⟩), .slice s.A2 D.fx.length k2, .slice s.A1 D.fs.length c1] := h1.grown hg (fun he => hd he.symm)
 refine ⟨{ s with A2 := A' }, ⟨rfl, rfl, rfl⟩, ⟨⟨c1, c', k3, ?_, ?_, ?_, h4.fy ty hk hi1⟩, em, h.ld, h.sep⟩, ?_, ?_, hk.mono ?_, fun g hg hs => hs.same (((hy.blk.kp hk hy.blk.lt (hne hy.blk (by decide) (by decide))).cell 1).trans (hy.blk.cell 1).symm)⟩
 ·
  rw [List.length_append]; exact hdW.setJ 1 _
 ·
  have := hK.kp hk hK.lt (hne hK (by decide) (by decide))
  exact ((this.cell 13).trans (hK.cell 13).symm).trans h2
 ·
  show FxOwn _ lo lo A' (D.fx ++ [f]).length c' (D.fx ++ [f])
  rw [List.length_append]
  obtain ⟨L, q1, q2, q3, q4⟩ := ho.ex
  exact ⟨L, q1, q2, oS9 q3 hdW (by decide) 1 _, fun q hq => ⟨(q4 q hq).1, oS9 (q4 q hq).2 hdW (by decide) 1 _⟩⟩
 ·
  rintro g ((rfl | rfl | rfl | rfl | hg | hg) | hg)
  ·
   exact Or.inl (Or.inl (Or.inl rfl))
  ·
   exact Or.inl (Or.inl (Or.inr (Or.inl rfl)))
  ·
   exact Or.inl (Or.inl (Or.inr (Or.inr (Or.inl rfl))))
  ·
   exact Or.inl (Or.inl (Or.inr (Or.inr (Or.inr (Or.inl rfl)))))
  ·
   exact Or.inl (Or.inl (Or.inr (Or.inr (Or.inr (Or.inr (Or.inl hg))))))
  ·
   rcases ha with ha | ⟨g', ha, hl⟩
   ·
    exact Or.inl (Or.inl (Or.inr (Or.inr (Or.inr (Or.inr (Or.inr (ha.symm.trans hg)))))))
   ·
    have hgg := ha.symm.trans hg
    injection hgg with hgg
    exact Or.inr (hgg ▸ hl)
  ·
   exact Or.inl (Or.inr hg)
 ·
  rintro g (rfl | rfl | rfl | rfl | hg | hg)
  ·
   exact Or.inl (Or.inl rfl)
  ·
   exact Or.inl (Or.inr (Or.inl rfl))
  ·
   exact Or.inl (Or.inr (Or.inr (Or.inl rfl)))
  ·
   exact Or.inl (Or.inr (Or.inr (Or.inr (Or.inl rfl))))
  ·
   exact Or.inl (Or.inr (Or.inr (Or.inr (Or.inr (Or.inl hg)))))
  ·
   rcases ha with ha | ⟨g', ha, hl⟩
   ·
    exact Or.inl (Or.inr (Or.inr (Or.inr (Or.inr (Or.inr (ha.symm.trans hg))))))
   ·
    have hgg := ha.symm.trans hg
    injection hgg with hgg
    exact Or.inr (hgg ▸ hl)
 ·
  rintro g (rfl | hg)
  ·
   exact Or.inl rfl
  ·
   exact Or.inr (Or.inr (Or.inr (Or.inr (Or.inr hg))))
theorem DkAt.putFs (h : DkAt w lo fq days s D) {n2 n1 c1 c2 : Nat} (hB : Blk w s.d 55 #[.pointer (some ⟨s.p, 0, none⟩), .slice s.A2 n2 c2, .slice s.A1 n1 c1]) {A' : Option Addr} {c' : Nat} {z : In} (hg : w.grownBy W (blkO s.A1)) (ho : Iw9 W lo lo A' (D.fs.length + 1) c' (D.fs ++ [z])) (ha : blkO A' = blkO s.A1 ∨ ∃ g, blkO A' = some g ∧ w.heap.size ≤ g) :
  DkMut { D with fs := D.fs ++ [z] } lo fq days s w (W.setCell ⟨s.d, 2, none⟩ (.slice A' (D.fs.length + 1) c')) := by
 obtain ⟨k1, k2, k3, h1, h2, h3, h4⟩ := h.ex
 have hx : ∀ g, blkO s.A1 = some g → (∃ cs, Blk w g 67 cs) ∧ lo ≤ g := fun g hg => by
  obtain ⟨L, _, _, h5, _⟩ := h4.ex
  exact otz h5 hg
 have e1 := (hB.cell 1).symm.trans (h1.cell 1)
 injection e1 with e1
 injection e1 with _ e2 e3
 subst e2
 subst e3
 let X : Nat → Prop := fun g => g = s.d ∨ blkO s.A1 = some g
 have hk0 : Kp w.heap.size X w W := Kp.grown hg (Nat.le_refl _) (fun k hk => Or.inr (Or.inr hk))
 have hk : Kp w.heap.size X w (W.setCell ⟨s.d, 2, none⟩ (.slice A' (D.fs.length + 1) c')) := hk0.set (p := ⟨s.d, 2, none⟩) (Or.inr (Or.inl rfl)) _
 have ty : TyD X w := by
  rintro g (rfl | hg) _
  ·
   exact ⟨_, _, h1, by decide⟩
  ·
   obtain ⟨⟨cs, hb⟩, _⟩ := hx g hg
   exact ⟨_, _, hb, by decide⟩
 have hne : ∀ {g : Nat} {T : TypeId} {cs : Array Value}, Blk w g T cs → T ≠ 55 → T ≠ 67 → ¬ X g := fun hb n1 n2 hX => by
  rcases hX with hX | hX
  ·
   exact Blk.differ hb h1 n1 hX
  ·
   obtain ⟨⟨cs, hb2⟩, _⟩ := hx _ hX
   exact Blk.differ hb hb2 n2 rfl
 have hd : ¬ blkO s.A1 = some s.d := fun he => by
  obtain ⟨⟨cs, hb2⟩, _⟩ := hx _ he
  exact Blk.differ h1 hb2 (by decide) rfl
 obtain ⟨K, hK, hKr⟩ := h.em.ex
 obtain ⟨Ay, cy, By, dy, hy⟩ := hKr.yr
 obtain ⟨vo, hvo, _⟩ := hKr.bk
 have hi3 : ∀ g, blkO s.A3 = some g → ¬ X g := fun g hg hX => by
  rcases hX with hX | hX
  ·
   obtain ⟨K2, k5, _, k6⟩ := h.em.c13 h2
   obtain ⟨L, _, _, k7, _⟩ := k6.ins.ex
   rw [k5] at k7
   obtain ⟨⟨cs, hb⟩, _⟩ := otz k7 hg
   exact Blk.differ hb h1 (by decide) hX
  ·
   exact h.sep g hX hg
 have hi2 : ∀ g, blkO s.A2 = some g → ¬ X g := fun g hg => by
  obtain ⟨L, _, _, k7, _⟩ := h3.ex
  obtain ⟨⟨cs, hb⟩, _⟩ := otz k7 hg
  exact hne hb (by decide) (by decide)
 have em := h.em.fy h2 ty hk (hne hK (by decide) (by decide)) (hne hy.blk (by decide) (by decide)) (hne hvo (by decide) (by decide)) hi3
 have hdW : Blk W s.d 55 #[.pointer (some ⟨s.p, 0, none⟩), .slice s.A2 D.fx.length c2, .slice s.A1 D.fs.length k1] := h1.grown hg (fun he => hd he.symm)
 refine ⟨{ s with A1 := A' }, ⟨rfl, rfl, rfl⟩, ⟨⟨c', c2, k3, ?_, ?_, h3.fy ty hk hi2, ?_⟩, em, h.ld, ?_⟩, ?_, ?_, hk.mono ?_, fun g hg hs => hs.same (((hy.blk.kp hk hy.blk.lt (hne hy.blk (by decide) (by decide))).cell 1).trans (hy.blk.cell 1).symm)⟩
 ·
  rw [List.length_append]; exact hdW.setJ 2 _
 ·
  have := hK.kp hk hK.lt (hne hK (by decide) (by decide))
  exact ((this.cell 13).trans (hK.cell 13).symm).trans h2
 ·
  show Iw9 _ lo lo A' (D.fs ++ [z]).length c' (D.fs ++ [z])
  rw [List.length_append]
  obtain ⟨L, q1, q2, q3, q4⟩ := ho.ex
  exact ⟨L, q1, q2, oS9 q3 hdW (by decide) 2 _, fun q hq => ⟨(q4 q hq).1, oS9 (q4 q hq).2 hdW (by decide) 2 _⟩⟩
 ·
  intro g hg hg3
  rcases ha with ha | ⟨g', ha, hl⟩
  ·
   exact h.sep g (ha.symm.trans hg) hg3
  ·
   have hgg := ha.symm.trans hg
   injection hgg with hgg
   have := (h.ge (g := g) (Or.inr hg3)).2
   omega
 ·
  rintro g ((rfl | rfl | rfl | rfl | hg | hg) | hg)
  ·
   exact Or.inl (Or.inl (Or.inl rfl))
  ·
   exact Or.inl (Or.inl (Or.inr (Or.inl rfl)))
  ·
   exact Or.inl (Or.inl (Or.inr (Or.inr (Or.inl rfl))))
  ·
   exact Or.inl (Or.inl (Or.inr (Or.inr (Or.inr (Or.inl rfl)))))
  ·
   rcases ha with ha | ⟨g', ha, hl⟩
   ·
    exact Or.inl (Or.inl (Or.inr (Or.inr (Or.inr (Or.inr (Or.inl (ha.symm.trans hg)))))))
   ·
    have hgg := ha.symm.trans hg
    injection hgg with hgg
    exact Or.inr (hgg ▸ hl)
  ·
   exact Or.inl (Or.inl (Or.inr (Or.inr (Or.inr (Or.inr (Or.inr hg))))))
  ·
   exact Or.inl (Or.inr hg)
 ·
  rintro g (rfl | rfl | rfl | rfl | hg | hg)
  ·
   exact Or.inl (Or.inl rfl)
  ·
   exact Or.inl (Or.inr (Or.inl rfl))
  ·
   exact Or.inl (Or.inr (Or.inr (Or.inl rfl)))
  ·
   exact Or.inl (Or.inr (Or.inr (Or.inr (Or.inl rfl))))
  ·
   rcases ha with ha | ⟨g', ha, hl⟩
   ·
    exact Or.inl (Or.inr (Or.inr (Or.inr (Or.inr (Or.inl (ha.symm.trans hg))))))
   ·
    have hgg := ha.symm.trans hg
    injection hgg with hgg
    exact Or.inr (hgg ▸ hl)
  ·
   exact Or.inl (Or.inr (Or.inr (Or.inr (Or.inr (Or.inr hg)))))
 ·
  rintro g (rfl | hg)
  ·
   exact Or.inl rfl
  ·
   exact Or.inr (Or.inr (Or.inr (Or.inr (Or.inl hg))))
theorem DkAt.actN (h : DkAt w lo fq days s D) {li o' : Nat} {E : Em} (he : Ea9 W lo li fq days s.p s.y o' E) (ho : o' = s.o ∨ w.heap.size ≤ o') (hk : Kp w.heap.size (fx3 s.p s.y s.o) w W) (hc : (W.cell? ⟨s.p, 13, none⟩ = w.cell? ⟨s.p, 13, none⟩ ∧ E.ins.length = D.e.ins.length) ∨ ∃ g n c, W.cell? ⟨s.p, 13, none⟩ = some (.slice (some ⟨g, 0, none⟩) n c) ∧ w.heap.size ≤ g) (hs : ∀ g, g < w.heap.size → SlAt w s.y g → SlAt W s.y g) : DkMut { D with e := E } lo fq days s w W := by
 obtain ⟨c1, c2, c3, h1, h2, h3, h4⟩ := h.ex
 have ht := h.em.ty
 have hd : ¬ fx3 s.p s.y s.o s.d := fun hx => by
  obtain ⟨K, h5, _⟩ := h.em.ex
  obtain ⟨K, hr⟩ := h.em.ex
  obtain ⟨A, c, B, d, hy⟩ := hr.2.yr
  obtain ⟨v, ho, _⟩ := hr.2.bk
  rcases hx with hx | hx | hx
  ·
   exact Blk.differ h1 h5 (by decide) hx
  ·
   exact Blk.differ h1 hy.blk (by decide) hx
  ·
   exact Blk.differ h1 ho (by decide) hx
 obtain ⟨K, hK, hKr⟩ := he.ex
 have h6 : (emC E K s.y o')[13]? = some (.slice K.Ai E.ins.length K.ci) := rfl
 have hc2 : ∃ A3 c3', W.cell? ⟨s.p, 13, none⟩ = some (.slice A3 E.ins.length c3') ∧ (A3 = s.A3 ∨ ∃ g, A3 = some ⟨g, 0, none⟩ ∧ w.heap.size ≤ g) := by
  rcases hc with ⟨hc, hn⟩ | ⟨g, n, c, hc, hg⟩
  ·
   exact ⟨s.A3, c3, by rw [hc, h2, hn], Or.inl rfl⟩
  ·
   have h13 := (hK.cell 13).symm.trans hc
   rw [h6] at h13
   injection h13 with h13
   injection h13 with a1 a2 a3
   subst a2
   exact ⟨some ⟨g, 0, none⟩, c, hc, Or.inr ⟨g, rfl, hg⟩⟩
 obtain ⟨A3, c3', hc3, ha3⟩ := hc2
 have hnew : ∀ k, blkO A3 = some k → blkO s.A3 = some k ∨ w.heap.size ≤ k := fun k hk => by
  rcases ha3 with rfl | ⟨g, rfl, hg⟩
  ·
   exact Or.inl hk
  ·
   have hgg : some g = some k := hk
   injection hgg with hgg
   exact Or.inr (hgg ▸ hg)
 refine ⟨{ s with o := o', A3 := A3 }, ⟨rfl, rfl, rfl⟩, ⟨⟨c1, c2, c3', h1.kp hk h1.lt hd, hc3, h3.fx ht hk, h4.fx ht hk⟩, he.low, h.ld, ?_⟩, ?_, ?_, hk.mono ?_, hs⟩
 ·
  intro g1 hg1 hg3
  rcases hnew g1 hg3 with h9 | h9
  ·
   exact h.sep g1 hg1 h9
  ·
   have := (h.ge (g := g1) (Or.inl (Or.inr (Or.inr (Or.inr (Or.inr (Or.inl hg1))))))).2
   omega
 ·
  rintro k ((rfl | rfl | rfl | rfl | hg' | hg') | hg')
  ·
   exact Or.inl (Or.inl (Or.inl rfl))
  ·
   exact Or.inl (Or.inl (Or.inr (Or.inl rfl)))
  ·
   exact Or.inl (Or.inl (Or.inr (Or.inr (Or.inl rfl))))
  ·
   rcases ho with ho | ho
   ·
    exact Or.inl (Or.inl (Or.inr (Or.inr (Or.inr (Or.inl ho)))))
   ·
    exact Or.inr ho
  ·
   exact Or.inl (Or.inl (Or.inr (Or.inr (Or.inr (Or.inr (Or.inl hg'))))))
  ·
   exact Or.inl (Or.inl (Or.inr (Or.inr (Or.inr (Or.inr (Or.inr hg'))))))
  ·
   exact (hnew k hg').imp Or.inr id
 ·
  rintro k (rfl | rfl | rfl | rfl | hg' | hg')
  ·
   exact Or.inl (Or.inl rfl)
  ·
   exact Or.inl (Or.inr (Or.inl rfl))
  ·
   exact Or.inl (Or.inr (Or.inr (Or.inl rfl)))
  ·
   rcases ho with ho | ho
   ·
    exact Or.inl (Or.inr (Or.inr (Or.inr (Or.inl ho))))
   ·
    exact Or.inr ho
  ·
   exact Or.inl (Or.inr (Or.inr (Or.inr (Or.inr (Or.inl hg')))))
  ·
   exact Or.inl (Or.inr (Or.inr (Or.inr (Or.inr (Or.inr hg')))))
 ·
  rintro g (rfl | rfl | rfl)
  ·
   exact Or.inr (Or.inl rfl)
  ·
   exact Or.inr (Or.inr (Or.inl rfl))
  ·
   exact Or.inr (Or.inr (Or.inr (Or.inl rfl)))
theorem DkMut.refl (h : DkAt w lo fq days s D) : DkMut D lo fq days s w w := ⟨s, ⟨rfl, rfl, rfl⟩, h, fun g hg => Or.inl hg, fun g hg => Or.inl hg, Kp.refl _ _ _, fun _ _ h => h⟩
theorem DkMut.then {w1 w5 w7 : World} {s1 : DkS} {D2 : Dk} (e1 : s1.d = s.d ∧ s1.p = s.p ∧ s1.y = s.y) (r1 : ∀ g, s1.rd g → s.rd g ∨ w.heap.size ≤ g) (m1 : ∀ g, s1.mt g → s.mt g ∨ w.heap.size ≤ g) (k1 : Kp w.heap.size s.mt w w1) (y1 : ∀ g, g < w.heap.size → SlAt w s.y g → SlAt w1 s.y g) (hyl : s.y < w1.heap.size) (hb : Below w1.heap.size w1 w5) (h : DkMut D2 lo fq days s1 w5 w7) : DkMut D2 lo fq days s w w7 := by
 obtain ⟨s2, e2, a2, r2, m2, k2, y2⟩ := h
 have hs : w.heap.size ≤ w5.heap.size := Nat.le_trans k1.size hb.size
 refine ⟨s2, ⟨e2.1.trans e1.1, e2.2.1.trans e1.2.1, e2.2.2.trans e1.2.2⟩, a2, fun g hg => ?_, fun g hg => ?_, kK (kT k1 hb) k2 (fun g hl hg => ?_), fun g hg hss => ?_⟩
 ·
  rcases r2 g hg with hg | hg
  ·
   exact r1 g hg
  ·
   exact Or.inr (Nat.le_trans hs hg)
 ·
  rcases m2 g hg with hg | hg
  ·
   exact m1 g hg
  ·
   exact Or.inr (Nat.le_trans hs hg)
 ·
  rcases m1 g hg with hg | hg
  ·
   exact hg
  ·
   omega
 ·
  have h3 := y1 g hg hss
  have hl := hyl
  rw [← e1.2.2] at h3 hl ⊢
  exact y2 g (Nat.lt_of_lt_of_le hg hs) (h3.same (hb.cell (p := ⟨s1.y, 1, none⟩) hl))
theorem DkAt.pt (h : DkAt w lo fq days s D) {g : Nat} {cs : Array Value} (hk : Blk w g 45 cs) (hs : SlAt w s.y g) (hg : w.grownBy W (some g)) : DkAt W lo fq days s D := by
 obtain ⟨c1, c2, c3, h1, h2, h3, h4⟩ := h.ex
 obtain ⟨K, hK, _⟩ := h.em.ex
 refine ⟨⟨c1, c2, c3, h1.grown hg (by simpa using Blk.differ h1 hk (by decide)), ?_, ?_, h4.grown hk (by decide) (by decide) hg⟩, h.em.pt hk hs hg, h.ld, h.sep⟩
 ·
  have h9 := hK.grown hg (by simpa using Blk.differ hK hk (by decide))
  exact ((h9.cell 13).trans (hK.cell 13).symm).trans h2
 ·
  obtain ⟨L, q1, q2, q3, q4⟩ := h3.ex
  exact ⟨L, q1, q2, q3.kept hg (Or.inr (obz q3 hk (by decide)).symm), fun q hq => ⟨(q4 q hq).1, (q4 q hq).2.kept hg (Or.inr (obz (q4 q hq).2 hk (by decide)).symm)⟩⟩
theorem DkMut.wrap {w0 W1 W2 W3 : World} {D2 : Dk} (hb0 : Below w.heap.size w w0) (hyl : s.y < w.heap.size) (h : DkMut D2 lo fq days s w0 W1) (hb : Below W1.heap.size W1 W2) {r0 : Nat} {cs : Array Value} (hr : Blk W2 r0 45 cs) (hr0 : w.heap.size ≤ r0) (hs : SlAt W1 s.y r0) (hg : W2.grownBy W3 (some r0)) : DkMut D2 lo fq days s w W3 := by
 obtain ⟨s1, e1, a1, r1, m1, k1, y1⟩ := h
 have hyl1 : s.y < W1.heap.size := Nat.lt_of_lt_of_le (Nat.lt_of_lt_of_le hyl hb0.size) k1.size
 have hs2 : SlAt W2 s1.y r0 := by rw [e1.2.2]; exact hs.same (hb.cell (p := ⟨s.y, 1, none⟩) hyl1)
 have a2 := a1.below hb
 have kp1 : Kp w.heap.size s.mt w W1 := kK (Kp.below hb0 (Nat.le_refl _)) k1 (fun g _ hg => hg)
 have kp2 := kT kp1 hb
 refine ⟨s1, e1, a2.pt hr hs2 hg, fun g hg => (r1 g hg).imp id (Nat.le_trans hb0.size), fun g hg => (m1 g hg).imp id (Nat.le_trans hb0.size), kp2.trans (Kp.grown hg kp2.size (fun k hk => by injection hk with hk; subst hk; exact Or.inl hr0)), fun g hg' hss => ?_⟩
 have h3 := y1 g (Nat.lt_of_lt_of_le hg' hb0.size) (hss.same (hb0.cell (p := ⟨s.y, 1, none⟩) hyl))
 obtain ⟨K, _, hKr⟩ := a2.em.ex
 obtain ⟨Ay, cy, By, dy, hy⟩ := hKr.yr
 rw [e1.2.2] at hy
 have h4 := hy.blk.grown hg (by simpa using Blk.differ hy.blk hr (by decide))
 exact (h3.same (hb.cell (p := ⟨s.y, 1, none⟩) hyl1)).same ((h4.cell 1).trans (hy.blk.cell 1).symm)
theorem Slz.keptT {w W : World} {base : Nat} {E : Int} {z Z : Sp} {A : Option Addr} {n c : Nat} {B : Option Addr} {m d : Nat} (h : Slz w base E z Z A n c B m d) {b2 s2 n2 c2 : Nat} {t : TypeId} {A2 : Option Addr} {ys : List Value} (ho : w.ownsRow b2 t s2 (.slice A2 n2 c2) n2 ys) (h1 : 79 ≠ t) (h2 : 116 ≠ t) (hg : w.grownBy W (blkO A2)) : Slz W base E z Z A n c B m d :=
 ⟨fun h0 => ⟨(h.ok h0).1, (h.ok h0).2.1, (h.ok h0).2.2.1, oK9 (h.ok h0).2.2.2.1 ho h1 hg, oK9 (h.ok h0).2.2.2.2 ho h2 hg⟩, h.no⟩
end
theorem pickD (re : Int) (X Y : Em) : ∃ Z, (re = 0 → Z = X) ∧ (re ≠ 0 → Z = Y) := by
 by_cases h : re = 0
 ·
  exact ⟨X, fun _ => rfl, fun h2 => absurd h h2⟩
 ·
  exact ⟨Y, fun h2 => absurd h2 h, fun _ => rfl⟩
theorem info_fix : (prog.info? 62).map (fun i => (i.zero, i.size, i.bytes)) = some (some (.agg #[.int .i64 0, .slice none 0 0, .int .i64 0]), 3, 40) := by kernel_rfl
--%
theorem dfix_c (fq days : Int) (lo : Nat) (s : DkS) (D : Dk) (k : Int) (A : Option Addr) (m c : Nat) (l : List El) (w : World) (h : DkAt w lo fq days s D) (hk : DkOK fq days D) (hl : ∀ W, Kp w.heap.size s.mt w W → ElSl W A m l) (hm : m ≤ 1000) (re : Int) (D' : Dk) (he : Hid (re = dfixE D (nIz fq) (cntI fq days) k l)) (h1 : Hid (re = 0 → D' = dfixV D k l)) (h2 : Hid (re ≠ 0 → D' = D)) :
  Calls prog 24 #[.pointer (some ⟨s.d, 0, none⟩), .int .i64 k, .slice A m c] w fun e w' => e = .returned (.int .i64 re) ∧ DkMut D' lo fq days s w w' := by
 have HD := hid h
 have HL := hid hl
 have HK := hid hk
 obtain ⟨c1, c2, c3, hB, h13, hFx, hFs⟩ := h.ex
 obtain ⟨re0, hre0⟩ : ∃ r, r = replE D.e (nIz fq) (cntI fq days) k l := ⟨_, rfl⟩
 obtain ⟨E1, hp1, hp2⟩ := pickD re0 (replV D.e k l) D.e
 have KR := hid (rrepl_c fq days lo lo s.p s.y s.o D.e k A m c l w h.em hk.e (hl w (Kp.refl _ _ _)) hm re0 E1 hre0 hp1 hp2)
 have HP1 := hid hp1
 have HP2 := hid hp2
 have HR0 := hid hre0
 have HB := hid hB
 have HM : Hid (m = l.length) := (hl w (Kp.refl _ _ _)).1
 obtain ⟨nx, hnx⟩ : ∃ n, n = D.fx.length := ⟨_, rfl⟩
 obtain ⟨n1, hn1⟩ : ∃ n, n = D.fs.length := ⟨_, rfl⟩
 have HNX := hid hnx
 have HN1 := hid hn1
 have HNL : Hid (nx ≤ 256 ∧ n1 ≤ 1000) := by have h3 := hk.fx; have h4 := hk.fs; have h5 := hk.e.ins53; unfold Hid; omega
 rw [← hnx, ← hn1] at HB
 unfold RepR at KR
 have d0 := HB.out.cv 0 (.pointer (some ⟨s.p, 0, none⟩)) rfl
 have d1 := HB.out.cv 1 (.slice s.A2 nx c2) rfl
 clear hB h13 hFx hFs hk hl hre0 hp1 hp2 hnx hn1 h
 go_enter func24, ntmps24
 by_cases z : nx = 256
 case pos =>
  subst z
  have q1 : (((256 : Nat) : Int) == 256) = true := rfl
  have HE : Hid (re = 2) := he.out.trans (by unfold dfixE; rw [if_pos HNX.out.symm])
  go_wp2_with fail
  refine bodyPost_ret (v := .int .i64 2) (by simp [results, results24, go_sem]) rfl ⟨by rw [HE.out], ?_⟩
  rw [h2.out (by rw [HE.out]; decide)]
  exact DkMut.refl HD.out
 have q1 : ((nx : Int) == 256) = false := by simp; omega
 have HE : Hid (re = re0) := he.out.trans (by unfold dfixE; rw [if_neg (by rw [← HNX.out]; exact z)]; exact HR0.out.symm)
 go_wp2_with fail
 refine KR.out.mono ?_
 rintro e w1 ⟨rfl, ⟨li, hE⟩, hkp, hc0, hc1⟩
 clear q1 z d0 d1
 by_cases h0 : re0 = 0
 case neg =>
  have tr : (re0 != 0) = true := by simpa using h0
  go_wp2_with fail
  refine bodyPost_ret (v := .int .i64 re0) (by simp [results, results24, go_sem]) rfl ⟨by rw [HE.out], ?_⟩
  rw [h2.out (by rw [HE.out]; exact h0)]
  have e9 := HP2.out h0
  rw [e9] at hE
  exact HD.out.act hE (fx23 hkp) (hc0 h0) rfl (HD.out.em.slk2 hkp)
 have e9 := HP1.out h0
 rw [e9] at hE
 have hmu := HD.out.actN hE (Or.inl rfl) (fx23 hkp) (Or.inr (hc1 h0)) (HD.out.em.slk2 hkp)
 have HV := hid (h1.out (HE.out.trans h0))
 subst h0
 clear hE hkp hc0 hc1 e9 HP1 HP2 HR0 h1 h2 he
 obtain ⟨s1, e1, a1, r1, m1, k1, y1⟩ := hmu
 obtain ⟨k1c, k2c, k3c, hB1, _, hFx1, _⟩ := a1.ex
 dsimp only at hB1 hFx1
 rw [e1.1, ← HNX.out, ← HN1.out] at hB1
 rw [← HNX.out] at hFx1
 obtain ⟨xs, hxs, happ⟩ := hFx1.app
 have HB1 := hid hB1
 have HXS := hid hxs
 have HAPP := hid happ
 have HA1 := hid a1
 have HR1 := hid (⟨e1, r1, m1, k1, y1⟩ : _ ∧ _ ∧ _ ∧ _ ∧ _)
 have HYL : Hid (s.y < w1.heap.size) := by have h9 := a1.em.lt.2.1; rw [e1.2.2] at h9; exact h9
 have hlo : lo ≤ w1.heap.size := by have := a1.em.lp; have := a1.em.lt.1; omega
 have HLO := hid hlo
 have KC := hid (fun W (hW : Below w1.heap.size w1 W) => clone_el A m c l W ((HL.out w1 k1).below hW) (by omega))
 clear hB1 hFx1 hxs happ a1 e1 r1 m1 k1 y1 hlo HL HB
 go_wp2_with fail
 have HNE : Hid (∀ (W5 W6 : World), Below w1.heap.size w1 W5 → W5.grownBy W6 (blkO s1.A2) → Blk W6 s.d 55 #[.pointer (some ⟨s1.p, 0, none⟩), .slice s1.A2 nx k2c, .slice s1.A1 n1 k1c]) := fun W5 W6 hb hg => (HB1.out.t hb).grown hg (by
  intro he
  obtain ⟨⟨cs, hb2⟩, _⟩ := otz HXS.out he.symm
  exact Blk.differ HB1.out hb2 (by decide) rfl)
 have G : Hid (∀ W, Blk W s.d 55 #[.pointer (some ⟨s1.p, 0, none⟩), .slice s1.A2 nx k2c, .slice s1.A1 n1 k1c] → W.cell? ⟨s.d, 1, none⟩ = some (.slice s1.A2 nx k2c) ∧ W.cell? ⟨s.d, 2, none⟩ = some (.slice s1.A1 n1 k1c)) := fun W hW => ⟨hW.cv 1 _ rfl, hW.cv 2 _ rfl⟩
 refine wRz (fun W => W.cell? ⟨s.d, 1, none⟩ = some (.slice s1.A2 nx k2c) ∧ W.cell? ⟨s.d, 2, none⟩ = some (.slice s1.A1 n1 k1c)) 18 (by kernel_rfl) (G.out _ (HB1.out.t (b0 w1).drew)) (fun hH9 => ?_)
 refine tkG 0 (h := ?_)
 refine tkG 1 (h := ?_)
 refine tkG 2 (h := ?_)
 refine tkG 3 (h := ?_)
 refine tkG 4 (h := ?_)
 refine tkG 5 (h := ?_)
 refine tkG 6 (h := ?_)
 refine tkG 8 (h := ?_)
 refine tkG 9 (h := ?_)
 refine tkG 10 (h := ?_)
 refine tkG 11 (h := ?_)
 refine tkG 12 (h := ?_)
 refine tkO 7 (h := fun K hK => ?_)
 go_simp
 go_at_call 47
 refine (KC.out _ (b0 w1).drew).mono ?_
 rintro e w5 ⟨⟨A5, c5, rfl, hoc⟩, hb5⟩
 have hB5 : Below w1.heap.size w1 w5 := bT (b0 _).drew hb5
 have HOC := hid hoc
 clear hoc
 refine shG hK (G.out _ (HB1.out.t hB5)) (h := fun hH9 => ?_)
 clear hK K
 refine tkG 13 (h := ?_)
 refine tkO 14 (h := fun K hK => ?_)
 go_simp
 refine shG hK (G.out _ (HB1.out.t (bA hB5 _))) (h := fun hH9 => ?_)
 clear hK K
 refine tkO 15 (h := fun K hK => ?_)
 obtain ⟨v6, w6, hr, ho6, hg6, hw6⟩ := run_app1W (P := prog) w5 52 52 62 _ 3 40 underlying52 info_fix rfl (by decide) (oB9 HXS.out hB5) #[.int .i64 k, .slice A5 m c5, .int .i64 n1] rfl (fxp_one ⟨⟨k, l, n1⟩, A5, m, c5⟩) (by have := HNL.out; omega) (by have := HNL.out; omega) (Nat.le_trans HLO.out hB5.size)
 rw [bOz] at hg6 hw6
 obtain ⟨A6, c6, rfl⟩ := oL9 ho6
 have HR := hid hr
 have HO6 := hid ho6
 have HG6 := hid hg6
 have HW6 := hid hw6
 have hB6 := HNE.out w5 w6 hB5 hg6
 clear hr ho6 hg6 hw6
 have q6 := hB6.free 1
 have p6 := hB6.cv 1 (.slice s1.A2 nx k2c) rfl
 refine step_of_run rfl _ _ _ rfl _ _ rfl rfl _ _ HR.out ?_
 refine shG hK (G.out _ hB6) (h := fun hH9 => ?_)
 clear hK K
 refine tkG 16 (h := ?_)
 refine tkG 17 (h := ?_)
 refine wL9 (i := 18) (by kernel_rfl) rfl (by decide) (fun K hK => ?_)
 go_simp
 refine hK.out _ _ (wD9 (by kernel_rfl) ?_ _)
 clear hK K
 clear G hH9 KC HR p6 q6
 simp only [Exit.then]
 go_wp2_with fail
 refine bodyPost_ret (v := .int .i64 0) (by simp [results, results24, go_sem]) rfl ⟨by rw [HE.out], ?_⟩
 rw [HV.out]
 have a5 := HA1.out.below hB5
 have hq : w6.ownsRow lo 98 3 (.slice A5 m c5) m (l.flatMap elC) := oK9 (oM9 HOC.out (Nat.le_trans HLO.out (b0 w1).drew.size)) (oB9 HXS.out hB5) (by decide) HG6.out
 have ho := HAPP.out w5 w6 A6 c6 ⟨⟨k, l, n1⟩, A5, m, c5⟩ hB5 HG6.out HO6.out HM.out hq
 skip
 rw [HNX.out] at ho
 obtain ⟨e1, r1, m1, k1, y1⟩ := HR1.out
 have hB5b := HB1.out.t hB5
 rw [← e1.1] at hB5b
 have hpf := a5.putFx hB5b HG6.out ho (by have h9 := HW6.out; rw [bOz] at h9; exact h9)
 rw [e1.1] at hpf
 rw [← HNX.out] at hpf
 have hfin := DkMut.then e1 r1 m1 k1 y1 HYL.out hB5 hpf
 unfold dfixV
 rw [← HN1.out]
 exact hfin
def FxR (l : List Fx) (w : World) (e : Ending) (w' : World) : Prop := (∃ A c, e = .returned (.slice A l.length c) ∧ FxOwn w' w.heap.size w.heap.size A l.length c l) ∧ Below w.heap.size w w'
theorem dfixes_c (fq days : Int) (lo : Nat) (s : DkS) (D : Dk) (w : World) (h : DkAt w lo fq days s D) (hk : DkOK fq days D) :
  Calls prog 15 #[.pointer (some ⟨s.d, 0, none⟩)] w (FxR D.fx w) := by
 obtain ⟨c1, c2, c3, hB, _, hFx, _⟩ := h.ex
 obtain ⟨L, hL1, hL2, hL3⟩ := hFx.view.ex
 obtain ⟨ys, hys⟩ : ∃ ys, ys = D.fx := ⟨_, rfl⟩
 have hz := fun f hf => (hk.each f hf).2.2
 have hl := hk.fx
 rw [← hys] at hB hL1 hL2 hz hl ⊢
 have d1 : w.cell? ⟨s.d, 1, none⟩ = some (.slice s.A2 ys.length c2) := hB.cv 1 _ rfl
 obtain ⟨n, hn⟩ : ∃ n, n = ys.length := ⟨_, rfl⟩
 rw [← hn] at d1 hL2 hl
 have HR := hid hL2
 have HN2 : Hid (n = L.length) := hL2.1
 have KC : Hid (∀ q ∈ L, ∀ W, Below w.heap.size w W → Calls prog 47 #[.slice q.A q.n q.c] W (CloneV 98 3 q.n (q.z.l.flatMap elC) W)) := fun q hq W hW => by
  have hq2 := hz q.z (by rw [← hL1]; exact List.mem_map_of_mem hq)
  have h3 := hL3 q hq
  exact clone_el q.A q.n q.c q.z.l W (h3.below hW) (by have := h3.1; omega)
 have HQN : Hid (∀ q ∈ L, q.n = q.z.l.length) := fun q hq => (hL3 q hq).1
 have HL1 := hid hL1
 have HNN := hid hn
 have hn9 : n ≤ 9223372036854775807 := by omega
 unfold FxR
 rw [← hn]
 clear h hz hL1 hL2 hL3 hys hn hk hB hFx
 go_enter func15, ntmps15
 go_wp2_with fail
 go_loopw [3, 11] (fun o i wr => ∃ (k : Nat) (A' : Option Addr) (c' : Nat), k ≤ n ∧ i = .int .i64 k ∧ o = .slice A' k c' ∧ Hid (FxOwn wr w.heap.size w.heap.size A' k c' (ys.take k)) ∧ Below w.heap.size w wr) (fun _ i _ => n - (intOf i).toNat)
 case atStart => exact ⟨0, none, 0, Nat.zero_le _, rfl, rfl, hid (FxOwn.nil _ _ _), b0 w⟩
 case round =>
  obtain ⟨k, A', c', hk', rfl, rfl, HO, hbl⟩ := hrel
  by_cases hk : k < n
  case neg =>
   obtain rfl : k = n := by omega
   go_wp2_with fail
   refine bodyPost_ret (v := .slice A' k c') (by simp [results, results15, go_sem]) rfl ⟨⟨A', c', rfl, ?_⟩, hbl⟩
   have h9 := HO.out
   rw [HNN.out, List.take_length] at h9
   rw [HNN.out]
   exact h9
  obtain ⟨b, off, hA, hlt, hat⟩ := (HR.out.below hbl).2.2 (by omega)
  rw [hA]
  have hc := hat k hk
  have hqm := gez' fxp0 (l := L) (k := k) (by rw [← HN2.out]; exact hk)
  have HTK : Hid (ys.take (k + 1) = ys.take k ++ [(L.getD k fxp0).z]) := by
   unfold Hid
   rw [← HL1.out]
   have h1 := take_next (L.map FxP.z) k fxp0.z (by rw [List.length_map, ← HN2.out]; exact hk)
   rw [h1, gmz' FxP.z L k fxp0 (by rw [← HN2.out]; exact hk)]
  have KC1 := hid (KC.out _ hqm)
  have HM := hid (HQN.out _ hqm)
  clear hat hqm hA
  generalize L.getD k fxp0 = q at *
  obtain ⟨⟨fk, fl, fa⟩, A2, m2, c2'⟩ := q
  obtain ⟨x0, x1, x2⟩ : wr.cell? ⟨b, off + k * 3, none⟩ = some (.int .i64 fk) ∧ wr.cell? ⟨b, off + k * 3 + 1, none⟩ = some (.slice A2 m2 c2') ∧ wr.cell? ⟨b, off + k * 3 + 2, none⟩ = some (.int .i64 fa) := ⟨hc 0 _ rfl, hc 1 _ rfl, hc 2 _ rfl⟩
  dsimp only at KC1 HTK HM
  unfold CloneV at KC1
  obtain ⟨xs, hxs, happ⟩ := HO.out.app
  have HXS := hid hxs
  have HAPP := hid happ
  have hb1 := bA hbl (.cells #[.int .i64 fk, .slice A2 m2 c2', .int .i64 fa] 62)
  have HY := hid (Blk.mk wr 62 #[.int .i64 fk, .slice A2 m2 c2', .int .i64 fa])
  have y1 := HY.out.cv 1 (.slice A2 m2 c2') rfl
  clear hc hxs happ
  go_wp2_with fail
  refine (KC1.out _ hb1).mono ?_
  rintro e w2 ⟨⟨A5, c5', rfl, hoc⟩, hb2⟩
  clear y1 x0 x1 x2
  have HB2 := hid (bT (bz1 wr (.cells #[.int .i64 fk, .slice A2 m2 c2', .int .i64 fa] 62)) hb2)
  have HOC := hid hoc
  have HY2 := hid (HY.out.t hb2)
  have HB3 : Hid (Below wr.heap.size wr (w2.setCell ⟨wr.heap.size, 1, none⟩ (.slice A5 m2 c5'))) := bSg HB2.out (Nat.le_refl _) 1 _
  have HX3 : Hid ((w2.setCell ⟨wr.heap.size, 1, none⟩ (.slice A5 m2 c5')).ownsRow w.heap.size 62 3 (.slice A' k c') k xs) := oB9 HXS.out HB3.out
  have HO3 : Hid ((w2.setCell ⟨wr.heap.size, 1, none⟩ (.slice A5 m2 c5')).ownsRow w.heap.size 98 3 (.slice A5 m2 c5') m2 (fl.flatMap elC)) := oS9 (oM9 HOC.out (Nat.le_trans hbl.size (bz1 wr _).size)) HY2.out (by decide) 1 _
  have HS3 : Hid (w.heap.size ≤ (w2.setCell ⟨wr.heap.size, 1, none⟩ (.slice A5 m2 c5')).heap.size) := Nat.le_trans hbl.size HB3.out.size
  obtain ⟨y0, y1, y2, z0, z1, z2⟩ := HY2.out.af3
  clear hoc hb1 hb2
  go_wp2_with (at_builtin; refine wa9 _ rfl _ _ 52 rfl 62 _ 3 40 underlying52 info_fix rfl (by decide) rfl HX3.out #[.int .i64 fk, .slice A5 m2 c5', .int .i64 fa] rfl (by first | rfl | simp) rfl (fxp_one ⟨⟨fk, fl, fa⟩, A5, m2, c5'⟩) (by omega) (by omega) HS3.out ?_; intro v' w6 ho' hg)
  obtain ⟨A6, c6, rfl⟩ := oL9 ho'
  replace hg : (w2.setCell ⟨wr.heap.size, 1, none⟩ (.slice A5 m2 c5')).grownBy w6 (blkO A') := bOz A' k c' ▸ (show World.grownBy _ w6 (Value.slice A' k c').ownBlock from hg)
  have hq6 := oK9 HO3.out HX3.out (by decide) hg
  have hfin := HAPP.out _ w6 A6 c6 ⟨⟨fk, fl, fa⟩, A5, m2, c5'⟩ HB3.out hg ho' HM.out hq6
  have HFIN := hid hfin
  have hb6 : Below w.heap.size w w6 := bP (bT hbl HB3.out) HX3.out (by rw [bOz]; exact hg) (Nat.le_refl _)
  clear hfin hq6 ho' hg y0 y1 y2 z0 z1 z2
  go_roundw
  case rel => exact ⟨k + 1, A6, c6, by omega, by go_num, rfl, (by unfold Hid; rw [HTK.out]; exact HFIN.out), hb6⟩
  case measure => simp [intOf]; omega
theorem dfirst_c (fq days : Int) (lo : Nat) (s : DkS) (D : Dk) (w : World) (h : DkAt w lo fq days s D) (hk : DkOK fq days D) :
  Calls prog 16 #[.pointer (some ⟨s.d, 0, none⟩)] w (InsR D.fs w) := by
 obtain ⟨c1, c2, c3, hB, _, _, hFs⟩ := h.ex
 have d2 : w.cell? ⟨s.d, 2, none⟩ = some (.slice s.A1 D.fs.length c1) := hB.cv 2 _ rfl
 have KK := hid (dcopied_c s.A1 D.fs.length c1 D.fs w hFs.view (by have h4 := hk.fs; have h5 := hk.e.ins53; omega) hk.fl)
 clear h hk hB hFs
 go_enter func16, ntmps16
 go_wp2_with fail
 refine KK.out.mono ?_
 rintro e w1 ⟨⟨A1, c1', rfl, ho⟩, hb⟩
 go_wp2_with fail
 refine bodyPost_ret (v := .slice A1 D.fs.length c1') (by simp [results, results16, go_sem]) rfl ⟨⟨A1, c1', rfl, ho⟩, hb⟩
structure PD (w0 : World) (fq days : Int) (W : World) (s : DkS) (D : Dk) : Prop where
 bl : Below w0.heap.size w0 W
 ex : ∃ lo, w0.heap.size ≤ lo ∧ DkAt W lo fq days s D
 ok : DkOK fq days D
def DMut (w0 : World) (D' : Dk) (fq days : Int) (s : DkS) (W W' : World) : Prop :=
 ∃ s', (s'.d = s.d ∧ s'.p = s.p ∧ s'.y = s.y) ∧ PD w0 fq days W' s' D' ∧ (∀ g, s'.rd g → s.rd g ∨ W.heap.size ≤ g) ∧ (∀ g, s'.mt g → s.mt g ∨ W.heap.size ≤ g) ∧ Kp W.heap.size s.mt W W' ∧ ∀ g, g < W.heap.size → SlAt W s.y g → SlAt W' s.y g
section
variable {w0 w1 W W' : World} {fq days : Int} {s s2 : DkS} {D D' : Dk}
theorem PD.below (h : PD w0 fq days W s D) (hb : Below W.heap.size W W') : PD w0 fq days W' s D := by
 obtain ⟨lo, h0, hD⟩ := h.ex
 exact ⟨bT h.bl hb, ⟨lo, h0, hD.below hb⟩, h.ok⟩
theorem PD.ge (h : PD w0 fq days W s D) {g : Nat} (hg : s.rd g) : w0.heap.size ≤ g ∧ g < W.heap.size := by
 obtain ⟨lo, h0, hD⟩ := h.ex
 exact ⟨Nat.le_trans h0 (hD.ge hg).1, (hD.ge hg).2⟩
theorem PD.tyd (h : PD w0 fq days W s D) : TyD s.mt W := by
 obtain ⟨lo, h0, hD⟩ := h.ex
 exact hD.tyd
theorem PD.kp (h : PD w0 fq days W s D) (hk : Kp W.heap.size s.mt W W') : Below w0.heap.size w0 W' := below_kp h.bl hk fun g hg => (h.ge (Or.inl hg)).1
theorem PD.mut (h : PD w0 fq days W s D) {lo : Nat} (h0 : w0.heap.size ≤ lo) (hm : DkMut D' lo fq days s W W') (hok : DkOK fq days D') : DMut w0 D' fq days s W W' := by
 obtain ⟨s', e, a, r, m, k, y⟩ := hm
 exact ⟨s', e, ⟨h.kp k, ⟨lo, h0, a⟩, hok⟩, r, m, k, y⟩
theorem PD.blk (h : PD w0 fq days W s D) (hk : Kp W.heap.size s.mt W W') {g : Nat} {T : TypeId} {cs : Array Value} (hb : Blk W g T cs) (hT : mtD T = false) : Blk W' g T cs := hb.fy h.tyd hk hT
theorem PD.own (h : PD w0 fq days W s D) (hk : Kp W.heap.size s.mt W W') {base size n : Nat} {e : TypeId} {v : Value} {xs : List Value} (ho : W.ownsRow base e size v n xs) (he : mtD e = false) : W'.ownsRow base e size v n xs := own_fy ho h.tyd hk he
theorem PD.other (h : PD w1 fq days W s2 D') (hp : PD w0 fq days W s D) (hk : Kp W.heap.size s.mt W W') (hb : Below w1.heap.size w1 W') (hx : ∀ g, s2.rd g → ¬ s.mt g) : PD w1 fq days W' s2 D' := by
 obtain ⟨lo, h0, hD⟩ := h.ex
 exact ⟨hb, ⟨lo, h0, hD.fy hp.tyd hk hx⟩, h.ok⟩
theorem PD.desk (h : PD w0 fq days W s D) : ∃ c1 c2, Blk W s.d 55 #[.pointer (some ⟨s.p, 0, none⟩), .slice s.A2 D.fx.length c2, .slice s.A1 D.fs.length c1] := by
 obtain ⟨lo, h0, hD⟩ := h.ex
 obtain ⟨c1, c2, c3, h1, _⟩ := hD.ex
 exact ⟨c1, c2, h1⟩
theorem PD.pe (h : PD w0 fq days W s D) : PE w0 fq days W s.p s.y s.o D.e := by
 obtain ⟨lo, h0, hD⟩ := h.ex
 exact ⟨h.bl, ⟨lo, lo, h0, hD.em⟩, h.ok.e⟩
theorem pd_pay (h : PD w0 fq days W s D) {A : Option Addr} {m c : Nat} {l : List El} (hl : ElSl W A m l) (hm : m ≤ 1000) (re : Int) (E' : Em) (he : Hid (re = payE D.e (cntI fq days) l)) (h1 : Hid (re = 0 → E' = payV D.e l)) (h2 : Hid (re ≠ 0 → E' = D.e)) :
  Calls Tryz.prog 34 #[.pointer (some ⟨s.p, 0, none⟩), .slice A m c] W fun e W' => e = .returned (.int .i64 re) ∧ DMut w0 { D with e := E' } fq days s W W' := by
 obtain ⟨lo, h0, hD⟩ := h.ex
 refine (rpay_c fq days lo lo s.p s.y s.o D.e A m c l W hD.em h.ok.e hl hm re E' he h1 h2).mono ?_
 rintro e W' ⟨e1, ⟨li', hE'⟩, hk, hc⟩
 have hn : E'.ins.length = D.e.ins.length := by
  by_cases hr : re = 0
  ·
   rw [h1.out hr]; rfl
  ·
   rw [h2.out hr]
 refine ⟨e1, h.mut h0 (hD.act hE' (fx23 hk) hc hn (hD.em.slk2 hk)) (h.ok.act ?_ hn)⟩
 by_cases hr : re = 0
 ·
  rw [h1.out hr]; exact h.ok.e.pay (he.out.symm.trans hr)
 ·
  rw [h2.out hr]; exact h.ok.e
theorem pd_code (h : PD w0 fq days W s D) (c : Cd) (re : Int) (E' : Em) (he : Hid (re = codeE D.e (cntI fq days) c)) (h1 : Hid (re = 0 → E' = codeV D.e c)) (h2 : Hid (re ≠ 0 → E' = D.e)) :
  Calls Tryz.prog 39 #[.pointer (some ⟨s.p, 0, none⟩), .agg #[.int .i64 c.s, .int .i64 c.k, .int .i64 c.a, .int .i64 c.f, .bool c.al]] W fun e W' => e = .returned (.int .i64 re) ∧ DMut w0 { D with e := E' } fq days s W W' := by
 obtain ⟨lo, h0, hD⟩ := h.ex
 refine (rcodeset_c fq days lo lo s.p s.y s.o D.e c.s c.k c.a c.f c.al W hD.em h.ok.e re E' he h1 h2).mono ?_
 rintro e W' ⟨e1, ⟨li', hE'⟩, hk, hc⟩
 have hn : E'.ins.length = D.e.ins.length := by
  by_cases hr : re = 0
  ·
   rw [h1.out hr]; rfl
  ·
   rw [h2.out hr]
 refine ⟨e1, h.mut h0 (hD.act hE' (fx23 hk) hc hn (hD.em.slk2 hk)) (h.ok.act ?_ hn)⟩
 by_cases hr : re = 0
 ·
  rw [h1.out hr]; exact h.ok.e.code c
 ·
  rw [h2.out hr]; exact h.ok.e
theorem pd_prot (h : PD w0 fq days W s D) (x : Int) (re : Int) (E' : Em) (he : Hid (re = protE x)) (h1 : Hid (re = 0 → E' = protV D.e x)) (h2 : Hid (re ≠ 0 → E' = D.e)) :
  Calls Tryz.prog 42 #[.pointer (some ⟨s.p, 0, none⟩), .int .i64 x] W fun e W' => e = .returned (.int .i64 re) ∧ DMut w0 { D with e := E' } fq days s W W' := by
 obtain ⟨lo, h0, hD⟩ := h.ex
 refine (rprotect_c fq days lo lo s.p s.y s.o D.e x W hD.em re E' he h1 h2).mono ?_
 rintro e W' ⟨e1, ⟨li', hE'⟩, hk, hc⟩
 have hn : E'.ins.length = D.e.ins.length := by
  by_cases hr : re = 0
  ·
   rw [h1.out hr]; rfl
  ·
   rw [h2.out hr]
 refine ⟨e1, h.mut h0 (hD.act hE' (fx23 hk) hc hn (hD.em.slk2 hk)) (h.ok.act ?_ hn)⟩
 by_cases hr : re = 0
 ·
  rw [h1.out hr]; exact h.ok.e.prot x
 ·
  rw [h2.out hr]; exact h.ok.e
theorem ordEV_ins (E : Em) (z : Od) : (ordEV E z).ins = E.ins := by unfold ordEV; rfl
theorem canEV_ins (E : Em) (id : Int) : (canEV E id).ins = E.ins := by unfold canEV; split <;> rfl
theorem pd_order (h : PD w0 fq days W s D) (id pr am ra tt : Int) :
  Calls Tryz.prog 40 #[.pointer (some ⟨s.p, 0, none⟩), .agg #[.int .i64 id, .int .i64 pr, .int .i64 am, .int .i64 ra, .int .i64 tt]] W fun e W' => e = .returned (.int .i64 (addE D.e.bk ⟨id, pr, am, ra, tt, 0, 0⟩)) ∧ DMut w0 { D with e := ordEV D.e ⟨id, pr, am, ra, tt, 0, 0⟩ } fq days s W W' := by
 obtain ⟨lo, h0, hD⟩ := h.ex
 refine (rorder_c fq days lo lo s.p s.y s.o D.e id pr am ra tt W hD.em h.ok.e.bk.len h.ok.e.so).mono ?_
 rintro e W' ⟨e1, ⟨li', hE'⟩, hk, hc⟩
 have hn : (ordEV D.e ⟨id, pr, am, ra, tt, 0, 0⟩).ins.length = D.e.ins.length := by rw [ordEV_ins]
 exact ⟨e1, h.mut h0 (hD.act hE' (fx23 hk) hc hn (hD.em.slk2 hk)) (h.ok.act (h.ok.e.ord ⟨rfl, rfl⟩) hn)⟩
theorem pd_cancel (h : PD w0 fq days W s D) (id : Int) :
  Calls Tryz.prog 41 #[.pointer (some ⟨s.p, 0, none⟩), .int .i64 id] W fun e W' => e = .returned (.int .i64 (canE D.e.bk id)) ∧ DMut w0 { D with e := canEV D.e id } fq days s W W' := by
 obtain ⟨lo, h0, hD⟩ := h.ex
 refine (rcancel_c fq days lo lo s.p s.y s.o D.e id W hD.em h.ok.e.bk.len).mono ?_
 rintro e W' ⟨e1, ⟨li', hE'⟩, hk, hc⟩
 have hn : (canEV D.e id).ins.length = D.e.ins.length := by rw [canEV_ins]
 exact ⟨e1, h.mut h0 (hD.act hE' (fx23 hk) hc hn (hD.em.slk2 hk)) (h.ok.act (h.ok.e.can id) hn)⟩
end
theorem pd_new {w0 W : World} {fq days : Int} {p y o : Nat} {E : Em} (h : PE w0 fq days W p y o E) :
  Calls prog 33 #[.pointer (some ⟨p, 0, none⟩)] W fun e W' => (∃ s : DkS, e = .returned (.tuple #[.pointer (some ⟨s.d, 0, none⟩), .int .i64 0]) ∧ PD w0 fq days W' s (dnewV E) ∧ W.heap.size ≤ s.d) ∧ Below W.heap.size W W' := by
 have HP := hid h
 have KI := hid (pe_inputs h)
 unfold InsR at KI
 clear h
 go_enter func33, ntmps33
 go_wp2_with fail
 refine KI.out.mono ?_
 rintro e W1 ⟨⟨A, c, rfl, hin⟩, hb⟩
 go_wp2_with fail
 have HIN := hid hin
 clear hin
 refine bodyPost_ret (v := .tuple #[.pointer (some ⟨W1.heap.size, 0, none⟩), .int .i64 0]) (by simp [results, results33, go_sem]) rfl ⟨?_, bA hb _⟩
 obtain ⟨lo, li, h0, hE⟩ := HP.out.em
 obtain ⟨K, hK, hKr⟩ := hE.ex
 have hb1 := bz1 W1 (.cells #[.pointer (some ⟨p, 0, none⟩), .slice none 0 0, .slice A E.ins.length c] 55)
 have hlo : lo ≤ W.heap.size := Nat.le_trans hE.lp (Nat.le_of_lt hE.lt.1)
 refine ⟨⟨W1.heap.size, p, y, o, A, none, K.Ai⟩, rfl, ⟨bT HP.out.bl (bA hb _), ⟨lo, h0, ⟨⟨c, 0, K.ci, Blk.mk W1 55 #[.pointer (some ⟨p, 0, none⟩), .slice none 0 0, .slice A E.ins.length c], ?_, FxOwn.nil _ _ _, (HIN.out.more hlo hlo).below hb1⟩, (hE.low.below hb).below hb1, Nat.le_trans hlo hb.size, ?_⟩⟩, DkOK.new HP.out.ok⟩, hb.size⟩
 ·
  exact (((hK.t hb).t hb1).cell 13).trans rfl
 ·
  intro g hg hg3
  obtain ⟨L, _, _, h5, _⟩ := HIN.out.ex
  obtain ⟨L2, _, _, h6, _⟩ := hKr.ins.ex
  have h7 := (otz h5 hg).2
  have h8 := (h6.lt g ((bOz _ _ _).trans hg3)).2
  omega
theorem retro_nil (W : World) : Calls prog 33 #[.pointer none] W fun e W' => e = .returned (.tuple #[.pointer none, .int .i64 3]) ∧ W = W' := by
 go_enter func33, ntmps33
 go_wp2_with fail
 refine bodyPost_ret (v := .tuple #[.pointer none, .int .i64 3]) (by simp [results, results33, go_sem]) rfl ⟨rfl, rfl⟩
theorem pd_fixes {w0 W : World} {fq days : Int} {s : DkS} {D : Dk} (h : PD w0 fq days W s D) : Calls prog 15 #[.pointer (some ⟨s.d, 0, none⟩)] W (FxR D.fx W) := by
 obtain ⟨lo, h0, hD⟩ := h.ex
 exact dfixes_c fq days lo s D W hD h.ok
theorem pd_first {w0 W : World} {fq days : Int} {s : DkS} {D : Dk} (h : PD w0 fq days W s D) : Calls prog 16 #[.pointer (some ⟨s.d, 0, none⟩)] W (InsR D.fs W) := by
 obtain ⟨lo, h0, hD⟩ := h.ex
 exact dfirst_c fq days lo s D W hD h.ok
theorem pd_clone {w0 W : World} {fq days : Int} {s : DkS} {D : Dk} (h : PD w0 fq days W s D) :
  Calls prog 23 #[.pointer (some ⟨s.d, 0, none⟩)] W fun e W' => (∃ s2 : DkS, e = .returned (.pointer (some ⟨s2.d, 0, none⟩)) ∧ PD W fq days W' s2 D) ∧ Below W.heap.size W W' := by
 have HP := hid h
 obtain ⟨c1, c2, hB⟩ := h.desk
 have d0 := hB.cv 0 (.pointer (some ⟨s.p, 0, none⟩)) rfl
 have KE := hid (pe_clone h.pe)
 clear hB h
 go_enter func23, ntmps23
 go_wp2_with fail
 refine KE.out.mono ?_
 rintro e W1 ⟨⟨q, y2, o2, rfl, hq⟩, hb1⟩
 have HQ := hid hq
 clear d0 KE hq
 have KF := hid (pd_fixes (HP.out.below hb1))
 unfold FxR at KF
 go_wp2_with fail
 refine KF.out.mono ?_
 rintro e W2 ⟨⟨A2, k2, rfl, hf⟩, hb2⟩
 have HF := hid hf
 clear KF hf
 have KS := hid (pd_first ((HP.out.below hb1).below hb2))
 unfold InsR at KS
 go_wp2_with fail
 refine KS.out.mono ?_
 rintro e W3 ⟨⟨A1, k1, rfl, hi⟩, hb3⟩
 have HI := hid hi
 clear KS hi
 go_wp2_with fail
 have hb13 := bT (bT hb1 hb2) hb3
 refine bodyPost_ret (v := .pointer (some ⟨W3.heap.size, 0, none⟩)) (by simp [results, results23, go_sem]) rfl ⟨?_, bA hb13 _⟩
 obtain ⟨lo, li, h0, hE⟩ := HQ.out.em
 obtain ⟨K, hK, hKr⟩ := hE.ex
 have hE2 := ((hE.low.below hb2).below hb3)
 have hb4 := bz1 W3 (.cells #[.pointer (some ⟨q, 0, none⟩), .slice A2 D.fx.length k2, .slice A1 D.fs.length k1] 55)
 have hlo1 : W.heap.size ≤ W1.heap.size := hb1.size
 have hlo : lo ≤ W1.heap.size := Nat.le_trans hE.lp (Nat.le_of_lt hE.lt.1)
 refine ⟨⟨W3.heap.size, q, y2, o2, A1, A2, K.Ai⟩, rfl, ⟨bA hb13 _, ⟨lo, h0, ⟨⟨k1, k2, K.ci, Blk.mk W3 55 #[.pointer (some ⟨q, 0, none⟩), .slice A2 D.fx.length k2, .slice A1 D.fs.length k1], ?_, ((HF.out.more hlo hlo).below hb3).below hb4, (HI.out.more (Nat.le_trans hlo hb2.size) (Nat.le_trans hlo hb2.size)).below hb4⟩, hE2.below hb4, Nat.le_trans hlo (Nat.le_trans hb2.size hb3.size), ?_⟩⟩, HP.out.ok⟩⟩
 ·
  exact ((((hK.t hb2).t hb3).t hb4).cell 13).trans rfl
 ·
  intro g hg hg3
  obtain ⟨L, _, _, h5, _⟩ := HI.out.ex
  obtain ⟨L2, _, _, h6, _⟩ := hKr.ins.ex
  have h7 := (otz h5 hg).2
  have h8 := (h6.lt g ((bOz _ _ _).trans hg3)).2
  have h9 := hb2.size
  omega
theorem Inz.take {w : World} {A : Option Addr} {n : Nat} {l : List In} (h : Inz w A n l) {p : Nat} (hp : p ≤ n) : Inz w A p (l.take p) := by
 obtain ⟨L, h1, ⟨h2, h3, h4⟩, h5⟩ := h.ex
 refine ⟨L.take p, by rw [List.map_take, h1], ⟨by rw [List.length_take]; omega, by omega, fun h0 => ?_⟩, fun q hq => h5 q (List.mem_of_mem_take hq)⟩
 obtain ⟨b, off, hA, hlt, hat⟩ := h4 (by omega)
 refine ⟨b, off, hA, hlt, fun k hk => ?_⟩
 have h6 := hat k (by omega)
 have e : (L.take p).getD k inp0 = L.getD k inp0 := by
  rw [List.getD_eq_getElem?_getD, List.getD_eq_getElem?_getD, List.getElem?_take, if_pos hk]
 rw [e]
 exact h6
def AsR (re : Int) (l : List In) (w : World) (e : Ending) (w' : World) : Prop :=
 ((re = 0 ∧ ∃ A c, e = .returned (.tuple #[.slice A l.length c, .int .i64 0]) ∧ Iw9 w' w.heap.size w.heap.size A l.length c l) ∨ (re ≠ 0 ∧ e = .returned (.tuple #[.slice none 0 0, .int .i64 re]))) ∧ Below w.heap.size w w'
--%
theorem das_c (fq days : Int) (lo : Nat) (s : DkS) (D : Dk) (p : Int) (w : World) (h : DkAt w lo fq days s D) (hk : DkOK fq days D) (re : Int) (he : Hid (re = asE D p)) :
  Calls prog 19 #[.pointer (some ⟨s.d, 0, none⟩), .int .i64 p] w (AsR re (asL D p) w) := by
 obtain ⟨c1, c2, c3, hB, _, hFx, hFs⟩ := h.ex
 obtain ⟨L2, hL1, hL2, hL3⟩ := hFx.view.ex
 obtain ⟨n1, hn1⟩ : ∃ n, n = D.fs.length := ⟨_, rfl⟩
 obtain ⟨nx, hnx⟩ : ∃ n, n = D.fx.length := ⟨_, rfl⟩
 have hl := hk.fx
 have hf53 : n1 ≤ 53 := by have h4 := hk.fs; have h5 := hk.e.ins53; omega
 have hcap : n1 ≤ c1 := by
  obtain ⟨_, _, h2, h3, _⟩ := hFs.ex
  rw [hn1]
  exact own_cap h3
 rw [← hn1, ← hnx] at hB
 rw [← hnx] at hL2 hl
 unfold AsR
 have d1 := hB.cv 1 (.slice s.A2 nx c2) rfl
 have d2 := hB.cv 2 (.slice s.A1 n1 c1) rfl
 by_cases hp0 : p < 0
 case pos =>
  have HE : Hid (re = 230) := he.out.trans (by unfold asE; rw [if_pos (Or.inl hp0)])
  have t1 : decide (p < 0) = true := by simpa using hp0
  clear hB hFx hFs hL1 hL2 hL3 hk h hcap
  generalize asL D p = l9
  go_enter func19, ntmps19
  go_wp2_with fail
  refine bodyPost_ret (v := .tuple #[.slice none 0 0, .int .i64 230]) (by simp [results, results19, go_sem]) rfl ⟨Or.inr ⟨by rw [HE.out]; decide, by rw [HE.out]⟩, b0 w⟩
 by_cases hp1 : (n1 : Int) < p
 case pos =>
  have HE : Hid (re = 230) := he.out.trans (by unfold asE; rw [if_pos (Or.inr (by rw [← hn1]; exact hp1))])
  have t1 : decide (p < 0) = false := by simpa using hp0
  have t2 : decide ((n1 : Int) < p) = true := by simpa using hp1
  have t3 : decide (p > (n1 : Int)) = true := by simpa using hp1
  clear hB hFx hFs hL1 hL2 hL3 hk h hcap
  generalize asL D p = l9
  go_enter func19, ntmps19
  go_wp2_with fail
  refine bodyPost_ret (v := .tuple #[.slice none 0 0, .int .i64 230]) (by simp [results, results19, go_sem]) rfl ⟨Or.inr ⟨by rw [HE.out]; decide, by rw [HE.out]⟩, b0 w⟩
 obtain ⟨pn, rfl⟩ : ∃ k : Nat, p = (k : Int) := ⟨p.toNat, by omega⟩
 have HE : Hid (re = 0) := he.out.trans (by unfold asE; rw [if_neg (by rw [← hn1]; omega)])
 have t1 : decide ((pn : Int) < 0) = false := by simp
 have t2 : decide ((n1 : Int) < (pn : Int)) = false := by simpa using hp1
 have t3 : decide ((pn : Int) > (n1 : Int)) = false := by simpa using hp1
 have hpn : pn ≤ n1 := by omega
 have e1 : (0 : Int) ≤ (pn : Int) := by omega
 have e2 : (pn : Int) ≤ (c1 : Int) := by omega
 have e3 : ((pn : Int)).toNat = pn := by omega
 have HLN : Hid (∀ k, (asN D (pn : Int) k).length = pn) := fun k => by rw [asN_len, List.length_take]; have := hk.fs; omega
 have KK := hid (dcopied_c s.A1 pn c1 (D.fs.take pn) w ((by rw [hn1]; exact hFs.view : Inz w s.A1 n1 D.fs).take hpn) (by omega) (fun z hz => hk.fl z (List.mem_of_mem_take hz)))
 have HTL : Hid ((D.fs.take pn).length = pn) := by unfold Hid; rw [List.length_take]; omega
 unfold InsR at KK
 rw [HTL.out] at KK
 have HA0 : Hid (asN D (pn : Int) 0 = D.fs.take pn) := rfl
 have HAS : Hid (∀ k, k < nx → asN D (pn : Int) (k + 1) = asStep (pn : Int) (asN D (pn : Int) k) (D.fx.getD k fx0)) := fun k hk' => asN_next D pn k (by omega)
 have HAL : Hid (asL D (pn : Int) = asN D (pn : Int) nx) := by unfold Hid asL; rw [hnx]
 have HEA : Hid (∀ f ∈ D.fx, 1 ≤ f.k) := fun f hf => (hk.each f hf).1.1
 have HMZ : Hid (∀ k, k < nx → (L2.getD k fxp0).z = D.fx.getD k fx0) := fun k hk' => by
  rw [← hL1]
  exact (gmz' FxP.z L2 k fxp0 (by have := hL2.1; omega)).symm
 have HMF : Hid (∀ k, k < nx → D.fx.getD k fx0 ∈ D.fx) := fun k hk' => gez' fx0 (by omega)
 have KC : Hid (∀ q ∈ L2, ∀ W, Below w.heap.size w W → Calls prog 47 #[.slice q.A q.n q.c] W (CloneV 98 3 q.n (q.z.l.flatMap elC) W)) := fun q hq W hW => by
  have hq2 := (hk.each q.z (by rw [← hL1]; exact List.mem_map_of_mem hq)).2.2
  have h3 := hL3 q hq
  exact clone_el q.A q.n q.c q.z.l W (h3.below hW) (by have := h3.1; omega)
 have HQN : Hid (∀ q ∈ L2, q.n = q.z.l.length) := fun q hq => (hL3 q hq).1
 have HR := hid hL2
 have HB := hid hB
 have hn9 : nx ≤ 9223372036854775807 := by omega
 clear hB hFx hFs hL1 hL2 hL3 hk h hp0 hp1 he hn1 hnx
 go_enter func19, ntmps19
 go_wp2_with fail
 refine KK.out.mono ?_
 rintro e W1 ⟨⟨A9, c9, rfl, hin⟩, hb⟩
 clear t1 t2 t3 d1 d2 KK
 have d1 := (HB.out.t hb).cv 1 (.slice s.A2 nx c2) rfl
 have HIN := hid hin
 have HB1 := hid hb
 clear hin hb
 go_wp2_with fail
 go_loopw [32] (fun i wr => ∃ k : Nat, k ≤ nx ∧ i = .int .i64 k ∧ Hid (Iw9 wr w.heap.size w.heap.size A9 pn c9 (asN D (pn : Int) k)) ∧ Below w.heap.size w wr) (fun i _ => nx - (intOf i).toNat)
 case atStart => exact ⟨0, Nat.zero_le _, rfl, hid (by rw [HA0.out]; exact HIN.out), HB1.out⟩
 case round =>
  obtain ⟨k, hk', rfl, HO, hbl⟩ := hrel
  by_cases hk : k < nx
  case neg =>
   obtain rfl : k = nx := by omega
   go_wp2_with fail
   refine bodyPost_ret (v := .tuple #[.slice A9 pn c9, .int .i64 0]) (by simp [results, results19, go_sem]) rfl ⟨Or.inl ⟨HE.out, A9, c9, ?_, ?_⟩, hbl⟩
   ·
    rw [HAL.out, HLN.out]
   ·
    rw [HAL.out, HLN.out]; exact HO.out
  obtain ⟨b, off, hA, hlt, hat⟩ := (HR.out.below hbl).2.2 (by omega)
  rw [hA]
  have hc := hat k hk
  have hqm := gez' fxp0 (l := L2) (k := k) (by have := HR.out.1; omega)
  have HST := hid (HAS.out k hk)
  have HEK := hid (HEA.out _ (HMF.out k hk))
  rw [← HMZ.out k hk] at HST HEK
  have KC1 := hid (KC.out _ hqm)
  have HM := hid (HQN.out _ hqm)
  clear hat hqm hA
  generalize L2.getD k fxp0 = q at *
  obtain ⟨⟨fk, fl, fa⟩, A2, m2, c2'⟩ := q
  obtain ⟨x0, x1, x2⟩ : wr.cell? ⟨b, off + k * 3, none⟩ = some (.int .i64 fk) ∧ wr.cell? ⟨b, off + k * 3 + 1, none⟩ = some (.slice A2 m2 c2') ∧ wr.cell? ⟨b, off + k * 3 + 2, none⟩ = some (.int .i64 fa) := ⟨hc 0 _ rfl, hc 1 _ rfl, hc 2 _ rfl⟩
  dsimp only at KC1 HM HST HEK
  unfold CloneV at KC1
  unfold asStep at HST
  dsimp only at HST
  have hb1 := bz1 wr (.cells #[.int .i64 fk, .slice A2 m2 c2', .int .i64 fa] 62)
  have HY := hid (Blk.mk wr 62 #[.int .i64 fk, .slice A2 m2 c2', .int .i64 fa])
  have y0 := HY.out.cv 0 (.int .i64 fk) rfl
  have y2 := HY.out.cv 2 (.int .i64 fa) rfl
  have HO1 := hid (HO.out.below hb1)
  have HBL := hid (bT hbl hb1)
  clear hc HO
  by_cases ha : fa < (pn : Int)
  case neg =>
   have u1 : decide (fa < (pn : Int)) = false := by simpa using ha
   rw [if_neg (fun h => ha h.1)] at HST
   go_wp2_with fail
   go_roundw
   case rel => exact ⟨k + 1, by omega, by go_num, hid (by rw [HST.out]; exact HO1.out), HBL.out⟩
   case measure => simp [intOf]; omega
  have u1 : decide (fa < (pn : Int)) = true := by simpa using ha
  by_cases hp : fk ≤ (pn : Int)
  case neg =>
   have u2 : decide (fk ≤ (pn : Int)) = false := by simpa using hp
   rw [if_neg (fun h => hp h.2)] at HST
   go_wp2_with fail
   go_roundw
   case rel => exact ⟨k + 1, by omega, by go_num, hid (by rw [HST.out]; exact HO1.out), HBL.out⟩
   case measure => simp [intOf]; omega
  have u2 : decide (fk ≤ (pn : Int)) = true := by simpa using hp
  rw [if_pos ⟨ha, hp⟩] at HST
  obtain ⟨kn, hkn⟩ : ∃ kn : Nat, fk = (kn : Int) + 1 := ⟨(fk - 1).toNat, by have := HEK.out; omega⟩
  subst hkn
  have hknp : kn < pn := by omega
  have g1 : IntKind.i64.wrap (kn : Int) = (kn : Int) := IntWalk.i64_in _ (by omega)
  have g2 : (0 : Int) ≤ (kn : Int) := by omega
  have g3 : (kn : Int) < (pn : Int) := by omega
  have g4 : ((kn : Int)).toNat = kn := by omega
  go_upto_region 8 with fail
  generalize hwn : wr.alloc (.cells #[.int .i64 ((kn : Int) + 1), .slice A2 m2 c2', .int .i64 fa] 62) = v1 at *
  clear hwn x0 x1 x2 y0 y2 u1 u2
  obtain ⟨L9, q1, q2, q3, q4⟩ := HO1.out.ex
  obtain ⟨g9, rfl, hg9, _, hf9, cs9, hb9⟩ := osz q3 (by omega)
  have HG9 : Hid (w.heap.size ≤ g9) := hg9
  have HB9 := hid hb9
  clear q1 q2 q3 q4 hg9 hf9 hb9
  have G : Hid (∀ W, Below v1.heap.size v1 W → W.cell? ⟨wr.heap.size, 0, none⟩ = some (.int .i64 ((kn : Int) + 1)) ∧ W.cell? ⟨wr.heap.size, 1, none⟩ = some (.slice A2 m2 c2')) := fun W hW => ⟨(HY.out.t hW).cv 0 _ rfl, (HY.out.t hW).cv 1 _ rfl⟩
  refine wRz (fun W => W.cell? ⟨wr.heap.size, 0, none⟩ = some (.int .i64 ((kn : Int) + 1)) ∧ W.cell? ⟨wr.heap.size, 1, none⟩ = some (.slice A2 m2 c2')) 9 (by kernel_rfl) (G.out _ (b0 v1).drew) (fun hH9 => ?_)
  refine tkG 0 (h := ?_)
  refine tkG 1 (h := ?_)
  refine tkG 2 (h := ?_)
  refine tkG 3 (h := ?_)
  refine tkG 4 (h := ?_)
  refine tkG 5 (h := ?_)
  refine tkO 6 (h := fun K hK => ?_)
  go_simp
  go_at_call 47
  refine (KC1.out _ (bT HBL.out (b0 v1).drew)).mono ?_
  rintro e w5 ⟨⟨A5, c5, rfl, hoc⟩, hb5⟩
  have hB5 : Below v1.heap.size v1 w5 := bT (b0 _).drew hb5
  have HOC := hid hoc
  clear hoc
  have hB95 := HB9.out.t hB5
  obtain ⟨L5, r1, r2, r3, r4⟩ := (HO1.out.below hB5).ex
  obtain ⟨g8, hg8, _, hc8, hf8, _⟩ := osz r3 (by omega)
  injection hg8 with hg8
  injection hg8 with hg8
  subst hg8
  have f9 := hf8 (kn * 6 + 5)
  have x9 := (hc8 (kn * 6 + 5) (by omega)).trans (fkz inPC 6 inp0 ilz L5 kn 5 _ (by omega) (by decide) rfl)
  have HL5 := hid (⟨r1, r2, r3, r4⟩ : _ ∧ _ ∧ _ ∧ _)
  clear r1 r2 r3 r4 hc8 hf8
  refine shG hK (G.out _ hB5) (h := fun hH9 => ?_)
  clear hK K
  refine tkG 7 (h := ?_)
  refine tkG 8 (h := ?_)
  refine wL9 (i := 9) (by kernel_rfl) rfl (by decide) (fun K hK => ?_)
  go_simp
  refine hK.out _ _ (wD9 (by kernel_rfl) ?_ _)
  clear hK K
  clear G hH9 KC1
  try simp only [Exit.then]
  have hown := oM9 HOC.out (Nat.le_trans HBL.out.size (b0 v1).drew.size)
  obtain ⟨r1, r2, r3, r4⟩ := HL5.out
  have HFIN := hid (Iw9.putEl (k := kn) (m := m2) (d := c5) (B := A5) (els := fl) r1 r2 r3 r4 (by omega) HM.out hown)
  have HBF := hid (bSg (bT HBL.out hB5) HG9.out (kn * 6 + 5) (.slice A5 m2 c5))
  clear r1 r2 r3 r4 HL5 hown hB95 hb5 hB5 f9 x9
  go_wp2_with fail
  go_roundw
  case rel => exact ⟨k + 1, by omega, by go_num, hid (by rw [HST.out]; exact HFIN.out), HBF.out⟩
  case measure => simp [intOf]; omega
theorem in_one (x : InP) : ∀ u ∈ inPC x, u.oneCell' = true := by intro u hu; simp [inPC] at hu; rcases hu with rfl | rfl | rfl | rfl | rfl | rfl <;> rfl
--%
theorem drun_c (fq days : Int) (lo : Nat) (s : DkS) (D : Dk) (w : World) (h : DkAt w lo fq days s D) (hk : DkOK fq days D) (re : Int) (z : Sp) (D' : Dk) (he : Hid (re = runE D.e (nIz fq) (cntI fq days))) (hz : Hid (z = rSz D.e (nIz fq))) (h1 : Hid (re = 0 → D' = drunV D (nIz fq))) (h2 : Hid (re ≠ 0 → D' = D)) :
  Calls prog 36 #[.pointer (some ⟨s.d, 0, none⟩)] w fun e w' => SlipE re z w e w' ∧ DkMut D' lo fq days s w w' := by
 have HK := hid hk
 have hb0 := bz1 w (.cells #[.int .i64 0, .int .i64 0, .int .i64 0, .int .i64 0, .int .i64 0, .int .i64 0, .slice none 0 0, .int .i64 0, .slice none 0 0, .int .i64 0] 45)
 have h0 := h.below hb0
 have HSL : Hid (SlAt (w.alloc (.cells #[.int .i64 0, .int .i64 0, .int .i64 0, .int .i64 0, .int .i64 0, .int .i64 0, .slice none 0 0, .int .i64 0, .slice none 0 0, .int .i64 0] 45)) s.y w.heap.size) := SlAt.same (h.em.slAt (Nat.le_refl _)) (hb0.cell (p := ⟨s.y, 1, none⟩) h.em.lt.2.1)
 have HYL : Hid (s.y < w.heap.size) := h.em.lt.2.1
 have HB0 := hid hb0
 have HR0 := hid (Blk.mk w 45 #[.int .i64 0, .int .i64 0, .int .i64 0, .int .i64 0, .int .i64 0, .int .i64 0, .slice none 0 0, .int .i64 0, .slice none 0 0, .int .i64 0])
 obtain ⟨c1, c2, c3, hB, _, _, _⟩ := h0.ex
 obtain ⟨E1, hp1, hp2⟩ := pickD re (runV D.e (nIz fq)) D.e
 have KR := hid (rrun_c fq days lo lo s.p s.y s.o D.e _ h0.em hk.e re z E1 he hz hp1 hp2)
 have HP1 := hid hp1
 have HP2 := hid hp2
 have HB := hid hB
 have HD0 := hid h0
 have HN : Hid (D.fs.length = D.e.ins.length ∧ D.e.ins.length ≤ 53) := ⟨hk.fs, hk.e.ins53⟩
 unfold RunR spC at KR
 unfold SlipE spC
 have d0 := HB.out.cv 0 (.pointer (some ⟨s.p, 0, none⟩)) rfl
 clear hB hk hp1 hp2 h0 hb0 h he hz
 go_enter func36, ntmps36
 go_wp2_with fail
 refine KR.out.mono ?_
 rintro e W1 ⟨⟨⟨zp, ⟨zc, zt, zs⟩, ztx, zsh, zrows, znet, ztk, zpy⟩, A7, n7, c7, B7, m7, d7, rfl, hq⟩, ⟨li, o1, hE, ho⟩, hkp, hc0, hc1, hs⟩
 clear d0 KR
 have HRA := hid (HR0.out.fx HD0.out.em.ty hkp (by decide))
 have hs1 := hs _ HR0.out.lt HSL.out
 have HS1 := hid hs1
 clear hs1
 by_cases h0 : re = 0
 case neg =>
  have tr : (re != 0) = true := by simpa using h0
  have hmu := HD0.out.actN hE ho hkp (Or.inl ⟨hc0 h0, by rw [HP2.out h0]⟩) hs
  rw [HP2.out h0] at hmu
  have HMU := hid hmu
  have H0 := hid h0
  clear hmu hE ho hkp hc0 hc1 hs h0 hq HP1 HP2
  have HRB := hid (HRA.out.t (bz1 W1 (.cells #[.int .i64 zp, .int .i64 zc, .int .i64 zt, .int .i64 zs, .int .i64 ztx, .int .i64 zsh, .slice A7 n7 c7, .int .i64 znet, .slice B7 m7 d7, .int .i64 zpy] 45)))
  obtain ⟨a0, a1, a2, a3, a4, a5, a6, a7, a8, a9⟩ := (HRB.out).q10
  obtain ⟨bb0, bb1, bb2, bb3, bb4, bb5, bb6, bb7, bb8, bb9⟩ := (HRB.out).r10
  go_wp2_with fail
  refine bodyPost_ret (v := .tuple #[.agg #[.int .i64 0, .int .i64 0, .int .i64 0, .int .i64 0, .int .i64 0, .int .i64 0, .slice none 0 0, .int .i64 0, .slice none 0 0, .int .i64 0], .int .i64 re]) (by simp [results, results36, go_sem, a0, a1, a2, a3, a4, a5, a6, a7, a8, a9]) rfl ⟨⟨sp0, none, 0, 0, none, 0, 0, rfl, Slz.err H0.out⟩, ?_⟩
  rw [h2.out H0.out]
  exact HMU.out.wrap HB0.out HYL.out (bz1 W1 (.cells #[.int .i64 zp, .int .i64 zc, .int .i64 zt, .int .i64 zs, .int .i64 ztx, .int .i64 zsh, .slice A7 n7 c7, .int .i64 znet, .slice B7 m7 d7, .int .i64 zpy] 45)) HRB.out (Nat.le_refl _) HS1.out (pgz _ _ (.int .i64 0) (.int .i64 0) (.int .i64 0) (.int .i64 0) (.int .i64 0) (.int .i64 0) (.slice none 0 0) (.int .i64 0) (.slice none 0 0) (.int .i64 0))
 have hmu := HD0.out.actN hE ho hkp (Or.inr (hc1 h0)) hs
 rw [HP1.out h0] at hmu
 have HV := hid (h1.out h0)
 subst h0
 clear hE ho hkp hc0 hc1 hs HP1 HP2 h1 h2
 obtain ⟨s1, e1, a1, r1, m1, k1, y1⟩ := hmu
 have HMU := hid (⟨e1, r1, m1, k1, y1⟩ : _ ∧ _ ∧ _ ∧ _ ∧ _)
 obtain ⟨k1c, k2c, k3c, hB1, _, _, hFs1⟩ := a1.ex
 dsimp only at hB1 hFs1
 rw [e1.1, e1.2.1] at hB1
 obtain ⟨n1, hn1⟩ : ∃ n, n = D.fs.length := ⟨_, rfl⟩
 have HN1 := hid hn1
 rw [← hn1] at hB1 hFs1
 obtain ⟨xs, hxs, happ⟩ := hFs1.app
 have HXS := hid hxs
 have HAPP := hid happ
 have HB1 := hid hB1
 have HA1 := hid a1
 have HNL : Hid (n1 ≤ 53) := by have := HN.out; unfold Hid; omega
 have hlo : lo ≤ W1.heap.size := by have := a1.em.lp; have := a1.em.lt.1; omega
 have HLO := hid hlo
 have HYL1 : Hid (s.y < W1.heap.size) := by have h9 := a1.em.lt.2.1; rw [e1.2.2] at h9; exact h9
 have hb2 := bz1 W1 (.cells #[.int .i64 zp, .int .i64 zc, .int .i64 zt, .int .i64 zs, .int .i64 ztx, .int .i64 zsh, .slice A7 n7 c7, .int .i64 znet, .slice B7 m7 d7, .int .i64 zpy] 45)
 have HBG := hid (Blk.mk W1 45 #[.int .i64 zp, .int .i64 zc, .int .i64 zt, .int .i64 zs, .int .i64 ztx, .int .i64 zsh, .slice A7 n7 c7, .int .i64 znet, .slice B7 m7 d7, .int .i64 zpy])
 have HRA2 := hid (HRA.out.t hb2)
 have HB2 := hid (HB1.out.t hb2)
 have HQ := hid (hq.below hb2)
 have KI := hid (rinputs_c fq days lo lo s1.p s1.y s1.o _ _ (a1.below hb2).em (by have := HN.out; show (tryIn D.e).length ≤ 1000; unfold tryIn; rw [List.length_append, List.length_singleton]; omega) (by
  intro q hq
  rcases List.mem_append.1 (show q ∈ D.e.ins ++ [⟨D.e.c, D.e.next⟩] from hq) with hq | hq
  ·
   exact HK.out.e.il q hq
  ·
   rw [List.mem_singleton] at hq; subst hq; exact HK.out.e.nx))
 have hti : (runV D.e (nIz fq)).ins.length = n1 + 1 := by show (tryIn D.e).length = n1 + 1; unfold tryIn; rw [List.length_append, hn1, HN.out.1]; rfl
 have HTI := hid hti
 unfold InsR at KI
 dsimp only at KI
 rw [hti, e1.2.1] at KI
 have d0 := HB2.out.cv 0 (.pointer (some ⟨s.p, 0, none⟩)) rfl
 have HBX := hid hb2
 clear hti hb2 hlo hB1 hFs1 hxs happ a1 e1 r1 m1 k1 y1 hq hn1 HB HRA HB1
 go_wp2_with fail
 refine KI.out.mono ?_
 rintro e W3 ⟨⟨A9, c9, rfl, hin⟩, hb3⟩
 clear d0 KI
 obtain ⟨L9, hL1, hL2, hL3, hL4⟩ := hin.ex
 obtain ⟨g9, rfl, hg9, hc9, _, cs9, hb9⟩ := osz hL3 (by omega)
 have hlt : n1 < L9.length := by omega
 have hm9 := gez' inp0 hlt
 have hz9 : (L9.getD n1 inp0).z = ⟨D.e.c, D.e.next⟩ := by
  rw [← gmz' InP.z L9 n1 inp0 hlt, hL1]
  show (tryIn D.e).getD n1 _ = _
  unfold tryIn
  rw [HN1.out, HN.out.1]
  simp [List.getD_eq_getElem?_getD]
 have hq9 := hL4 _ hm9
 rw [hz9] at hq9
 have hx9 : ∀ j u, j < 6 → (inPC (L9.getD n1 inp0))[j]? = some u → W3.cell? ⟨g9, n1 * 6 + j, none⟩ = some u := fun j u hj hu => (hc9 (n1 * 6 + j) (by omega)).trans (fkz inPC 6 inp0 ilz L9 n1 j u hlt hj hu)
 generalize L9.getD n1 inp0 = q9 at *
 obtain ⟨⟨qc, ql⟩, A10, n10, k10⟩ := q9
 dsimp only at hz9 hq9
 injection hz9 with z1 z2
 subst z1
 subst z2
 obtain ⟨x0, x1, x2, x3, x4, x5⟩ : W3.cell? ⟨g9, n1 * 6, none⟩ = some (.int .i64 D.e.c.s) ∧ W3.cell? ⟨g9, n1 * 6 + 1, none⟩ = some (.int .i64 D.e.c.k) ∧ W3.cell? ⟨g9, n1 * 6 + 2, none⟩ = some (.int .i64 D.e.c.a) ∧ W3.cell? ⟨g9, n1 * 6 + 3, none⟩ = some (.int .i64 D.e.c.f) ∧ W3.cell? ⟨g9, n1 * 6 + 4, none⟩ = some (.bool D.e.c.al) ∧ W3.cell? ⟨g9, n1 * 6 + 5, none⟩ = some (.slice A10 n10 k10) := ⟨hx9 0 _ (by decide) rfl, hx9 1 _ (by decide) rfl, hx9 2 _ (by decide) rfl, hx9 3 _ (by decide) rfl, hx9 4 _ (by decide) rfl, hx9 5 _ (by decide) rfl⟩
 have HX9 := hid (⟨x0, x1, x2, x3, x4, x5⟩ : _ ∧ _ ∧ _ ∧ _ ∧ _ ∧ _)
 have HG9 : Hid (Blk W3 g9 67 cs9) := hb9
 have HG9L : Hid (W1.heap.size ≤ g9) := Nat.le_trans HBX.out.size hg9
 have HQ9 := hid hq9
 have HB3 := hid hb3
 have HBD := hid (HB2.out.t hb3)
 have hb13 := bT HBX.out hb3
 have HB13 := hid hb13
 clear hin hL1 hL2 hL3 hL4 hg9 hc9 hb9 hlt hm9 hq9 hx9 hb3 hb13 x0 x1 x2 x3 x4 x5 HB2
 have G : Hid (∀ W, Blk W s.d 55 #[.pointer (some ⟨s.p, 0, none⟩), .slice s1.A2 D.fx.length k2c, .slice s1.A1 n1 k1c] → (∀ j, W.cell? ⟨g9, j, none⟩ = W3.cell? ⟨g9, j, none⟩) → W.cell? ⟨s.d, 2, none⟩ = some (.slice s1.A1 n1 k1c) ∧ W.cell? ⟨g9, n1 * 6, none⟩ = some (.int .i64 D.e.c.s) ∧ W.cell? ⟨g9, n1 * 6 + 1, none⟩ = some (.int .i64 D.e.c.k) ∧ W.cell? ⟨g9, n1 * 6 + 2, none⟩ = some (.int .i64 D.e.c.a) ∧ W.cell? ⟨g9, n1 * 6 + 3, none⟩ = some (.int .i64 D.e.c.f) ∧ W.cell? ⟨g9, n1 * 6 + 4, none⟩ = some (.bool D.e.c.al) ∧ W.cell? ⟨g9, n1 * 6 + 5, none⟩ = some (.slice A10 n10 k10)) := fun W hW hj => ⟨hW.cv 2 _ rfl, (hj _).trans HX9.out.1, (hj _).trans HX9.out.2.1, (hj _).trans HX9.out.2.2.1, (hj _).trans HX9.out.2.2.2.1, (hj _).trans HX9.out.2.2.2.2.1, (hj _).trans HX9.out.2.2.2.2.2⟩
 have HNE : Hid (∀ (W5 W6 : World), Below W3.heap.size W3 W5 → W5.grownBy W6 (blkO s1.A1) → Blk W6 s.d 55 #[.pointer (some ⟨s.p, 0, none⟩), .slice s1.A2 D.fx.length k2c, .slice s1.A1 n1 k1c] ∧ (∀ j, W6.cell? ⟨g9, j, none⟩ = W3.cell? ⟨g9, j, none⟩)) := fun W5 W6 hb hg => ⟨(HBD.out.t hb).grown hg (by
  intro he
  obtain ⟨⟨cs, hb2⟩, _⟩ := otz (oB9 HXS.out HB13.out) he.symm
  exact Blk.differ HBD.out hb2 (by decide) rfl), fun j => by
  have h9 := (HG9.out.t hb).grown hg (by
   intro he
   have hl := (HXS.out.lt g9 ((bOz _ _ _).trans he.symm)).2
   have := HG9L.out
   omega)
  exact (h9.cell j).trans (HG9.out.cell j).symm⟩
 have e7 : (((n1 + 1 : Nat) : Int) - 1) = (n1 : Int) := by omega
 have e8 : IntKind.i64.wrap (n1 : Int) = (n1 : Int) := IntWalk.i64_in _ (by have := HNL.out; omega)
 have e9 : (0 : Int) ≤ (n1 : Int) := by omega
 have e10 : (n1 : Int) < (n1 : Int) + 1 := by omega
 have e11 : ((n1 : Int)).toNat = n1 := by omega
 go_upto_region 5 with fail
 refine wRz (fun W => W.cell? ⟨s.d, 2, none⟩ = some (.slice s1.A1 n1 k1c) ∧ W.cell? ⟨g9, n1 * 6, none⟩ = some (.int .i64 D.e.c.s) ∧ W.cell? ⟨g9, n1 * 6 + 1, none⟩ = some (.int .i64 D.e.c.k) ∧ W.cell? ⟨g9, n1 * 6 + 2, none⟩ = some (.int .i64 D.e.c.a) ∧ W.cell? ⟨g9, n1 * 6 + 3, none⟩ = some (.int .i64 D.e.c.f) ∧ W.cell? ⟨g9, n1 * 6 + 4, none⟩ = some (.bool D.e.c.al) ∧ W.cell? ⟨g9, n1 * 6 + 5, none⟩ = some (.slice A10 n10 k10)) 15 (by kernel_rfl) (G.out _ (HBD.out.t (b0 W3).drew) (fun _ => rfl)) (fun hH9 => ?_)
 refine tkG 0 (h := ?_)
 refine tkG 1 (h := ?_)
 refine tkG 2 (h := ?_)
 refine tkG 3 (h := ?_)
 refine tkG 4 (h := ?_)
 refine tkG 5 (h := ?_)
 refine tkG 6 (h := ?_)
 refine tkG 7 (h := ?_)
 refine tkG 8 (h := ?_)
 refine tkG 9 (h := ?_)
 refine tkG 10 (h := ?_)
 refine tkO 11 (h := fun K hK => ?_)
 go_simp
 refine shG hK (G.out _ (HBD.out.t (bA (b0 W3).drew _)) (fun j => (bA (b0 W3).drew _).cell (p := ⟨g9, j, none⟩) HG9.out.lt)) (h := fun hH9 => ?_)
 clear hK K
 refine tkO 12 (h := fun K hK => ?_)
 obtain ⟨v6, w6, hr, ho6, hg6, hw6⟩ := run_app1W (P := prog) W3.drew 53 53 67 _ 6 64 underlying53 info_input rfl (by decide) (oB9 (oB9 HXS.out HB13.out) (b0 W3).drew) #[.int .i64 D.e.c.s, .int .i64 D.e.c.k, .int .i64 D.e.c.a, .int .i64 D.e.c.f, .bool D.e.c.al, .slice A10 n10 k10] rfl (in_one ⟨⟨D.e.c, D.e.next⟩, A10, n10, k10⟩) (by have := HNL.out; omega) (by have := HNL.out; omega) (Nat.le_trans HLO.out HB13.out.size)
 rw [bOz] at hg6 hw6
 obtain ⟨A6, c6, rfl⟩ := oL9 ho6
 have HR := hid hr
 have HO6 := hid ho6
 have HG6 := hid hg6
 have HW6 := hid hw6
 obtain ⟨hB6, hj6⟩ := HNE.out _ w6 (b0 W3).drew hg6
 clear hr ho6 hg6 hw6
 have q6 := hB6.free 2
 have p6 := hB6.cv 2 (.slice s1.A1 n1 k1c) rfl
 refine step_of_run rfl _ _ _ rfl _ _ rfl rfl _ _ HR.out ?_
 refine shG hK (G.out _ hB6 hj6) (h := fun hH9 => ?_)
 clear hK K
 refine tkG 13 (h := ?_)
 refine tkG 14 (h := ?_)
 refine wL9 (i := 15) (by kernel_rfl) rfl (by decide) (fun K hK => ?_)
 go_simp
 refine hK.out _ _ (wD9 (by kernel_rfl) ?_ _)
 clear hK K
 clear G hH9 HR p6 q6 e7 e8 e9 e10 e11
 simp only [Exit.then]
 have hD3 := (b0 W3).drew
 have hX3 := oB9 (oB9 HXS.out HB13.out) hD3
 have hb15 := bT HB13.out hD3
 have hkeep : ∀ (g : Nat) (cs : Array Value), Blk W3 g 45 cs → Blk (w6.setCell ⟨s.d, 2, none⟩ (.slice A6 (n1 + 1) c6)) g 45 cs := fun g cs hb => by
  have h1 := hb.t hD3
  have h2 := h1.grown HG6.out (by
   intro he
   obtain ⟨⟨cs2, hb2⟩, _⟩ := otz hX3 he.symm
   exact Blk.differ h1 hb2 (by decide) rfl)
  exact h2.grown (gJ9 w6 s.d 2 _) (by simpa using Blk.differ h2 hB6 (by decide))
 have HGX := hid (hkeep _ _ (HBG.out.t HB3.out))
 have HRX := hid (hkeep _ _ (HRA2.out.t HB3.out))
 skip
 have hq9 := oK9 (oB9 (oM9 HQ9.out.2 (Nat.le_trans HLO.out HBX.out.size)) hD3) hX3 (by decide) HG6.out
 have ho := HAPP.out _ w6 A6 c6 ⟨⟨D.e.c, D.e.next⟩, A10, n10, k10⟩ hb15 HG6.out HO6.out HQ9.out.1 hq9
 obtain ⟨e1, r1, m1, k1, y1⟩ := HMU.out
 have hB5 := HBD.out.t hD3
 rw [← e1.1, ← e1.2.1] at hB5
 rw [HN1.out] at ho
 have hpf := (HA1.out.below hb15).putFs hB5 HG6.out ho (by have h9 := HW6.out; rw [bOz] at h9; exact h9)
 rw [e1.1] at hpf
 dsimp only at hpf
 rw [← HN1.out] at hpf
 have hfin := DkMut.then e1 r1 m1 k1 y1 HYL1.out hb15 hpf
 have hs9 : SlAt (w6.setCell ⟨s.d, 2, none⟩ (.slice A6 (n1 + 1) c6)) s.y w.heap.size := by obtain ⟨_, _, _, _, _, _, y9⟩ := hfin; exact y9 _ HR0.out.lt HSL.out
 have hq7 := ((((HQ.out.more HB0.out.size).below HB3.out).below hD3).keptT hX3 (by decide) (by decide) HG6.out).grown hB6 (by decide) (by decide) (gJ9 w6 s.d 2 (.slice A6 (n1 + 1) c6))
 have HFI := hid hfin
 have HS9 := hid hs9
 have HQ7 := hid hq7
 clear hD3 hX3 hb15 hkeep hq9 ho e1 r1 m1 k1 y1 hB5 hpf hfin hs9 hq7 hB6 hj6
 generalize hwn : w6.setCell ⟨s.d, 2, none⟩ (.slice A6 (n1 + 1) c6) = w7 at *
 clear hwn
 have a0 := HRX.out.cv 0 (.int .i64 0) rfl
 have bb0 := HRX.out.free 0
 have f0 := HGX.out.cv 0 (.int .i64 zp) rfl
 have a1 := HRX.out.cv 1 (.int .i64 0) rfl
 have bb1 := HRX.out.free 1
 have f1 := HGX.out.cv 1 (.int .i64 zc) rfl
 have a2 := HRX.out.cv 2 (.int .i64 0) rfl
 have bb2 := HRX.out.free 2
 have f2 := HGX.out.cv 2 (.int .i64 zt) rfl
 have a3 := HRX.out.cv 3 (.int .i64 0) rfl
 have bb3 := HRX.out.free 3
 have f3 := HGX.out.cv 3 (.int .i64 zs) rfl
 have a4 := HRX.out.cv 4 (.int .i64 0) rfl
 have bb4 := HRX.out.free 4
 have f4 := HGX.out.cv 4 (.int .i64 ztx) rfl
 have a5 := HRX.out.cv 5 (.int .i64 0) rfl
 have bb5 := HRX.out.free 5
 have f5 := HGX.out.cv 5 (.int .i64 zsh) rfl
 have a6 := HRX.out.cv 6 (.slice none 0 0) rfl
 have bb6 := HRX.out.free 6
 have f6 := HGX.out.cv 6 (.slice A7 n7 c7) rfl
 have a7 := HRX.out.cv 7 (.int .i64 0) rfl
 have bb7 := HRX.out.free 7
 have f7 := HGX.out.cv 7 (.int .i64 znet) rfl
 have a8 := HRX.out.cv 8 (.slice none 0 0) rfl
 have bb8 := HRX.out.free 8
 have f8 := HGX.out.cv 8 (.slice B7 m7 d7) rfl
 have a9 := HRX.out.cv 9 (.int .i64 0) rfl
 have bb9 := HRX.out.free 9
 have f9 := HGX.out.cv 9 (.int .i64 zpy) rfl
 go_wp2_with fail
 refine bodyPost_ret (v := .tuple #[.agg #[.int .i64 zp, .int .i64 zc, .int .i64 zt, .int .i64 zs, .int .i64 ztx, .int .i64 zsh, .slice A7 n7 c7, .int .i64 znet, .slice B7 m7 d7, .int .i64 zpy], .int .i64 0]) (by simp [results, results36, go_sem, a0, a1, a2, a3, a4, a5, a6, a7, a8, a9]) rfl ⟨⟨⟨zp, ⟨zc, zt, zs⟩, ztx, zsh, zrows, znet, ztk, zpy⟩, A7, n7, c7, B7, m7, d7, rfl, HQ7.out.grown HRX.out (by decide) (by decide) (pgz _ _ (.int .i64 zp) (.int .i64 zc) (.int .i64 zt) (.int .i64 zs) (.int .i64 ztx) (.int .i64 zsh) (.slice A7 n7 c7) (.int .i64 znet) (.slice B7 m7 d7) (.int .i64 zpy))⟩, ?_⟩
 rw [HV.out]
 exact DkMut.wrap HB0.out HYL.out HFI.out (b0 w7) HRX.out (Nat.le_refl _) HS9.out (pgz _ _ (.int .i64 zp) (.int .i64 zc) (.int .i64 zt) (.int .i64 zs) (.int .i64 ztx) (.int .i64 zsh) (.slice A7 n7 c7) (.int .i64 znet) (.slice B7 m7 d7) (.int .i64 zpy))
theorem put7_gr (W : World) (g : Nat) (v0 v1 v2 v3 v4 v5 v6 : Value) : W.grownBy (((((((W.setCell ⟨g, 0, none⟩ v0).setCell ⟨g, 1, none⟩ v1).setCell ⟨g, 2, none⟩ v2).setCell ⟨g, 3, none⟩ v3).setCell ⟨g, 4, none⟩ v4).setCell ⟨g, 5, none⟩ v5).setCell ⟨g, 6, none⟩ v6) (some g) := sg9 g [v0, v1, v2, v3, v4, v5, v6] W 0
theorem Slz.fx' {X : Nat → Prop} {w w' : World} {base : Nat} {E : Int} {z Z : Sp} {A : Option Addr} {n c : Nat} {B : Option Addr} {m d : Nat} (h : Slz w base E z Z A n c B m d) (ty : Ty X w) (hk : Kp w.heap.size X w w') : Slz w' base E z Z A n c B m d :=
 ⟨fun h0 => ⟨(h.ok h0).1, (h.ok h0).2.1, (h.ok h0).2.2.1, own_fx (h.ok h0).2.2.2.1 ty hk (by decide), own_fx (h.ok h0).2.2.2.2 ty hk (by decide)⟩, h.no⟩
--%
theorem pd_effect {w0 W : World} {fq days : Int} {s : DkS} {D : Dk} (h : PD w0 fq days W s D) (k : Int) {A : Option Addr} {m c : Nat} {l : List El} (hl : ElSl W A m l) (hm : m ≤ 1000) (re : Int) (V : Ef) (he : Hid (re = effE D.e (nIz fq) (cntI fq days) k l)) (hV : Hid (V = effV D.e (nIz fq) k l)) :
  Calls prog 21 #[.pointer (some ⟨s.d, 0, none⟩), .int .i64 k, .slice A m c] W (BetR re V W) := by
 have hb0 := bz1 W (.cells #[.int .i64 0, .int .i64 0, .int .i64 0, .int .i64 0, .int .i64 0, .slice none 0 0, .int .i64 0] 73)
 have hp := (h.below hb0)
 obtain ⟨c1, c2, hB⟩ := hp.desk
 obtain ⟨E1, hE1⟩ : ∃ E, E = tEz D.e (nIz fq) (cntI fq days) 0 := ⟨_, rfl⟩
 obtain ⟨z1, hz1⟩ : ∃ z, z = tryV D.e (nIz fq) 0 := ⟨_, rfl⟩
 obtain ⟨E2, hE2⟩ : ∃ E, E = replE D.e (nIz fq) (cntI fq days) k l := ⟨_, rfl⟩
 obtain ⟨D2, hp1, hp2⟩ := pickD E2 (replV D.e k l) D.e
 obtain ⟨E3, hE3⟩ : ∃ E, E = tEz (replV D.e k l) (nIz fq) (cntI fq days) 0 := ⟨_, rfl⟩
 obtain ⟨z3, hz3⟩ : ∃ z, z = tryV (replV D.e k l) (nIz fq) 0 := ⟨_, rfl⟩
 obtain ⟨E4, hE4⟩ : ∃ E, E = betE z1 z3 := ⟨_, rfl⟩
 have H1 : Hid (re = sqz E1 (sqz E2 (sqz E3 E4))) := he.out.trans (by unfold effE; rw [hE1, hE2, hE3, hE4, hz1, hz3])
 have HV : Hid (V = betV z1 z3) := hV.out.trans (by unfold effV; rw [hz1, hz3])
 have KT := hid (pe_try hp.pe 0 E1 z1 hE1 hz1)
 have HL := hid (hl.below hb0)
 have HPE := hid hp.pe
 have HDB := hid hB
 have HB0 := hid hb0
 have HR0 := hid (Blk.mk W 73 #[.int .i64 0, .int .i64 0, .int .i64 0, .int .i64 0, .int .i64 0, .slice none 0 0, .int .i64 0])
 have HP1 := hid hp1
 have HP2 := hid hp2
 have HE2 := hid hE2
 have HE3 := hid hE3
 have HZ3 := hid hz3
 have HE4 := hid hE4
 have HLN : Hid (E1 = 0 → z1.rows.length ≤ 20) := fun h0 => by
  rw [hE1] at h0
  obtain ⟨_, h3⟩ := sZ9 h0
  obtain ⟨_, h3⟩ := sZ9 h3
  obtain ⟨_, h3⟩ := sZ9 h3
  have h4 := chkY_len (ytryE_zero h3).1
  rw [← hz1] at h4
  have := h.ok.e.yn
  have := h.ok.e.tc
  omega
 have HLN3 : Hid (E2 = 0 → E3 = 0 → z3.rows.length ≤ 20) := fun h2 h0 => by
  have hok := h.ok.e.repl (hE2.symm.trans h2)
  rw [hE3] at h0
  obtain ⟨_, h3⟩ := sZ9 h0
  obtain ⟨_, h3⟩ := sZ9 h3
  obtain ⟨_, h3⟩ := sZ9 h3
  have h4 := chkY_len (ytryE_zero h3).1
  rw [← hz3] at h4
  have := hok.yn
  have := hok.tc
  omega
 have d0 := hB.cv 0 (.pointer (some ⟨s.p, 0, none⟩)) rfl
 unfold SlipE spC at KT
 unfold BetR efC ef0
 dsimp only
 clear he hV hE1 hz1 hE2 hp1 hp2 hE3 hz3 hE4 hB hp hb0 hl h
 go_enter func21, ntmps21
 go_wp2_with fail
 refine KT.out.mono ?_
 rintro e W1 ⟨⟨⟨zp, ⟨zc, zt, zs⟩, ztx, zsh, zrows, znet, ztk, zpy⟩, A7, n7, c7, B7, m7, d7, rfl, hq⟩, hb⟩
 clear d0 KT
 have HQ1 := hid ((hq.more HB0.out.size).below (bz1 W1 (.cells #[.int .i64 zp, .int .i64 zc, .int .i64 zt, .int .i64 zs, .int .i64 ztx, .int .i64 zsh, .slice A7 n7 c7, .int .i64 znet, .slice B7 m7 d7, .int .i64 zpy] 45)))
 have hb1 := bT hb (bz1 W1 (.cells #[.int .i64 zp, .int .i64 zc, .int .i64 zt, .int .i64 zs, .int .i64 ztx, .int .i64 zsh, .slice A7 n7 c7, .int .i64 znet, .slice B7 m7 d7, .int .i64 zpy] 45))
 have HG1 := hid (Blk.mk W1 45 #[.int .i64 zp, .int .i64 zc, .int .i64 zt, .int .i64 zs, .int .i64 ztx, .int .i64 zsh, .slice A7 n7 c7, .int .i64 znet, .slice B7 m7 d7, .int .i64 zpy])
 replace HR0 := hid (HR0.out.t hb1)
 replace HDB := hid (HDB.out.t hb1)
 replace HPE := hid (HPE.out.below hb1)
 replace HL := hid (HL.out.below hb1)
 replace HB0 := hid (bT HB0.out hb1)
 clear hb hb1 hq
 go_upto_region 2 with fail
 generalize hwn : W1.alloc (.cells #[.int .i64 zp, .int .i64 zc, .int .i64 zt, .int .i64 zs, .int .i64 ztx, .int .i64 zsh, .slice A7 n7 c7, .int .i64 znet, .slice B7 m7 d7, .int .i64 zpy] 45) = V1 at *
 clear hwn
 by_cases h0 : E1 = 0
 case neg =>
  have tr : (E1 != 0) = true := by simpa using h0
  have HE := hid (H1.out.trans (sN9 h0))
  obtain ⟨a0, a1, a2, a3, a4, a5, a6⟩ := (HR0.out).q7
  obtain ⟨bb0, bb1, bb2, bb3, bb4, bb5, bb6⟩ := (HR0.out).r7
  go_wp2_with fail
  have hbl := HB0.out.grown (put7_gr V1 W.heap.size (.int .i64 0) (.int .i64 0) (.int .i64 0) (.int .i64 0) (.int .i64 0) (.slice none 0 0) (.int .i64 0)) HB0.out.size (fun k hk => by injection hk with hk; omega)
  refine bodyPost_ret (v := .tuple #[.agg #[.int .i64 0, .int .i64 0, .int .i64 0, .int .i64 0, .int .i64 0, .slice none 0 0, .int .i64 0], .int .i64 E1]) (by simp [results, results21, go_sem, a0, a1, a2, a3, a4, a5, a6]) rfl ⟨Or.inr ⟨by rw [HE.out]; exact h0, by rw [HE.out]; rfl⟩, hbl⟩
 have H2 := hid (H1.out.trans (sE9 h0))
 replace HLN := hid (HLN.out h0)
 subst h0
 clear H1
 have dB := HDB.out.cv 0 (.pointer (some ⟨s.p, 0, none⟩)) rfl
 have KC := hid (pe_clone HPE.out)
 go_wp2_with fail
 refine KC.out.mono ?_
 rintro e W2 ⟨⟨q, y2, o2, rfl, hq⟩, hb⟩
 clear dB KC
 have HQ := hid hq
 have HV1 : Hid (W.heap.size ≤ V1.heap.size) := HB0.out.size
 replace HR0 := hid (HR0.out.t hb)
 replace HG1 := hid (HG1.out.t hb)
 replace HDB := hid (HDB.out.t hb)
 replace HQ1 := hid (HQ1.out.below hb)
 replace HL := hid (HL.out.below hb)
 replace HB0 := hid (bT HB0.out hb)
 clear hb hq
 have KR := hid (pe_repl (c := c) HQ.out k HL.out hm E2 D2 HE2 HP1 HP2)
 go_wp2_with fail
 refine KR.out.mono ?_
 rintro e W3 ⟨rfl, hp, hk, hs⟩
 clear KR hs
 have hbl := below_kp HB0.out hk (by obtain ⟨a1, a2, a3⟩ := HQ.out.ge; have := HV1.out; rintro g (rfl | rfl | rfl) <;> omega)
 replace HR0 := hid (HQ.out.blk hk HR0.out (by decide))
 replace HG1 := hid (HQ.out.blk hk HG1.out (by decide))
 replace HQ1 := hid (HQ1.out.fx' HQ.out.ty hk)
 have HP3 := hid hp
 replace HB0 := hid hbl
 clear hk hp hbl HL HQ HDB
 by_cases h0 : E2 = 0
 case neg =>
  have tr : (E2 != 0) = true := by simpa using h0
  have HE := hid (H2.out.trans (sN9 h0))
  obtain ⟨a0, a1, a2, a3, a4, a5, a6⟩ := (HR0.out).q7
  obtain ⟨bb0, bb1, bb2, bb3, bb4, bb5, bb6⟩ := (HR0.out).r7
  go_wp2_with fail
  have hbl := HB0.out.grown (put7_gr W3 W.heap.size (.int .i64 0) (.int .i64 0) (.int .i64 0) (.int .i64 0) (.int .i64 0) (.slice none 0 0) (.int .i64 0)) HB0.out.size (fun k hk => by injection hk with hk; omega)
  refine bodyPost_ret (v := .tuple #[.agg #[.int .i64 0, .int .i64 0, .int .i64 0, .int .i64 0, .int .i64 0, .slice none 0 0, .int .i64 0], .int .i64 E2]) (by simp [results, results21, go_sem, a0, a1, a2, a3, a4, a5, a6]) rfl ⟨Or.inr ⟨by rw [HE.out]; exact h0, by rw [HE.out]; rfl⟩, hbl⟩
 have H3 := hid (H2.out.trans (sE9 h0))
 have e9 := HP1.out h0
 replace HLN3 := hid (HLN3.out h0)
 subst h0
 subst e9
 clear H2 HE2 HP2
 have KT := hid (pe_try HP3.out 0 E3 z3 HE3 HZ3)
 unfold SlipE spC at KT
 go_wp2_with fail
 refine KT.out.mono ?_
 rintro e W4 ⟨⟨⟨xp, ⟨xc, xt, xs⟩, xtx, xsh, xrows, xnet, xtk, xpy⟩, A8, n8, c8, B8, m8, d8, rfl, hq⟩, hb⟩
 clear KT HE3 HZ3 HP3
 have HQ2 := hid ((hq.more HB0.out.size).below (bz1 W4 (.cells #[.int .i64 xp, .int .i64 xc, .int .i64 xt, .int .i64 xs, .int .i64 xtx, .int .i64 xsh, .slice A8 n8 c8, .int .i64 xnet, .slice B8 m8 d8, .int .i64 xpy] 45)))
 have hb1 := bT hb (bz1 W4 (.cells #[.int .i64 xp, .int .i64 xc, .int .i64 xt, .int .i64 xs, .int .i64 xtx, .int .i64 xsh, .slice A8 n8 c8, .int .i64 xnet, .slice B8 m8 d8, .int .i64 xpy] 45))
 have HG2 := hid (Blk.mk W4 45 #[.int .i64 xp, .int .i64 xc, .int .i64 xt, .int .i64 xs, .int .i64 xtx, .int .i64 xsh, .slice A8 n8 c8, .int .i64 xnet, .slice B8 m8 d8, .int .i64 xpy])
 replace HR0 := hid (HR0.out.t hb1)
 replace HG1 := hid (HG1.out.t hb1)
 replace HQ1 := hid (HQ1.out.below hb1)
 replace HB0 := hid (bT HB0.out hb1)
 clear hb hb1 hq
 go_upto_region 9 with fail
 generalize hwn : W4.alloc (.cells #[.int .i64 xp, .int .i64 xc, .int .i64 xt, .int .i64 xs, .int .i64 xtx, .int .i64 xsh, .slice A8 n8 c8, .int .i64 xnet, .slice B8 m8 d8, .int .i64 xpy] 45) = V4 at *
 clear hwn
 by_cases h0 : E3 = 0
 case neg =>
  have tr : (E3 != 0) = true := by simpa using h0
  have HE := hid (H3.out.trans (sN9 h0))
  obtain ⟨a0, a1, a2, a3, a4, a5, a6⟩ := (HR0.out).q7
  obtain ⟨bb0, bb1, bb2, bb3, bb4, bb5, bb6⟩ := (HR0.out).r7
  go_wp2_with fail
  have hbl := HB0.out.grown (put7_gr V4 W.heap.size (.int .i64 0) (.int .i64 0) (.int .i64 0) (.int .i64 0) (.int .i64 0) (.slice none 0 0) (.int .i64 0)) HB0.out.size (fun k hk => by injection hk with hk; omega)
  refine bodyPost_ret (v := .tuple #[.agg #[.int .i64 0, .int .i64 0, .int .i64 0, .int .i64 0, .int .i64 0, .slice none 0 0, .int .i64 0], .int .i64 E3]) (by simp [results, results21, go_sem, a0, a1, a2, a3, a4, a5, a6]) rfl ⟨Or.inr ⟨by rw [HE.out]; exact h0, by rw [HE.out]; rfl⟩, hbl⟩
 have H4 := hid (H3.out.trans (sE9 h0))
 replace HLN3 := hid (HLN3.out h0)
 subst h0
 clear H3
 obtain ⟨hZ1, hn1, hm1, ho1, ht1⟩ := HQ1.out.ok rfl
 obtain ⟨hZ2, hn2, hm2, ho2, ht2⟩ := HQ2.out.ok rfl
 have e1 : z1.rows = zrows := by rw [← hZ1]
 have e2 : z3.rows = xrows := by rw [← hZ2]
 have h91 := HLN.out
 have h92 := HLN3.out
 rw [e1] at ho1 hn1 h91
 rw [e2] at ho2 hn2 h92
 have hs1 : Sh9 V4 A7 n7 zrows := row_sh (ow9 sl9 ho1 hn1 (by omega) (by decide))
 have hs2 : Sh9 V4 A8 n8 xrows := row_sh (ow9 sl9 ho2 hn2 (by omega) (by decide))
 have KB := hid (between_c ⟨zp, ⟨zc, zt, zs⟩, ztx, zsh, zrows, znet, ztk, zpy⟩ ⟨xp, ⟨xc, xt, xs⟩, xtx, xsh, xrows, xnet, xtk, xpy⟩ A7 A8 B7 B8 n7 c7 n8 c8 m7 d7 m8 d8 V4 hs1 hs2 (by omega) E4 V (by rw [hZ1, hZ2]; exact HE4) (by rw [hZ1, hZ2]; exact HV))
 unfold BetR efC spC ef0 bs0 at KB
 dsimp only at KB
 clear hZ1 hn1 hm1 ho1 ht1 hZ2 hn2 hm2 ho2 ht2 e1 e2 h91 h92 hs1 hs2 HQ1 HQ2 HLN HLN3 HE4 HV
 have a0 := HG1.out.cv 0 (.int .i64 zp) rfl
 have dd0 := HG2.out.cv 0 (.int .i64 xp) rfl
 have a1 := HG1.out.cv 1 (.int .i64 zc) rfl
 have dd1 := HG2.out.cv 1 (.int .i64 xc) rfl
 have a2 := HG1.out.cv 2 (.int .i64 zt) rfl
 have dd2 := HG2.out.cv 2 (.int .i64 xt) rfl
 have a3 := HG1.out.cv 3 (.int .i64 zs) rfl
 have dd3 := HG2.out.cv 3 (.int .i64 xs) rfl
 have a4 := HG1.out.cv 4 (.int .i64 ztx) rfl
 have dd4 := HG2.out.cv 4 (.int .i64 xtx) rfl
 have a5 := HG1.out.cv 5 (.int .i64 zsh) rfl
 have dd5 := HG2.out.cv 5 (.int .i64 xsh) rfl
 have a6 := HG1.out.cv 6 (.slice A7 n7 c7) rfl
 have dd6 := HG2.out.cv 6 (.slice A8 n8 c8) rfl
 have a7 := HG1.out.cv 7 (.int .i64 znet) rfl
 have dd7 := HG2.out.cv 7 (.int .i64 xnet) rfl
 have a8 := HG1.out.cv 8 (.slice B7 m7 d7) rfl
 have dd8 := HG2.out.cv 8 (.slice B8 m8 d8) rfl
 have a9 := HG1.out.cv 9 (.int .i64 zpy) rfl
 have dd9 := HG2.out.cv 9 (.int .i64 xpy) rfl
 go_wp2_with fail
 refine KB.out.mono ?_
 rintro e W5 ⟨⟨h5, A', c', rfl, ho⟩ | ⟨h5, rfl⟩, hb⟩
 ·
  clear a0 dd0 a1 dd1 a2 dd2 a3 dd3 a4 dd4 a5 dd5 a6 dd6 a7 dd7 a8 dd8 a9 dd9
  have HRX := hid (HR0.out.t hb)
  have HBX := hid (bT HB0.out hb)
  have H5 := hid h5
  have HO := hid (oM9 ho HB0.out.size)
  clear ho
  clear hb h5 KB
  obtain ⟨a0, a1, a2, a3, a4, a5, a6⟩ := (HRX.out).q7
  obtain ⟨bb0, bb1, bb2, bb3, bb4, bb5, bb6⟩ := (HRX.out).r7
  go_wp2_with fail
  have hgr := put7_gr W5 W.heap.size (.int .i64 V.b.c) (.int .i64 V.b.t) (.int .i64 V.b.s) (.int .i64 V.tx) (.int .i64 V.sh) (.slice A' V.rows.length c') (.int .i64 V.net)
  have hbl := HBX.out.grown hgr HBX.out.size (fun k hk => by injection hk with hk; omega)
  refine bodyPost_ret (v := .tuple #[.agg #[.int .i64 V.b.c, .int .i64 V.b.t, .int .i64 V.b.s, .int .i64 V.tx, .int .i64 V.sh, .slice A' V.rows.length c', .int .i64 V.net], .int .i64 0]) (by simp [results, results21, go_sem, a0, a1, a2, a3, a4, a5, a6]) rfl ⟨Or.inl ⟨H4.out.trans H5.out, A', c', rfl, HO.out.kept hgr (Or.inr (obz HO.out HRX.out (by decide)).symm)⟩, hbl⟩
 ·
  clear a0 dd0 a1 dd1 a2 dd2 a3 dd3 a4 dd4 a5 dd5 a6 dd6 a7 dd7 a8 dd8 a9 dd9
  have HRX := hid (HR0.out.t hb)
  have HBX := hid (bT HB0.out hb)
  have H5 := hid h5
  clear hb h5 KB
  obtain ⟨a0, a1, a2, a3, a4, a5, a6⟩ := (HRX.out).q7
  obtain ⟨bb0, bb1, bb2, bb3, bb4, bb5, bb6⟩ := (HRX.out).r7
  go_wp2_with fail
  have hgr := put7_gr W5 W.heap.size (.int .i64 0) (.int .i64 0) (.int .i64 0) (.int .i64 0) (.int .i64 0) (.slice none 0 0) (.int .i64 0)
  have hbl := HBX.out.grown hgr HBX.out.size (fun k hk => by injection hk with hk; omega)
  refine bodyPost_ret (v := .tuple #[.agg #[.int .i64 0, .int .i64 0, .int .i64 0, .int .i64 0, .int .i64 0, .slice none 0 0, .int .i64 0], .int .i64 E4]) (by simp [results, results21, go_sem, a0, a1, a2, a3, a4, a5, a6]) rfl ⟨Or.inr ⟨by rw [H4.out]; exact H5.out, by rw [H4.out]; rfl⟩, hbl⟩
section
variable {w0 W W' : World} {fq days : Int} {s : DkS} {D D' : Dk}
theorem pd_fix (h : PD w0 fq days W s D) (k : Int) {A : Option Addr} {m c : Nat} {l : List El} (hl : ∀ W', Kp W.heap.size s.mt W W' → ElSl W' A m l) (hm : m ≤ 1000) (re : Int) (he : Hid (re = dfixE D (nIz fq) (cntI fq days) k l)) (h1 : Hid (re = 0 → D' = dfixV D k l)) (h2 : Hid (re ≠ 0 → D' = D)) :
  Calls prog 24 #[.pointer (some ⟨s.d, 0, none⟩), .int .i64 k, .slice A m c] W fun e W' => e = .returned (.int .i64 re) ∧ DMut w0 D' fq days s W W' := by
 obtain ⟨lo, h0, hD⟩ := h.ex
 refine (dfix_c fq days lo s D k A m c l W hD h.ok hl hm re D' he h1 h2).mono ?_
 rintro e W' ⟨e1, hm⟩
 refine ⟨e1, h.mut h0 hm ?_⟩
 by_cases hr : re = 0
 ·
  rw [h1.out hr]; exact h.ok.fix (he.out.symm.trans hr)
 ·
  rw [h2.out hr]; exact h.ok
theorem pd_run (h : PD w0 fq days W s D) (re : Int) (z : Sp) (he : Hid (re = runE D.e (nIz fq) (cntI fq days))) (hz : Hid (z = rSz D.e (nIz fq))) (h1 : Hid (re = 0 → D' = drunV D (nIz fq))) (h2 : Hid (re ≠ 0 → D' = D)) :
  Calls prog 36 #[.pointer (some ⟨s.d, 0, none⟩)] W fun e W' => SlipE re z W e W' ∧ DMut w0 D' fq days s W W' := by
 obtain ⟨lo, h0, hD⟩ := h.ex
 refine (drun_c fq days lo s D W hD h.ok re z D' he hz h1 h2).mono ?_
 rintro e W' ⟨e1, hm⟩
 refine ⟨e1, h.mut h0 hm ?_⟩
 by_cases hr : re = 0
 ·
  rw [h1.out hr]; exact h.ok.run (he.out.symm.trans hr)
 ·
  rw [h2.out hr]; exact h.ok
theorem pd_as (h : PD w0 fq days W s D) (p : Int) (re : Int) (he : Hid (re = asE D p)) :
  Calls prog 19 #[.pointer (some ⟨s.d, 0, none⟩), .int .i64 p] W (AsR re (asL D p) W) := by
 obtain ⟨lo, h0, hD⟩ := h.ex
 exact das_c fq days lo s D p W hD h.ok re he
theorem PD.els (h : PD w0 fq days W s D) {A : Option Addr} {m : Nat} {l : List El} (hl : ElSl w0 A m l) : ∀ W', Kp W.heap.size s.mt W W' → ElSl W' A m l := fun W' hk => hl.below (h.kp hk)
theorem PD.elo (h : PD w0 fq days W s D) {A : Option Addr} {m c base : Nat} {l : List El} (hl : W.ownsRow base 98 3 (.slice A m c) m (l.flatMap elC)) (hm : m = l.length) : ∀ W', Kp W.heap.size s.mt W W' → ElSl W' A m l := fun W' hk => el_row (h.own hk hl (by decide)) hm
theorem PD.mutB (h : PD w0 fq days W s D) (hb : Below W.heap.size W W') : DMut w0 D fq days s W W' := by
 obtain ⟨lo, h0, hD⟩ := h.ex
 exact ⟨s, ⟨rfl, rfl, rfl⟩, h.below hb, fun g hg => Or.inl hg, fun g hg => Or.inl hg, Kp.below hb (Nat.le_refl _), fun g hg hs => hs.same (hb.cell (p := ⟨s.y, 1, none⟩) hD.em.lt.2.1)⟩
theorem DMut.pre {W1 : World} (hp : PD w0 fq days W s D) (hb : Below W.heap.size W W1) (h : DMut w0 D' fq days s W1 W') : DMut w0 D' fq days s W W' := by
 obtain ⟨s', e, a, r, m, k, y⟩ := h
 obtain ⟨lo, h0, hD⟩ := hp.ex
 exact ⟨s', e, a, fun g hg => (r g hg).imp id (Nat.le_trans hb.size), fun g hg => (m g hg).imp id (Nat.le_trans hb.size), kK (Kp.below hb (Nat.le_refl _)) k (fun g _ hg => hg), fun g hg hs => y g (Nat.lt_of_lt_of_le hg hb.size) (hs.same (hb.cell (p := ⟨s.y, 1, none⟩) hD.em.lt.2.1))⟩
end
def chgL (D : Dk) (k : Int) (kd : ByteArray) (am : Int) : List El := chL kd am (D.e.ins.getD (k.toNat - 1) in0).l (D.e.ins.getD (k.toNat - 1) in0).l.length
def chgE (D : Dk) (nom cnt k : Int) (kd : ByteArray) (am : Int) : Int := if k < 1 ∨ (D.e.ins.length : Int) < k then 230 else dfixE D nom cnt k (chgL D k kd am)
theorem pd_change {w0 W : World} {fq days : Int} {s : DkS} {D D' : Dk} (h : PD w0 fq days W s D) (k : Int) (kd : ByteArray) (am : Int) (hc : (chgL D k kd am).length ≤ 1000) (re : Int) (he : Hid (re = chgE D (nIz fq) (cntI fq days) k kd am)) (h1 : Hid (re = 0 → D' = dfixV D k (chgL D k kd am))) (h2 : Hid (re ≠ 0 → D' = D)) :
  Calls prog 37 #[.pointer (some ⟨s.d, 0, none⟩), .int .i64 k, .string kd, .int .i64 am] W fun e W' => e = .returned (.int .i64 re) ∧ DMut w0 D' fq days s W W' := by
 have HP := hid h
 obtain ⟨c1, c2, hB⟩ := h.desk
 have d0 := hB.cv 0 (.pointer (some ⟨s.p, 0, none⟩)) rfl
 have KI := hid (pe_inputs h.pe)
 have HIL := hid h.ok.e.il
 have HI53 := hid h.ok.e.ins53
 obtain ⟨ni, hni⟩ : ∃ n, n = D.e.ins.length := ⟨_, rfl⟩
 have HNI := hid hni
 unfold InsR at KI
 rw [← hni] at KI
 clear hB h
 go_enter func37, ntmps37
 go_wp2_with fail
 refine KI.out.mono ?_
 rintro e W1 ⟨⟨A9, c9, rfl, hin⟩, hb⟩
 clear d0 KI
 have HIN := hid hin
 have HB1 := hid hb
 clear hin hb
 by_cases hk1 : k < 1
 case pos =>
  have t1 : decide (k < 1) = true := by simpa using hk1
  have HE : Hid (re = 230) := he.out.trans (by unfold chgE; rw [if_pos (Or.inl hk1)])
  go_wp2_with fail
  refine bodyPost_ret (v := .int .i64 230) (by simp [results, results37, go_sem]) rfl ⟨by rw [HE.out], ?_⟩
  rw [h2.out (by rw [HE.out]; decide)]
  exact HP.out.mutB HB1.out
 have t1 : decide (k < 1) = false := by simpa using hk1
 by_cases hk2 : (ni : Int) < k
 case pos =>
  have t2 : decide ((ni : Int) < k) = true := by simpa using hk2
  have t3 : decide (k > (ni : Int)) = true := by simpa using hk2
  have HE : Hid (re = 230) := he.out.trans (by unfold chgE; rw [if_pos (Or.inr (by rw [← hni]; exact hk2))])
  go_wp2_with fail
  refine bodyPost_ret (v := .int .i64 230) (by simp [results, results37, go_sem]) rfl ⟨by rw [HE.out], ?_⟩
  rw [h2.out (by rw [HE.out]; decide)]
  exact HP.out.mutB HB1.out
 have t2 : decide ((ni : Int) < k) = false := by simpa using hk2
 have t3 : decide (k > (ni : Int)) = false := by simpa using hk2
 have HE : Hid (re = dfixE D (nIz fq) (cntI fq days) k (chgL D k kd am)) := he.out.trans (by unfold chgE; rw [if_neg (by rw [← hni]; omega)])
 obtain ⟨kn, rfl⟩ : ∃ kn : Nat, k = (kn : Int) + 1 := ⟨(k - 1).toNat, by omega⟩
 have hkn : kn < ni := by omega
 have e1 : IntKind.i64.wrap (kn : Int) = (kn : Int) := IntWalk.i64_in _ (by have := HI53.out; omega)
 have e2 : (0 : Int) ≤ (kn : Int) := by omega
 have e3 : (kn : Int) < (ni : Int) := by omega
 have e4 : ((kn : Int)).toNat = kn := by omega
 have e5 : (kn : Int) + 1 - 1 = (kn : Int) := by omega
 obtain ⟨L9, q1, ⟨q2, q3, q4⟩, q5⟩ := HIN.out.view.ex
 obtain ⟨b, off, rfl, hlt, hat⟩ := q4 (by omega)
 have hc9 := hat kn hkn 5 _ rfl
 have hq9 := q5 _ (gez' inp0 (l := L9) (k := kn) (by omega))
 have hz9 : (L9.getD kn inp0).z = D.e.ins.getD kn in0 := by rw [← q1]; exact (gmz' InP.z L9 kn inp0 (by omega)).symm
 have hm9 : D.e.ins.getD kn in0 ∈ D.e.ins := gez' in0 (by omega)
 have hl9 := HIL.out _ hm9
 have HCH : Hid (chgL D ((kn : Int) + 1) kd am = chL kd am (L9.getD kn inp0).z.l (L9.getD kn inp0).n) := by
  unfold Hid chgL
  have e : ((kn : Int) + 1).toNat - 1 = kn := by omega
  rw [e, hq9.1, hz9]
 rw [← hz9] at hl9
 have hn9 : (L9.getD kn inp0).n ≤ 1000 := by rw [hq9.1]; exact hl9
 generalize L9.getD kn inp0 = q at *
 obtain ⟨qz, A2, m2, c2'⟩ := q
 dsimp only at hc9 hq9 hz9 hl9 hn9 HCH
 have KC := hid (echange_c kd am A2 m2 c2' qz.l W1 hq9 hn9)
 have HX := hid hc9
 clear q1 q2 q3 q4 q5 hat hlt hq9 hz9 hm9 hl9 hn9 hk1 hk2 hkn hni
 go_wp2_with fail
 refine KC.out.mono ?_
 rintro e W2 ⟨⟨v, rfl, hov⟩, hb2⟩
 obtain ⟨A3, c3, rfl⟩ := oL9 hov.2
 have HLN := hid hov.1
 have HB2 := hid (bT HB1.out hb2)
 rw [← HCH.out] at hov
 have hp2 := HP.out.below HB2.out
 have KF := hid (pd_fix (c := c3) hp2 ((kn : Int) + 1) (hp2.elo hov.2 hov.1) (by rw [hov.1]; exact hc) re HE h1 h2)
 rw [HCH.out] at KF
 clear hc9 KC hov hp2 HX
 go_wp2_with fail
 refine KF.out.mono ?_
 rintro e W3 ⟨rfl, hd⟩
 have hfin := DMut.pre HP.out HB2.out hd
 go_wp2_with fail
 exact bodyPost_ret (v := .int .i64 re) (by simp [results, results37, go_sem]) rfl ⟨rfl, hfin⟩
def FxAt (W : World) (d g : Nat) : Prop := ∀ A n c, W.cell? ⟨d, 1, none⟩ = some (.slice A n c) → blkO A ≠ some g
theorem FxAt.same {W W' : World} {d g : Nat} (h : FxAt W d g) (he : W'.cell? ⟨d, 1, none⟩ = W.cell? ⟨d, 1, none⟩) : FxAt W' d g := fun A n c hc => h A n c (he.symm.trans hc)
theorem PD.fx_not {w0 W : World} {fq days : Int} {s : DkS} {D : Dk} (hp : PD w0 fq days W s D) {g : Nat} {cs : Array Value} (hb : Blk W g 62 cs) (hf : FxAt W s.d g) : ¬ s.mt g := by
 obtain ⟨lo, h0, hD⟩ := hp.ex
 obtain ⟨c1, c2, c3, h1, h2, h3, h4⟩ := hD.ex
 obtain ⟨K, hK, hKr⟩ := hD.em.ex
 obtain ⟨Ay, cy, By, dy, hy⟩ := hKr.yr
 obtain ⟨vo, hvo, _⟩ := hKr.bk
 rintro (hg | hg | hg | hg | hg | hg)
 ·
  exact Blk.differ hb h1 (by decide) hg
 ·
  exact Blk.differ hb hK (by decide) hg
 ·
  exact Blk.differ hb hy.blk (by decide) hg
 ·
  exact Blk.differ hb hvo (by decide) hg
 ·
  obtain ⟨L, _, _, k7, _⟩ := h4.ex
  obtain ⟨⟨cs2, hb2⟩, _⟩ := otz k7 hg
  exact Blk.differ hb hb2 (by decide) rfl
 ·
  exact hf _ _ _ (h1.cv 1 _ rfl) hg
structure KeepD (gd gy : Nat) (W W' : World) : Prop where
 size : W.heap.size ≤ W'.heap.size
 blk : ∀ {g : Nat} {T : TypeId} {cs : Array Value}, Blk W g T cs → mtD T = false → Blk W' g T cs
 own : ∀ {base size n : Nat} {e : TypeId} {v : Value} {xs : List Value}, W.ownsRow base e size v n xs → mtD e = false → W'.ownsRow base e size v n xs
 sl : ∀ g, g < W.heap.size → SlAt W gy g → SlAt W' gy g
 fxo : ∀ {base size n c : Nat} {A : Option Addr} {xs : List Value}, W.ownsRow base 62 size (.slice A n c) n xs → (∀ g, blkO A = some g → FxAt W gd g) → W'.ownsRow base 62 size (.slice A n c) n xs ∧ ∀ g, blkO A = some g → FxAt W' gd g
def PG (w0 : World) (fq days : Int) (W : World) (gd gp gy : Nat) (D : Dk) : Prop := ∃ s : DkS, (s.d = gd ∧ s.p = gp ∧ s.y = gy) ∧ PD w0 fq days W s D
section
variable {w0 w1 W W' : World} {fq days : Int} {gd gp gy : Nat} {D D' : Dk}
theorem PG.below (h : PG w0 fq days W gd gp gy D) (hb : Below W.heap.size W W') : PG w0 fq days W' gd gp gy D := by
 obtain ⟨s, e, hp⟩ := h
 exact ⟨s, e, hp.below hb⟩
theorem PG.bl (h : PG w0 fq days W gd gp gy D) : Below w0.heap.size w0 W := by
 obtain ⟨s, e, hp⟩ := h
 exact hp.bl
theorem PG.ok (h : PG w0 fq days W gd gp gy D) : DkOK fq days D := by
 obtain ⟨s, e, hp⟩ := h
 exact hp.ok
theorem PG.desk (h : PG w0 fq days W gd gp gy D) : W.cell? ⟨gd, 0, none⟩ = some (.pointer (some ⟨gp, 0, none⟩)) := by
 obtain ⟨s, ⟨rfl, rfl, _⟩, hp⟩ := h
 obtain ⟨c1, c2, hB⟩ := hp.desk
 exact hB.cv 0 _ rfl
theorem PG.slAt (h : PG w0 fq days W gd gp gy D) {g : Nat} (hg : W.heap.size ≤ g) : SlAt W gy g := by
 obtain ⟨s, ⟨_, _, rfl⟩, hp⟩ := h
 exact hp.pe.slAt hg
theorem PG.ylt (h : PG w0 fq days W gd gp gy D) : gy < W.heap.size := by
 obtain ⟨s, ⟨_, _, rfl⟩, hp⟩ := h
 obtain ⟨lo, h0, hD⟩ := hp.ex
 exact hD.em.lt.2.1
theorem PG.pt (h : PG w0 fq days W gd gp gy D) {g : Nat} {cs : Array Value} (hk : Blk W g 45 cs) (h0 : w0.heap.size ≤ g) (hs : SlAt W gy g) (hg : W.grownBy W' (some g)) : PG w0 fq days W' gd gp gy D := by
 obtain ⟨s, ⟨e1, e2, rfl⟩, hp⟩ := h
 obtain ⟨lo, hl, hD⟩ := hp.ex
 exact ⟨s, ⟨e1, e2, rfl⟩, hp.bl.grown hg hp.bl.size (fun k hk => by injection hk with hk; omega), ⟨lo, hl, hD.pt hk hs hg⟩, hp.ok⟩
theorem PG.pe (h : PG w0 fq days W gd gp gy D) : ∃ o, PE w0 fq days W gp gy o D.e := by
 obtain ⟨s, ⟨_, rfl, rfl⟩, hp⟩ := h
 exact ⟨s.o, hp.pe⟩
theorem DMut.pg {s : DkS} (hp : PD w0 fq days W s D) (h : DMut w0 D' fq days s W W') : PG w0 fq days W' s.d s.p s.y D' ∧ KeepD s.d s.y W W' := by
 obtain ⟨s', e, a, r, m, k, y⟩ := h
 exact ⟨⟨s', e, a⟩, ⟨k.size, fun hb hT => hp.blk k hb hT, fun ho he => hp.own k ho he, y, fun {base size n c A xs} ho hA => by
  have key : ∀ g, blkO A = some g → ∃ cs, Blk W g 62 cs ∧ ¬ s.mt g := fun g hg => by
   obtain ⟨⟨cs, hb⟩, _⟩ := otz ho hg
   exact ⟨cs, hb, hp.fx_not hb (hA g hg)⟩
  refine ⟨own_adr ho k (fun g hg => by obtain ⟨_, _, h9⟩ := key g hg; exact h9), fun g hg A' n' c' hc he => ?_⟩
  obtain ⟨cs, hb, hn⟩ := key g hg
  obtain ⟨k1, k2, hB⟩ := a.desk
  rw [e.1] at hB
  have h5 := (hB.cv 1 _ rfl).symm.trans hc
  injection h5 with h5
  injection h5 with h5 _ _
  subst h5
  rcases m g (Or.inr (Or.inr (Or.inr (Or.inr (Or.inr he))))) with h6 | h6
  ·
   exact hn h6
  ·
   have := hb.lt
   omega⟩⟩
theorem KeepD.trans {W2 : World} (h : KeepD gd gy W W') (h2 : KeepD gd gy W' W2) : KeepD gd gy W W2 :=
 ⟨Nat.le_trans h.size h2.size, fun hb hT => h2.blk (h.blk hb hT) hT, fun ho he => h2.own (h.own ho he) he, fun g hg hs => h2.sl g (Nat.lt_of_lt_of_le hg h.size) (h.sl g hg hs), fun ho hA => h2.fxo (h.fxo ho hA).1 (h.fxo ho hA).2⟩
theorem pg_pay (h : PG w0 fq days W gd gp gy D) {A : Option Addr} {m c : Nat} {l : List El} (hl : ElSl W A m l) (hm : m ≤ 1000) (re : Int) (he : Hid (re = payE D.e (cntI fq days) l)) (h1 : Hid (re = 0 → D' = { D with e := payV D.e l })) (h2 : Hid (re ≠ 0 → D' = D)) :
  Calls Tryz.prog 34 #[.pointer (some ⟨gp, 0, none⟩), .slice A m c] W fun e W' => e = .returned (.int .i64 re) ∧ PG w0 fq days W' gd gp gy D' ∧ KeepD gd gy W W' := by
 obtain ⟨s, ⟨rfl, rfl, rfl⟩, hp⟩ := h
 obtain ⟨E', e1, e2⟩ := pickD re (payV D.e l) D.e
 refine (pd_pay (c := c) hp hl hm re E' he e1 e2).mono ?_
 rintro e W' ⟨r1, r2⟩
 have e3 : D' = { D with e := E' } := by
  by_cases hr : re = 0
  ·
   rw [h1.out hr, e1 hr]
  ·
   rw [h2.out hr, e2 hr]
 rw [e3]
 exact ⟨r1, r2.pg hp⟩
theorem pg_fix (h : PG w0 fq days W gd gp gy D) (k : Int) {A : Option Addr} {m c : Nat} {l : List El} (hl : ElSl w0 A m l) (hm : m ≤ 1000) (re : Int) (he : Hid (re = dfixE D (nIz fq) (cntI fq days) k l)) (h1 : Hid (re = 0 → D' = dfixV D k l)) (h2 : Hid (re ≠ 0 → D' = D)) :
  Calls Tryz.prog 24 #[.pointer (some ⟨gd, 0, none⟩), .int .i64 k, .slice A m c] W fun e W' => e = .returned (.int .i64 re) ∧ PG w0 fq days W' gd gp gy D' ∧ KeepD gd gy W W' := by
 obtain ⟨s, ⟨rfl, rfl, rfl⟩, hp⟩ := h
 refine (pd_fix (c := c) hp k (hp.els hl) hm re he h1 h2).mono ?_
 rintro e W' ⟨r1, r2⟩
 exact ⟨r1, r2.pg hp⟩
theorem pg_run (h : PG w0 fq days W gd gp gy D) (re : Int) (z : Sp) (he : Hid (re = runE D.e (nIz fq) (cntI fq days))) (hz : Hid (z = rSz D.e (nIz fq))) (h1 : Hid (re = 0 → D' = drunV D (nIz fq))) (h2 : Hid (re ≠ 0 → D' = D)) :
  Calls Tryz.prog 36 #[.pointer (some ⟨gd, 0, none⟩)] W fun e W' => SlipE re z W e W' ∧ PG w0 fq days W' gd gp gy D' ∧ KeepD gd gy W W' := by
 obtain ⟨s, ⟨rfl, rfl, rfl⟩, hp⟩ := h
 refine (pd_run hp re z he hz h1 h2).mono ?_
 rintro e W' ⟨r1, r2⟩
 exact ⟨r1, r2.pg hp⟩
theorem pg_as (h : PG w0 fq days W gd gp gy D) (p : Int) (re : Int) (he : Hid (re = asE D p)) :
  Calls Tryz.prog 19 #[.pointer (some ⟨gd, 0, none⟩), .int .i64 p] W (AsR re (asL D p) W) := by
 obtain ⟨s, ⟨rfl, rfl, rfl⟩, hp⟩ := h
 exact pd_as hp p re he
theorem pg_change (h : PG w0 fq days W gd gp gy D) (k : Int) (kd : ByteArray) (am : Int) (hc : (chgL D k kd am).length ≤ 1000) (re : Int) (he : Hid (re = chgE D (nIz fq) (cntI fq days) k kd am)) (h1 : Hid (re = 0 → D' = dfixV D k (chgL D k kd am))) (h2 : Hid (re ≠ 0 → D' = D)) :
  Calls Tryz.prog 37 #[.pointer (some ⟨gd, 0, none⟩), .int .i64 k, .string kd, .int .i64 am] W fun e W' => e = .returned (.int .i64 re) ∧ PG w0 fq days W' gd gp gy D' ∧ KeepD gd gy W W' := by
 obtain ⟨s, ⟨rfl, rfl, rfl⟩, hp⟩ := h
 refine (pd_change hp k kd am hc re he h1 h2).mono ?_
 rintro e W' ⟨r1, r2⟩
 exact ⟨r1, r2.pg hp⟩
theorem pg_effect (h : PG w0 fq days W gd gp gy D) (k : Int) {A : Option Addr} {m c : Nat} {l : List El} (hl : ElSl W A m l) (hm : m ≤ 1000) (re : Int) (V : Ef) (he : Hid (re = effE D.e (nIz fq) (cntI fq days) k l)) (hV : Hid (V = effV D.e (nIz fq) k l)) :
  Calls Tryz.prog 21 #[.pointer (some ⟨gd, 0, none⟩), .int .i64 k, .slice A m c] W (BetR re V W) := by
 obtain ⟨s, ⟨rfl, rfl, rfl⟩, hp⟩ := h
 exact pd_effect hp k hl hm re V he hV
theorem pg_fixes (h : PG w0 fq days W gd gp gy D) : Calls Tryz.prog 15 #[.pointer (some ⟨gd, 0, none⟩)] W (FxR D.fx W) := by
 obtain ⟨s, ⟨rfl, rfl, rfl⟩, hp⟩ := h
 exact pd_fixes hp
theorem pg_first (h : PG w0 fq days W gd gp gy D) : Calls Tryz.prog 16 #[.pointer (some ⟨gd, 0, none⟩)] W (InsR D.fs W) := by
 obtain ⟨s, ⟨rfl, rfl, rfl⟩, hp⟩ := h
 exact pd_first hp
theorem pg_clone (h : PG w0 fq days W gd gp gy D) :
  Calls Tryz.prog 23 #[.pointer (some ⟨gd, 0, none⟩)] W fun e W' => (∃ gd2 gp2 gy2, e = .returned (.pointer (some ⟨gd2, 0, none⟩)) ∧ PG W fq days W' gd2 gp2 gy2 D) ∧ Below W.heap.size W W' := by
 obtain ⟨s, ⟨rfl, rfl, rfl⟩, hp⟩ := h
 refine (pd_clone hp).mono ?_
 rintro e W' ⟨⟨s2, r1, r2⟩, hb⟩
 exact ⟨⟨s2.d, s2.p, s2.y, r1, s2, ⟨rfl, rfl, rfl⟩, r2⟩, hb⟩
theorem pg_new {p y o : Nat} {E : Em} (h : PE w0 fq days W p y o E) :
  Calls Tryz.prog 33 #[.pointer (some ⟨p, 0, none⟩)] W fun e W' => (∃ gd gp gy, e = .returned (.tuple #[.pointer (some ⟨gd, 0, none⟩), .int .i64 0]) ∧ PG w0 fq days W' gd gp gy (dnewV E)) ∧ Below W.heap.size W W' := by
 refine (pd_new h).mono ?_
 rintro e W' ⟨⟨s, r1, r2, _⟩, hb⟩
 exact ⟨⟨s.d, s.p, s.y, r1, s, ⟨rfl, rfl, rfl⟩, r2⟩, hb⟩
end
theorem none_no (c t s tx sh net : Int) (A : Option Addr) (n k : Nat) (w : World) (h : (c == 0) = false) :
  Calls Tryz.prog 22 #[.agg #[.int .i64 c, .int .i64 t, .int .i64 s, .int .i64 tx, .int .i64 sh, .slice A n k, .int .i64 net]] w fun e w' => e = .returned (.bool false) ∧ Below w.heap.size w w' := by
 have hb := bz1 w (.cells #[.int .i64 c, .int .i64 t, .int .i64 s, .int .i64 tx, .int .i64 sh, .slice A n k, .int .i64 net] 73)
 have hB := Blk.mk w 73 #[.int .i64 c, .int .i64 t, .int .i64 s, .int .i64 tx, .int .i64 sh, .slice A n k, .int .i64 net]
 have qz := hB
 have a0 := qz.cv 0 _ rfl
 have a1 := qz.cv 1 _ rfl
 have a2 := qz.cv 2 _ rfl
 clear qz
 clear hB
 go_enter Tryz.func22, Tryz.ntmps22
 go_wp2_with fail
 exact bodyPost_ret (v := .bool false) (by simp [results, Tryz.results22, go_sem]) rfl ⟨rfl, hb⟩
end Go.Proofs.YtiaabmhjkoohmaaGreat
