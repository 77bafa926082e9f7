/-
  Contracts of functions that the claim reaches, and the plain laws behind them. Conditions as named in each.
-/
import Derived.Test.YtiaabmhjkoohmaaGreatDPd
namespace Go.Proofs.YtiaabmhjkoohmaaGreat
set_option linter.unusedVariables false
set_option linter.unusedSimpArgs false
open Go.RowKit
structure KeepD (gy : Nat) (W W' : World) : Prop where
 size : W.heap.size ≤ W'.heap.size
 blk : ∀ {g : Nat} {T : TypeId} {cs : Array Value}, Blk W g T cs → mtD T = false → Blk W' g T cs
 own : ∀ {base size n : Nat} {e : TypeId} {v : Value} {xs : List Value}, W.ownsRow base e size v n xs → mtD e = false → W'.ownsRow base e size v n xs
 sl : ∀ g, g < W.heap.size → SlAt W gy g → SlAt W' gy g
def PG (w0 : World) (fq days : Int) (W : World) (gd gp gy : Nat) (D : Dk) : Prop := ∃ s : DkS, (s.d = gd ∧ s.p = gp ∧ s.y = gy) ∧ PD w0 fq days W s D
section
variable {w0 w1 W W' : World} {fq days : Int} {gd gp gy : Nat} {D D' : Dk}
theorem PG.below (h : PG w0 fq days W gd gp gy D) (hb : Below W.heap.size W W') : PG w0 fq days W' gd gp gy D := by
 obtain ⟨s, e, hp⟩ := h
 exact ⟨s, e, hp.below hb⟩
theorem PG.bl (h : PG w0 fq days W gd gp gy D) : Below w0.heap.size w0 W := by
 obtain ⟨s, e, hp⟩ := h
 exact hp.bl
theorem PG.ok (h : PG w0 fq days W gd gp gy D) : DkOK fq days D := by
 obtain ⟨s, e, hp⟩ := h
 exact hp.ok
theorem PG.desk (h : PG w0 fq days W gd gp gy D) : W.cell? ⟨gd, 0, none⟩ = some (.pointer (some ⟨gp, 0, none⟩)) := by
 obtain ⟨s, ⟨rfl, rfl, _⟩, hp⟩ := h
 obtain ⟨c1, c2, hB⟩ := hp.desk
 exact hB.cv 0 _ rfl
theorem PG.slAt (h : PG w0 fq days W gd gp gy D) {g : Nat} (hg : W.heap.size ≤ g) : SlAt W gy g := by
 obtain ⟨s, ⟨_, _, rfl⟩, hp⟩ := h
 exact hp.pe.slAt hg
theorem PG.ylt (h : PG w0 fq days W gd gp gy D) : gy < W.heap.size := by
 obtain ⟨s, ⟨_, _, rfl⟩, hp⟩ := h
 obtain ⟨lo, h0, hD⟩ := hp.ex
 exact hD.em.lt.2.1
theorem PG.pt (h : PG w0 fq days W gd gp gy D) {g : Nat} {cs : Array Value} (hk : Blk W g 45 cs) (h0 : w0.heap.size ≤ g) (hs : SlAt W gy g) (hg : W.grownBy W' (some g)) : PG w0 fq days W' gd gp gy D := by
 obtain ⟨s, ⟨e1, e2, rfl⟩, hp⟩ := h
 obtain ⟨lo, hl, hD⟩ := hp.ex
 exact ⟨s, ⟨e1, e2, rfl⟩, hp.bl.grown hg hp.bl.size (fun k hk => by injection hk with hk; omega), ⟨lo, hl, hD.pt hk hs hg⟩, hp.ok⟩
theorem PG.pe (h : PG w0 fq days W gd gp gy D) : ∃ o, PE w0 fq days W gp gy o D.e := by
 obtain ⟨s, ⟨_, rfl, rfl⟩, hp⟩ := h
 exact ⟨s.o, hp.pe⟩
theorem DMut.pg {s : DkS} (hp : PD w0 fq days W s D) (h : DMut w0 D' fq days s W W') : PG w0 fq days W' s.d s.p s.y D' ∧ KeepD s.y W W' := by
 obtain ⟨s', e, a, r, m, k, y⟩ := h
 exact ⟨⟨s', e, a⟩, ⟨k.size, fun hb hT => hp.blk k hb hT, fun ho he => hp.own k ho he, y⟩⟩
theorem KeepD.trans {W2 : World} (h : KeepD gy W W') (h2 : KeepD gy W' W2) : KeepD gy W W2 :=
 ⟨Nat.le_trans h.size h2.size, fun hb hT => h2.blk (h.blk hb hT) hT, fun ho he => h2.own (h.own ho he) he, fun g hg hs => h2.sl g (Nat.lt_of_lt_of_le hg h.size) (h.sl g hg hs)⟩
theorem pg_pay (h : PG w0 fq days W gd gp gy D) {A : Option Addr} {m c : Nat} {l : List El} (hl : ElSl W A m l) (hm : m ≤ 1000) (re : Int) (he : Hid (re = payE D.e (cntI fq days) l)) (h1 : Hid (re = 0 → D' = { D with e := payV D.e l })) (h2 : Hid (re ≠ 0 → D' = D)) :
  Calls Tryz.prog 34 #[.pointer (some ⟨gp, 0, none⟩), .slice A m c] W fun e W' => e = .returned (.int .i64 re) ∧ PG w0 fq days W' gd gp gy D' ∧ KeepD gy W W' := by
 obtain ⟨s, ⟨rfl, rfl, rfl⟩, hp⟩ := h
 obtain ⟨E', e1, e2⟩ := pickD re (payV D.e l) D.e
 refine (pd_pay (c := c) hp hl hm re E' he e1 e2).mono ?_
 rintro e W' ⟨r1, r2⟩
 have e3 : D' = { D with e := E' } := by
  by_cases hr : re = 0
  ·
   rw [h1.out hr, e1 hr]
  ·
   rw [h2.out hr, e2 hr]
 rw [e3]
 exact ⟨r1, r2.pg hp⟩
theorem pg_fix (h : PG w0 fq days W gd gp gy D) (k : Int) {A : Option Addr} {m c : Nat} {l : List El} (hl : ElSl w0 A m l) (hm : m ≤ 1000) (re : Int) (he : Hid (re = dfixE D (nomI fq) (cntI fq days) k l)) (h1 : Hid (re = 0 → D' = dfixV D k l)) (h2 : Hid (re ≠ 0 → D' = D)) :
  Calls Tryz.prog 24 #[.pointer (some ⟨gd, 0, none⟩), .int .i64 k, .slice A m c] W fun e W' => e = .returned (.int .i64 re) ∧ PG w0 fq days W' gd gp gy D' ∧ KeepD gy W W' := by
 obtain ⟨s, ⟨rfl, rfl, rfl⟩, hp⟩ := h
 refine (pd_fix (c := c) hp k (hp.els hl) hm re he h1 h2).mono ?_
 rintro e W' ⟨r1, r2⟩
 exact ⟨r1, r2.pg hp⟩
theorem pg_run (h : PG w0 fq days W gd gp gy D) (re : Int) (z : Sp) (he : Hid (re = runE D.e (nomI fq) (cntI fq days))) (hz : Hid (z = runS D.e (nomI fq))) (h1 : Hid (re = 0 → D' = drunV D (nomI fq))) (h2 : Hid (re ≠ 0 → D' = D)) :
  Calls Tryz.prog 36 #[.pointer (some ⟨gd, 0, none⟩)] W fun e W' => SlipE re z W e W' ∧ PG w0 fq days W' gd gp gy D' ∧ KeepD gy W W' := by
 obtain ⟨s, ⟨rfl, rfl, rfl⟩, hp⟩ := h
 refine (pd_run hp re z he hz h1 h2).mono ?_
 rintro e W' ⟨r1, r2⟩
 exact ⟨r1, r2.pg hp⟩
theorem pg_as (h : PG w0 fq days W gd gp gy D) (p : Int) (re : Int) (he : Hid (re = asE D p)) :
  Calls Tryz.prog 19 #[.pointer (some ⟨gd, 0, none⟩), .int .i64 p] W (AsR re (asL D p) W) := by
 obtain ⟨s, ⟨rfl, rfl, rfl⟩, hp⟩ := h
 exact pd_as hp p re he
theorem pg_change (h : PG w0 fq days W gd gp gy D) (k : Int) (kd : ByteArray) (am : Int) (hc : (chgL D k kd am).length ≤ 1000) (re : Int) (he : Hid (re = chgE D (nomI fq) (cntI fq days) k kd am)) (h1 : Hid (re = 0 → D' = dfixV D k (chgL D k kd am))) (h2 : Hid (re ≠ 0 → D' = D)) :
  Calls Tryz.prog 37 #[.pointer (some ⟨gd, 0, none⟩), .int .i64 k, .string kd, .int .i64 am] W fun e W' => e = .returned (.int .i64 re) ∧ PG w0 fq days W' gd gp gy D' ∧ KeepD gy W W' := by
 obtain ⟨s, ⟨rfl, rfl, rfl⟩, hp⟩ := h
 refine (pd_change hp k kd am hc re he h1 h2).mono ?_
 rintro e W' ⟨r1, r2⟩
 exact ⟨r1, r2.pg hp⟩
theorem pg_effect (h : PG w0 fq days W gd gp gy D) (k : Int) {A : Option Addr} {m c : Nat} {l : List El} (hl : ElSl W A m l) (hm : m ≤ 1000) (re : Int) (V : Ef) (he : Hid (re = effE D.e (nomI fq) (cntI fq days) k l)) (hV : Hid (V = effV D.e (nomI fq) k l)) :
  Calls Tryz.prog 21 #[.pointer (some ⟨gd, 0, none⟩), .int .i64 k, .slice A m c] W (BetR re V W) := by
 obtain ⟨s, ⟨rfl, rfl, rfl⟩, hp⟩ := h
 exact pd_effect hp k hl hm re V he hV
theorem pg_fixes (h : PG w0 fq days W gd gp gy D) : Calls Tryz.prog 15 #[.pointer (some ⟨gd, 0, none⟩)] W (FxR D.fx W) := by
 obtain ⟨s, ⟨rfl, rfl, rfl⟩, hp⟩ := h
 exact pd_fixes hp
theorem pg_first (h : PG w0 fq days W gd gp gy D) : Calls Tryz.prog 16 #[.pointer (some ⟨gd, 0, none⟩)] W (InsR D.fs W) := by
 obtain ⟨s, ⟨rfl, rfl, rfl⟩, hp⟩ := h
 exact pd_first hp
theorem pg_clone (h : PG w0 fq days W gd gp gy D) :
  Calls Tryz.prog 23 #[.pointer (some ⟨gd, 0, none⟩)] W fun e W' => (∃ gd2 gp2 gy2, e = .returned (.pointer (some ⟨gd2, 0, none⟩)) ∧ PG W fq days W' gd2 gp2 gy2 D) ∧ Below W.heap.size W W' := by
 obtain ⟨s, ⟨rfl, rfl, rfl⟩, hp⟩ := h
 refine (pd_clone hp).mono ?_
 rintro e W' ⟨⟨s2, r1, r2⟩, hb⟩
 exact ⟨⟨s2.d, s2.p, s2.y, r1, s2, ⟨rfl, rfl, rfl⟩, r2⟩, hb⟩
theorem pg_new {p y o : Nat} {E : Em} (h : PE w0 fq days W p y o E) :
  Calls Tryz.prog 33 #[.pointer (some ⟨p, 0, none⟩)] W fun e W' => (∃ gd gp gy, e = .returned (.tuple #[.pointer (some ⟨gd, 0, none⟩), .int .i64 0]) ∧ PG w0 fq days W' gd gp gy (dnewV E)) ∧ Below W.heap.size W W' := by
 refine (pd_new h).mono ?_
 rintro e W' ⟨⟨s, r1, r2, _⟩, hb⟩
 exact ⟨⟨s.d, s.p, s.y, r1, s, ⟨rfl, rfl, rfl⟩, r2⟩, hb⟩
end
theorem none_no (c t s tx sh net : Int) (A : Option Addr) (n k : Nat) (w : World) (h : (c == 0) = false) :
  Calls Tryz.prog 22 #[.agg #[.int .i64 c, .int .i64 t, .int .i64 s, .int .i64 tx, .int .i64 sh, .slice A n k, .int .i64 net]] w fun e w' => e = .returned (.bool false) ∧ Below w.heap.size w w' := by
 have hb := below1 w (.cells #[.int .i64 c, .int .i64 t, .int .i64 s, .int .i64 tx, .int .i64 sh, .slice A n k, .int .i64 net] 73)
 have hB := Blk.mk w 73 #[.int .i64 c, .int .i64 t, .int .i64 s, .int .i64 tx, .int .i64 sh, .slice A n k, .int .i64 net]
 have qz := hB
 have a0 := qz.cv 0 _ rfl
 have a1 := qz.cv 1 _ rfl
 have a2 := qz.cv 2 _ rfl
 clear qz
 clear hB
 go_enter Tryz.func22, Tryz.ntmps22
 go_wp2_with fail
 exact bodyPost_ret (v := .bool false) (by simp [results, Tryz.results22, go_sem]) rfl ⟨rfl, hb⟩
end Go.Proofs.YtiaabmhjkoohmaaGreat
