/-
  Contracts of functions that the claim reaches, and the plain laws behind them. Conditions as named in each.
-/
import Derived.Test.YtiaabmhjkoohmaaGreatRep
namespace Go.Proofs.YtiaabmhjkoohmaaGreat
set_option linter.unusedVariables false
set_option linter.unusedSimpArgs false
open Go.RowKit
theorem below_gr {w w' : World} (h : Below w.heap.size w w') (r : Option Nat) : w.grownBy w' r := ⟨h.os, h.tape, h.output, h.size, fun k hk _ => h.block k hk⟩
def BookU (re : Int) (T : List Tk) (l' : List Od) (p : Nat) (w : World) (e : Ending) (w' : World) : Prop :=
 (∃ (A : Option Addr) (n c : Nat) (lf : Int), e = .returned (.tuple #[.slice A n c, .int .i64 lf, .int .i64 re]) ∧ (re = 0 → n = T.length ∧ w'.ownsRow w.heap.size 116 6 (.slice A n c) n (T.flatMap tkC))) ∧ (re = 0 → Bk w' p l') ∧ w.grownBy w' (some p)
theorem abook_u (net prot : Int) (p : Nat) (l : List Od) (w : World) (hb : Bk w p l) (hg : GoodA l) (re : Int) (he : Hid (re = bookE l net prot)) (T : List Tk) (hT : Hid (T = tkL l net prot l.length)) (l' : List Od) (hl : Hid (l' = tookL l T)) :
  Calls Tryz.prog 108 #[.int .i64 net, .int .i64 prot, .pointer (some ⟨p, 0, none⟩)] w (BookU re T l' p w) := by
 have hh := he.out
 unfold bookE at hh
 by_cases h1 : sVz l net prot = 0
 ·
  rw [sE9 h1] at hh
  by_cases h2 : tookE l (tkL l net prot l.length) = 0
  ·
   rw [if_pos h2] at hh
   refine (abook_t net prot p l w hb hg h1 h2).mono ?_
   rintro e w' ⟨v, ⟨rfl, ho, hk⟩, hgr⟩
   obtain ⟨A, c, rfl, _⟩ := ho.sl
   refine ⟨⟨A, _, c, _, by rw [hh], fun _ => ?_⟩, fun _ => ?_, hgr⟩
   ·
    rw [hT.out]; exact ⟨ho.1, ho.2⟩
   ·
    rw [hl.out, hT.out]; exact hk
  ·
   rw [if_neg h2] at hh
   refine (abook_f net prot p l w hb hg h1 h2).mono ?_
   rintro e w' ⟨⟨rfl, hk⟩, hgr⟩
   exact ⟨⟨none, 0, 0, 0, by rw [hh], fun h => by rw [hh] at h; cases h⟩, fun h => (by rw [hh] at h; cases h), hgr⟩
 ·
  rw [sN9 h1] at hh
  refine (abook_no net prot p l w hb hg _ hh.symm (by rw [hh]; exact h1)).mono ?_
  rintro e w' ⟨rfl, hbl⟩
  exact ⟨⟨none, 0, 0, 0, rfl, fun h => by rw [hh] at h; exact absurd h h1⟩, fun h => (by rw [hh] at h; exact absurd h h1), below_gr hbl _⟩
section
variable {w0 w w' : World} {l : List (Nat × TypeId × Array Value)}
theorem Fr.oth (h : Fr w0 w l) {q : Nat} (hg : w.grownBy w' (some q)) (hq : w0.heap.size ≤ q) (hl : ∀ x ∈ l, x.1 ≠ q) : Fr w0 w' l :=
 ⟨h.bl.grown hg h.bl.size (fun k hk => by injection hk with hk; omega), fun i x hi => ⟨(h.at' i x hi).1, (h.at' i x hi).2.grown hg (by intro he; injection he with he; first | exact hl x (List.mem_of_getElem? hi) he | exact hl x (List.mem_of_getElem? hi) he.symm)⟩, h.ne⟩
theorem Fr.othT (h : Fr w0 w l) {q : Nat} (hg : w.grownBy w' (some q)) (hq : w0.heap.size ≤ q) {T : TypeId} {cs : Array Value} (hB : Blk w q T cs) (hT : ∀ x ∈ l, x.2.1 ≠ T) : Fr w0 w' l :=
 h.oth hg hq fun x hx => by
  obtain ⟨i, hi⟩ := List.getElem?_of_mem hx
  exact Blk.differ (h.at' i x hi).2 hB (hT x hx)
theorem Fr.actK (h : Fr w0 w l) {y : Nat} (hk : Kp w.heap.size (fun g => g = y) w w') (hy : y < w0.heap.size) : FrK (fun g => g = y) w0 w' l :=
 (h.k (fun g => g = y)).act hk (fun g _ hg => hg) (fun x hx => by
  obtain ⟨i, hi⟩ := List.getElem?_of_mem hx
  have := (h.at' i x hi).1
  show ¬ x.1 = y
  omega)
end
section
variable {w w' : World} {p : Nat} {l : List Od}
theorem Bk.below (h : Bk w p l) (hb : Below w.heap.size w w') : Bk w' p l := h.t hb
theorem Bk.grownB (h : Bk w p l) {g : Nat} {t : TypeId} {cs : Array Value} (hk : Blk w g t cs) (h1 : 143 ≠ t) (h2 : 213 ≠ t) (hg : w.grownBy w' (some g)) : Bk w' p l := by
 obtain ⟨v, h3, h4⟩ := h
 exact ⟨v, h3.grown hg (by intro he; injection he with he; first | exact Blk.differ h3 hk h1 he | exact Blk.differ h3 hk h1 he.symm), h4.1, h4.2.kept hg (Or.inr (obz h4.2 hk h2).symm)⟩
end
theorem Ya9.pt {w w' : World} {base p : Nat} {Y : Yr} {A : Option Addr} {c : Nat} {B : Option Addr} {d : Nat} (h : Ya9 w base p Y A c B d) {g : Nat} {cs : Array Value} (hk : Blk w g 45 cs) (hA : ∀ b, A.map Addr.block = some b → b ≠ g) (hg : w.grownBy w' (some g)) : Ya9 w' base p Y A c B d := by
 obtain ⟨L, h1, h2, h3, h4⟩ := h.sl.ex
 refine ⟨h.blk.grown hg (by intro he; injection he with he; first | exact Blk.differ h.blk hk (by decide) he | exact Blk.differ h.blk hk (by decide) he.symm), ⟨L, h1, h2, h3.kept hg ?_, fun q hq => ⟨(h4 q hq).rows.kept hg (Or.inr (obz (h4 q hq).rows hk (by decide)).symm), (h4 q hq).tk.kept hg (Or.inr (obz (h4 q hq).tk hk (by decide)).symm)⟩⟩, h.rows.kept hg (Or.inr (obz h.rows hk (by decide)).symm)⟩
 rcases A with _ | ⟨b, o, t⟩
 ·
  exact Or.inr (by intro he; cases he)
 ·
  exact Or.inr (by
   intro he
   injection he with he
   first
    | exact hA b rfl he
    | exact hA b rfl he.symm)
theorem Ya9.old {w : World} {base p : Nat} {Y : Yr} {A : Option Addr} {c : Nat} {B : Option Addr} {d : Nat} (h : Ya9 w base p Y A c B d) : ∀ b, A.map Addr.block = some b → b < w.heap.size := by
 obtain ⟨L, h1, h2, h3, h4⟩ := h.sl.ex
 intro b hb
 rcases A with _ | ⟨b', o, t⟩
 ·
  cases hb
 ·
  injection hb with hb
  subst hb
  exact (h3.lt _ rfl).2
section
variable {w w' : World} {lo li : Nat} {fq days : Int} {p y o : Nat} {E : Em}
theorem Ea9.year (h : Ea9 w lo li fq days p y o E) (hk : Kp w.heap.size (fun g => g = y) w w') {Y : Yr} {A : Option Addr} {c : Nat} {B : Option Addr} {d : Nat} (hy : Ya9 w' lo y Y A c B d) : Ea9 w' lo li fq days p y o { E with yr := Y } := by
 obtain ⟨K, h1, h2⟩ := h.ex
 obtain ⟨n1, n2, n3⟩ := h.diff
 obtain ⟨A0, c0, B0, d0, h5⟩ := h2.yr
 have ty := Ty.one h5.blk (by decide : mtB 111 = true)
 exact ⟨⟨K, h1.kp hk h1.lt n1, h2.tb.fx ty hk, h2.gy.fx ty hk, own_fx h2.nx ty hk (by decide), h2.ins.fx ty hk, ⟨A, c, B, d, hy⟩, h2.bk.fx ty hk (fun he => n3 he.symm)⟩, h.lp, h.ly, h.lo', h.li'⟩
def SlAt (W : World) (y g : Nat) : Prop := ∀ A n c, W.cell? ⟨y, 1, none⟩ = some (.slice A n c) → A.map Addr.block ≠ some g
theorem SlAt.same {W W' : World} {y g : Nat} (h : SlAt W y g) (he : W'.cell? ⟨y, 1, none⟩ = W.cell? ⟨y, 1, none⟩) : SlAt W' y g := fun A n c hc => h A n c (he.symm.trans hc)
theorem Ya9.sl1 {w : World} {base p : Nat} {Y : Yr} {A : Option Addr} {c : Nat} {B : Option Addr} {d : Nat} (h : Ya9 w base p Y A c B d) : w.cell? ⟨p, 1, none⟩ = some (.slice A Y.sl.length c) := h.blk.cell 1
theorem Ea9.slAt (h : Ea9 w lo li fq days p y o E) {g : Nat} (hg : w.heap.size ≤ g) : SlAt w y g := by
 obtain ⟨K, h1, h2⟩ := h.ex
 obtain ⟨A, c, B, d, h5⟩ := h2.yr
 intro A' n c' hc he
 rw [h5.sl1] at hc
 injection hc with hc
 injection hc with hc _ _
 subst hc
 have := h5.old g he
 omega
theorem Ea9.pt (h : Ea9 w lo li fq days p y o E) {g : Nat} {cs : Array Value} (hk : Blk w g 45 cs) (hs : SlAt w y g) (hg : w.grownBy w' (some g)) : Ea9 w' lo li fq days p y o E := by
 obtain ⟨K, h1, h2⟩ := h.ex
 obtain ⟨A, c, B, d, h5⟩ := h2.yr
 have ne : ∀ {q : Nat} {t : TypeId} {cs2 : Array Value}, Blk w q t cs2 → t ≠ 45 → some g ≠ some q ∧ some q ≠ some g := fun hb ht => by
  have := Blk.differ hb hk ht
  exact ⟨fun he => this (by injection he with he; exact he.symm), fun he => this (by injection he with he)⟩
 have kb : ∀ {q : Nat} {t : TypeId} {cs2 : Array Value}, Blk w q t cs2 → t ≠ 45 → Blk w' q t cs2 := fun hb ht => hb.grown hg (by first | exact (ne hb ht).1 | exact (ne hb ht).2)
 have ko : ∀ {base size n : Nat} {e : TypeId} {v : Value} {xs : List Value}, w.ownsRow base e size v n xs → e ≠ 45 → w'.ownsRow base e size v n xs := fun ho he => ho.kept hg (Or.inr (obz ho hk he).symm)
 obtain ⟨⟨ls, e1, o1, b1⟩, ⟨lc, e2, o2, b2⟩, o3, b3⟩ := h2.tb
 obtain ⟨L, i1, i2, i3, i4⟩ := h2.ins.ex
 obtain ⟨v, k1, k2, k3⟩ := h2.bk
 obtain ⟨a1, a2, a3, a4, a5, a6, a7, hgy⟩ := h2.gy
 refine ⟨⟨K, kb h1 (by decide), ⟨⟨⟨ls, e1, ko o1 (by decide), fun q hq => ⟨(b1 q hq).1, ko (b1 q hq).2 (by decide)⟩⟩, ⟨lc, e2, ko o2 (by decide), fun q hq => ⟨⟨(b2 q hq).1.1, ko (b2 q hq).1.2 (by decide)⟩, (b2 q hq).2⟩⟩, ko o3 (by decide), b3⟩, ⟨a1, a2, a3, a4, a5, a6, a7, kb hgy (by decide)⟩, ko h2.nx (by decide), ⟨L, i1, i2, ko i3 (by decide), fun q hq => ⟨(i4 q hq).1, ko (i4 q hq).2 (by decide)⟩⟩, ⟨A, c, B, d, h5.pt hk (fun b hb he => hs A _ c h5.sl1 (by rw [hb, he])) hg⟩, ⟨v, kb k1 (by decide), k2, ko k3 (by decide)⟩⟩⟩, h.lp, h.ly, h.lo', h.li'⟩
def RunR (re : Int) (z : Sp) (E' : Em) (lo : Nat) (fq days : Int) (p y o : Nat) (w : World) (e : Ending) (w' : World) : Prop :=
 (∃ (Z : Sp) (A : Option Addr) (n c : Nat) (B : Option Addr) (m d : Nat), e = .returned (.tuple #[.agg (spC Z A n c B m d), .int .i64 re]) ∧ Slz w' w.heap.size re z Z A n c B m d) ∧
 (∃ li o', Ea9 w' lo li fq days p y o' E' ∧ (o' = o ∨ w.heap.size ≤ o')) ∧ Kp w.heap.size (fx3 p y o) w w' ∧ (re ≠ 0 → w'.cell? ⟨p, 13, none⟩ = w.cell? ⟨p, 13, none⟩) ∧ (re = 0 → ∃ g n c, w'.cell? ⟨p, 13, none⟩ = some (.slice (some ⟨g, 0, none⟩) n c) ∧ w.heap.size ≤ g) ∧ (∀ g, g < w.heap.size → SlAt w y g → SlAt w' y g)
theorem Ya9.slk {lo2 : Nat} {Y Y2 : Yr} {A A2 : Option Addr} {c c2 : Nat} {B B2 : Option Addr} {d d2 : Nat} (h : Ya9 w lo2 y Y A c B d) (h2 : Ya9 w' lo2 y Y2 A2 c2 B2 d2) (ha : A2 = A ∨ ∃ g, A2 = some ⟨g, 0, none⟩ ∧ w.heap.size ≤ g) : ∀ g, g < w.heap.size → SlAt w y g → SlAt w' y g := by
 intro g hg hs A' n c' hc he
 rw [h2.sl1] at hc
 injection hc with hc
 injection hc with hc _ _
 subst hc
 rcases ha with rfl | ⟨g', rfl, hg'⟩
 ·
  exact hs _ _ _ h.sl1 he
 ·
  injection he with he
  have : g' = g := he
  omega
end
end Go.Proofs.YtiaabmhjkoohmaaGreat
