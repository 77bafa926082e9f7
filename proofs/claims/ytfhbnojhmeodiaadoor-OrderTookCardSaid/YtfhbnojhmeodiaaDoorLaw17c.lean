/-
  Layer 17's law OrderBooks: its walk. Conditions as named.
-/
import Derived.Test.YtfhbnojhmeodiaaDoorLaw17b
namespace Go.Proofs.YtfhbnojhmeodiaaDoor
set_option linter.unusedVariables false
open Go.RowKit
/-- an act: an order is put in, or cancelled -/
structure Sp where
  id : Int
  pr : Int
  am : Int
  ra : Int
  tt : Int
  c : Bool
def sp0 : Sp := ⟨0, 0, 0, 0, 0, false⟩
def spC (z : Sp) : List Value := [.int .i64 z.id, .int .i64 z.pr, .int .i64 z.am, .int .i64 z.ra, .int .i64 z.tt, .bool z.c]
theorem spC_len (z : Sp) : (spC z).length = 6 := rfl
abbrev SpSl := RowSl spC 6 sp0
theorem info_order : (Tryd.prog.info? 29).map (fun i => (i.zero, i.size, i.bytes)) = some (some (.agg #[.int .i64 0, .int .i64 0, .int .i64 0, .int .i64 0, .int .i64 0]), 5, 40) := by kernel_rfl
theorem or_one {l : List Od} : ∀ u ∈ l.flatMap orC, u.oneCell' = true := fun u hu => by
  obtain ⟨z, _, hz⟩ := List.mem_flatMap.1 hu
  simp only [orC, List.mem_cons, List.not_mem_nil, or_false] at hz
  rcases hz with rfl | rfl | rfl | rfl | rfl <;> rfl
def OwnOr (w : World) (base : Nat) (v : Value) (n : Nat) (l : List Od) : Prop := n = l.length ∧ w.ownsRow base 29 5 v n (l.flatMap orC)
theorem OwnOr.sl {w : World} {base n c : Nat} {A : Option Addr} {l : List Od} (h : OwnOr w base (.slice A n c) n l) : OrSl w A n l := by
  obtain ⟨A', c', he, _, hs⟩ := own_sl orC 5 od0 orC_len h.2 h.1 (by decide)
  injection he with h1 _ _
  subst h1
  exact hs
theorem OwnOr.below {w w' : World} {base : Nat} {v : Value} {n : Nat} {l : List Od} (h : OwnOr w base v n l) (hb : Below w.heap.size w w') : OwnOr w' base v n l := ⟨h.1, own_below h.2 hb⟩
/-- the book stays while a row of orders grows -/
theorem Bk.row {w w' : World} {p : Nat} {l : List Od} {base n : Nat} {v : Value} {xs : List Value} (h : Bk w p l) (ho : w.ownsRow base 29 5 v n xs) (hg : w.grownBy w' v.ownBlock) : Bk w' p l := by
  obtain ⟨u, h1, h2⟩ := h
  refine Bk.grown ⟨u, h1, h2⟩ hg (own_blk ho h1 (by decide)) (fun u' hu' => own_own hu'.2 ho (by decide))
/-- a row of orders stays while the book is turned -/
theorem OwnOr.turn {w w' : World} {p : Nat} {l : List Od} {base n : Nat} {v : Value} {H : List Od} (h : OwnOr w base v n H) (hb : Bk w p l) (hg : w.grownBy w' (some p)) : OwnOr w' base v n H := by
  obtain ⟨u, h1, h2⟩ := hb
  refine ⟨h.1, h.2.kept hg (Or.inr fun he => own_blk h.2 h1 (by decide) he.symm)⟩
theorem orC_take {l : List Od} {a : Nat} (h : a ≤ l.length) : (l.flatMap orC).take (a * 5) = (l.take a).flatMap orC := by
  have hl : ∀ l : List Od, (l.flatMap orC).length = l.length * 5 := fun l => by
    induction l with
    | nil => rfl
    | cons x l ih => rw [List.flatMap_cons, List.length_append, ih, orC_len, List.length_cons]; omega
  have e : l.flatMap orC = (l.take a).flatMap orC ++ (l.drop a).flatMap orC := by rw [← List.flatMap_append, List.take_append_drop]
  have h2 : ((l.take a).flatMap orC).length = a * 5 := by rw [hl, List.length_take, Nat.min_eq_left h]
  rw [e, ← h2, List.take_left]
theorem orC_drop {l : List Od} {a : Nat} (h : a ≤ l.length) : (l.flatMap orC).drop (a * 5) = (l.drop a).flatMap orC := by
  have hl : ∀ l : List Od, (l.flatMap orC).length = l.length * 5 := fun l => by
    induction l with
    | nil => rfl
    | cons x l ih => rw [List.flatMap_cons, List.length_append, ih, orC_len, List.length_cons]; omega
  have e : l.flatMap orC = (l.take a).flatMap orC ++ (l.drop a).flatMap orC := by rw [← List.flatMap_append, List.take_append_drop]
  have h2 : ((l.take a).flatMap orC).length = a * 5 := by rw [hl, List.length_take, Nat.min_eq_left h]
  rw [e, ← h2, List.drop_left]
theorem orC_len2 (l : List Od) : (l.flatMap orC).length = l.length * 5 := by
  induction l with
  | nil => rfl
  | cons x l ih => rw [List.flatMap_cons, List.length_append, ih, orC_len, List.length_cons]; omega
/-- the last one of a number among the first j -/
def FindA (H : List Od) (q a : Int) (j : Nat) : Prop := (a = -1 ∧ ∀ i, i < j → (H.getD i od0).id ≠ q) ∨ (∃ i : Nat, i < j ∧ a = i ∧ (H.getD i od0).id = q)
theorem addE_r {l : List Od} {z : Od} {r : Int} (h : orE z.id z.pr z.am z.ra z.«to» = r) : addE l z = if r ≠ 0 then r else if atO l z.id < l.length then 4 else if l.length = 8 then 2 else 0 := by unfold addE; rw [h]
--%%
set_option maxRecDepth 100000 in
set_option maxHeartbeats 12800000 in
theorem orderBooks_walk (A : Option Addr) (n c : Nat) (S : List Sp) (w : World) (hl : SpSl w A n S) : Calls Tryd.prog 4 #[.slice A n c] w fun e w' => e = .returned (.bool true) ∧ Below w.heap.size w w' := by
  have HL := Lib.hid hl
  have hn9 := hl.2.1
  have KB := Lib.hid (books_c w)
  have KW := Lib.hid (fun id pr am ra tt W => wrong_c id pr am ra tt W)
  clear hl
  go_enter Tryd.func4, Tryd.ntmps4
  go_wp2_with fail
  refine KB.out.mono ?_
  rintro e w1 ⟨rfl, hb1⟩
  by_cases h60 : 60 < n
  · have v : decide ((60 : Int) < (n : Int)) = true := by simp; omega
    clear h60
    go_wp2_with fail
    go_ret
    exact ⟨rfl, hb1⟩
  have v : decide ((60 : Int) < (n : Int)) = false := by simp; omega
  clear h60
  have hbB := bA hb1 (.cells #[.slice none 0 0] 27)
  have hpp := Blk.mk w1 27 #[.slice none 0 0]
  have hpw : w.heap.size ≤ w1.heap.size := hb1.size
  have HB0 : Hid (Bk (w1.alloc (.cells #[.slice none 0 0] 27)) w1.heap.size []) := ⟨_, hpp, rfl, World.ownsRow_nil _ _ _ _⟩
  have HBB := Lib.hid hbB
  clear hpp hbB
  go_wp2_with fail
  go_loopw [4, 7, 19, 25] (fun ch _ ci _ wr => ∃ (k m cc : Nat) (A1 : Option Addr) (H l : List Od), k ≤ n ∧ ci = .int .i64 k ∧ ch = .slice A1 m cc ∧ m ≤ 8 ∧ Hid (OwnOr wr w.heap.size (.slice A1 m cc) m H) ∧ Hid (Bk wr w1.heap.size l) ∧ Hid (Stand l H) ∧ Below w.heap.size w wr) (fun _ _ ci _ _ => n - (intOf ci).toNat)
  case atStart => exact ⟨0, 0, 0, none, [], [], Nat.zero_le _, rfl, rfl, by decide, ⟨rfl, World.ownsRow_nil _ _ _ _⟩, HB0.out, Stand.nil, HBB.out⟩
  case round =>
    obtain ⟨k, m, cc, A1, H, l, hk', rfl, rfl, hm8, HO, HBK, HST, hbl⟩ := hrel
    by_cases hk : k < n
    case neg =>
      obtain rfl : k = n := by omega
      go_wp2_with fail
      go_ret
      exact ⟨rfl, hbl⟩
    obtain ⟨b, off, rfl, hlt, hat⟩ := (HL.out.below hbl).2.2 (by omega)
    have hcl := hat k hk
    generalize S.getD k sp0 = zz at *
    obtain ⟨id, pr, am, ra, tt, cn⟩ := zz
    obtain ⟨c0, c1, c2, c3, c4, c5⟩ : wr.cell? ⟨b, off + k * 6, none⟩ = some (.int .i64 id) ∧ wr.cell? ⟨b, off + k * 6 + 1, none⟩ = some (.int .i64 pr) ∧ wr.cell? ⟨b, off + k * 6 + 2, none⟩ = some (.int .i64 am) ∧ wr.cell? ⟨b, off + k * 6 + 3, none⟩ = some (.int .i64 ra) ∧ wr.cell? ⟨b, off + k * 6 + 4, none⟩ = some (.int .i64 tt) ∧ wr.cell? ⟨b, off + k * 6 + 5, none⟩ = some (.bool cn) := ⟨hcl 0 _ rfl, hcl 1 _ rfl, hcl 2 _ rfl, hcl 3 _ rfl, hcl 4 _ rfl, hcl 5 _ rfl⟩
    have y := Blk.mk wr 45 #[.int .i64 id, .int .i64 pr, .int .i64 am, .int .i64 ra, .int .i64 tt, .bool cn]
    have HY := Lib.hid y
    have HB1 := Lib.hid (bA hbl (.cells #[.int .i64 id, .int .i64 pr, .int .i64 am, .int .i64 ra, .int .i64 tt, .bool cn] 45))
    have hm := HO.out.1
    have HM := Lib.hid hm
    have hml : m = l.length := hm.trans HST.out.eq.symm
    have HML := Lib.hid hml
    clear hcl hat y hbl hm hml
    go_wp2_with fail
    clear c0 c1 c2 c3 c4 c5
    rename World => wo
    go_loopw [7, 25] (fun ca ci wr => ∃ (j : Nat) (a : Int), j ≤ m ∧ ci = .int .i64 j ∧ ca = .int .i64 a ∧ Hid (FindA H id a j) ∧ Below (wo.alloc (.cells #[.int .i64 id, .int .i64 pr, .int .i64 am, .int .i64 ra, .int .i64 tt, .bool cn] 45)).heap.size (wo.alloc (.cells #[.int .i64 id, .int .i64 pr, .int .i64 am, .int .i64 ra, .int .i64 tt, .bool cn] 45)) wr) (fun _ ci _ => m - (intOf ci).toNat)
    case atStart => exact ⟨0, -1, Nat.zero_le _, rfl, rfl, Or.inl ⟨rfl, fun i hi => absurd hi (by omega)⟩, b0 _⟩
    case round =>
      obtain ⟨j, a, hj', rfl, rfl, HF, hb2⟩ := hrel
      by_cases hj : j < m
      case pos =>
        obtain ⟨b2, off2, rfl, hlt2, hat2⟩ := ((HO.out.sl.below (below1 wo (.cells #[.int .i64 id, .int .i64 pr, .int .i64 am, .int .i64 ra, .int .i64 tt, .bool cn] 45))).below hb2).2.2 (by omega)
        have hcl2 := hat2 j hj
        have HF1 : Hid ((H.getD j od0).id = id → FindA H id j (j + 1)) := fun h => Or.inr ⟨j, by omega, rfl, h⟩
        have HF2 : Hid ((H.getD j od0).id ≠ id → FindA H id a (j + 1)) := fun h => by
          rcases HF.out with ⟨h1, h2⟩ | ⟨i, h1, h2, h3⟩
          · exact Or.inl ⟨h1, fun i hi => by
              rcases (by omega : i = j ∨ i < j) with rfl | hi
              · exact h
              · exact h2 i hi⟩
          · exact Or.inr ⟨i, by omega, h2, h3⟩
        generalize H.getD j od0 = zx at *
        obtain ⟨xd, xp, xa, xr, xt, xk, xs⟩ := zx
        obtain ⟨d0, d1, d2, d3, d4⟩ : wr.cell? ⟨b2, off2 + j * 5, none⟩ = some (.int .i64 xd) ∧ wr.cell? ⟨b2, off2 + j * 5 + 1, none⟩ = some (.int .i64 xp) ∧ wr.cell? ⟨b2, off2 + j * 5 + 2, none⟩ = some (.int .i64 xa) ∧ wr.cell? ⟨b2, off2 + j * 5 + 3, none⟩ = some (.int .i64 xr) ∧ wr.cell? ⟨b2, off2 + j * 5 + 4, none⟩ = some (.int .i64 xt) := ⟨hcl2 0 _ rfl, hcl2 1 _ rfl, hcl2 2 _ rfl, hcl2 3 _ rfl, hcl2 4 _ rfl⟩
        have hb3 := bA hb2 (.cells #[.int .i64 xd, .int .i64 xp, .int .i64 xa, .int .i64 xr, .int .i64 xt] 29)
        have y2 := HY.out.t hb2
        have ylt := y2.lt
        have u0 := (y2.alloc (.cells #[.int .i64 xd, .int .i64 xp, .int .i64 xa, .int .i64 xr, .int .i64 xt] 29)).cell 0
        dsimp only at HF1 HF2
        clear hcl2 hat2 y2
        by_cases he : xd = id
        · have ve : (xd == id) = true := by simpa using he
          have HF3 := Lib.hid (HF1.out he)
          clear he HF1 HF2
          go_wp2_with fail
          go_roundw
          case rel => exact ⟨j + 1, j, by omega, by go_num, rfl, HF3.out, hb3⟩
          case measure => simp [intOf]; omega
        · have ve : (xd == id) = false := by simpa using he
          have HF3 := Lib.hid (HF2.out he)
          clear he HF1 HF2
          go_wp2_with fail
          go_roundw
          case rel => exact ⟨j + 1, a, by omega, by go_num, rfl, HF3.out, hb3⟩
          case measure => simp [intOf]; omega
      obtain rfl : j = m := by omega
      have y2 := HY.out.t hb2
      obtain ⟨y0, y1, y2', y3, y4, y5⟩ : wr.cell? ⟨wo.heap.size, 0, none⟩ = some (.int .i64 id) ∧ wr.cell? ⟨wo.heap.size, 1, none⟩ = some (.int .i64 pr) ∧ wr.cell? ⟨wo.heap.size, 2, none⟩ = some (.int .i64 am) ∧ wr.cell? ⟨wo.heap.size, 3, none⟩ = some (.int .i64 ra) ∧ wr.cell? ⟨wo.heap.size, 4, none⟩ = some (.int .i64 tt) ∧ wr.cell? ⟨wo.heap.size, 5, none⟩ = some (.bool cn) := ⟨y2.cell 0, y2.cell 1, y2.cell 2, y2.cell 3, y2.cell 4, y2.cell 5⟩
      have hb5 : Below wo.heap.size wo wr := bT (below1 wo (.cells #[.int .i64 id, .int .i64 pr, .int .i64 am, .int .i64 ra, .int .i64 tt, .bool cn] 45)) hb2
      have HY2 := Lib.hid y2
      have HB5 := Lib.hid (bT HB1.out hb2)
      have HO5 := Lib.hid (HO.out.below hb5)
      have HK5 := Lib.hid (HBK.out.t hb5)
      -- what stands behind the act: the list, and whether all stand
      have FIN : Hid (∀ (W : World) (A3 : Option Addr) (m3 c3 : Nat) (H3 l3 : List Od), OwnOr W w.heap.size (.slice A3 m3 c3) m3 H3 → Bk W w1.heap.size l3 → Stand l3 H3 → Calls Tryd.prog 10 #[.pointer (some ⟨w1.heap.size, 0, none⟩)] W fun e w' => (∃ A4 c4, e = .returned (.slice A4 m3 c4) ∧ Calls Tryd.prog 16 #[.slice A4 m3 c4, .slice A3 m3 c3] w' fun e w'' => e = .returned (.bool true) ∧ Below w'.heap.size w' w'') ∧ Below W.heap.size W w') := fun W A3 m3 c3 H3 l3 h1 h2 h3 => by
        have hm3 : l3.length = m3 := h3.eq.trans h1.1.symm
        refine (blist_c w1.heap.size l3 W h2 (by have := h3.len; omega)).mono ?_
        rintro e w' ⟨⟨v4, rfl, ho4⟩, hb4⟩
        obtain ⟨A4, c4, rfl, _, hs4⟩ := ho4.sl
        rw [hm3] at hs4 ⊢
        exact ⟨⟨A4, c4, rfl, stands_c A4 A3 m3 c4 m3 c3 l3 H3 w' hs4 (h1.sl.below hb4) h3⟩, hb4⟩
      cases cn
      case true =>
        have KCA : Hid (∀ W e2 l2, Bk W w1.heap.size l → (canE l id = e2 ∧ (if canE l id = 0 then cutO l id else l) = l2) → Calls Tryd.prog 14 #[.pointer (some ⟨w1.heap.size, 0, none⟩), .int .i64 id] W (TurnB w1.heap.size l2 (.int .i64 e2) W)) := fun W e2 l2 h h1 => by
          have := bcancel_c w1.heap.size l id W h (by have := HST.out.len; omega)
          unfold CanR at this
          rw [h1.1] at this
          rw [h1.1] at h1
          rw [h1.2] at this
          exact this
        rcases HF.out with ⟨ha, hn⟩ | ⟨i, hi, ha, he⟩
        case inl =>
          subst ha
          have hnex : ¬ atO l id < l.length := fun h => by
            obtain ⟨i, hi, he⟩ := HST.out.has.1 h
            exact hn i (by rw [HM.out]; exact hi) he
          have hce : canE l id = 3 ∧ (if canE l id = 0 then cutO l id else l) = l := by
            have e : canE l id = 3 := if_neg hnex
            exact ⟨e, by rw [e, if_neg (by decide)]⟩
          have HCE := Lib.hid hce
          clear hn hnex hce
          have KCA2 := Lib.hid (KCA.out wr 3 l HK5.out HCE.out)
          go_wp2_with fail
          refine KCA2.out.mono ?_
          rintro e wz ⟨rfl, hk7, hg7⟩
          have HK7 := Lib.hid hk7
          have HO7 := Lib.hid (OwnOr.turn HO5.out HK5.out hg7)
          have HB7 := Lib.hid (TurnB.below HB5.out hg7 hpw)
          have HS7 := HST
          clear hk7 hg7
          have FINc := Lib.hid (FIN.out wz A1 j cc H l HO7.out HK7.out HS7.out)
          go_wp2_with fail
          refine FINc.out.mono ?_
          rintro e w8 ⟨⟨A4, c4, rfl, KS⟩, hb8⟩
          have KS := Lib.hid KS
          go_wp2_with fail
          refine KS.out.mono ?_
          rintro e w9 ⟨rfl, hb9⟩
          have hb10 := bT hb8 hb9
          go_wp2_with fail
          go_roundw
          case rel => exact ⟨k + 1, j, cc, A1, H, l, by omega, by go_num, rfl, by omega, HO7.out.below hb10, HK7.out.t hb10, HS7.out, bT HB7.out hb10⟩
          case measure => simp [intOf]; omega
        subst ha
        have hex : atO l id < l.length := HST.out.has.2 ⟨i, by rw [← HM.out]; exact hi, he⟩
        have HCE : Hid (canE l id = 0 ∧ (if canE l id = 0 then cutO l id else l) = cutO l id) := by
          have e : canE l id = 0 := if_pos hex
          exact ⟨e, if_pos e⟩
        have HS7a : Hid (Stand (cutO l id) (H.take i ++ H.drop (i + 1))) := HST.out.cut (by rw [← HM.out]; exact hi) he
        have hih : i < H.length := by rw [← HM.out]; exact hi
        obtain ⟨g, cg, hvg, hgB, hgl, hgc, _⟩ := own_form HO5.out.2 (by omega)
        injection hvg with e1 _ e2
        subst e1; subst e2
        have hbe := below1 wr.drew (.cells #[] 29)
        have hbd : Below wr.heap.size wr (wr.drew.alloc (.cells #[] 29)) := bA (b0 wr).drew _
        have hlit := World.ownsRow_lit (e := 29) (size := 5) (base := w.heap.size) wr.drew #[] 0 HB5.out.size (by decide) rfl
        have hsr := own_src (HO5.out.below hbd).2
        have hs1 : SrcAt (wr.drew.alloc (.cells #[] 29)) (some ⟨g, 0, none⟩) i 5 ((H.take i).flatMap orC) := by
          have := hsr.take (i := i) (by omega)
          rwa [orC_take (by omega)] at this
        obtain ⟨v6, w6, hr1, ho6, hg6⟩ := run_appN (P := Tryd.prog) (wr.drew.alloc (.cells #[] 29)) 22 22 29 _ 5 40 Tryd.underlying22 info_order rfl (by decide) hlit (some ⟨g, 0, none⟩) i cc _ hs1 or_one (by omega) (by omega) (by have := HB5.out.size; rw [World.size_alloc]; exact Nat.le_succ_of_le this)
        obtain ⟨A6, c6, rfl⟩ := own_slice ho6
        have hb6 : Below w.heap.size w w6 := bP (bT HB5.out hbd) hlit hg6 (Nat.le_refl _)
        have hOw : OwnOr (wr.drew.alloc (.cells #[] 29)) w.heap.size (.slice (some ⟨g, 0, none⟩) j cc) j H := HO5.out.below hbd
        have hKw : Bk (wr.drew.alloc (.cells #[] 29)) w1.heap.size l := HK5.out.t hbd
        have hgne : g ≠ wr.heap.size := by omega
        have hO6 : OwnOr w6 w.heap.size (.slice (some ⟨g, 0, none⟩) j cc) j H := ⟨hOw.1, hOw.2.kept hg6 (Or.inr fun he => hgne (Option.some.inj he))⟩
        have hK6 : Bk w6 w1.heap.size l := Bk.row hKw hlit hg6
        have hsr6 := own_src hO6.2
        have HAP : Hid (∀ A2, (A2 = some ⟨g, (i + 1) * 5, none⟩ ∨ j = i + 1) → SrcAt w6 A2 (j - (i + 1)) 5 ((H.drop (i + 1)).flatMap orC)) := fun A2 hA2 => by
          by_cases hz : j = i + 1
          · rw [show j - (i + 1) = 0 by omega]
            exact ⟨by rw [orC_len2, List.length_drop, ← HM.out]; omega, fun h => absurd h (by omega)⟩
          · rcases hA2 with rfl | hA2
            · have := hsr6.drop (i := i + 1) (by omega)
              rw [orC_drop (by omega)] at this
              simpa using this
            · exact absurd hA2 hz
        have hy6 := (HY2.out.t hbd).grown hg6 (own_blk hlit (HY2.out.t hbd) (by decide))
        have ho6' : OwnOr w6 w.heap.size (.slice A6 i c6) i (H.take i) := ⟨by rw [List.length_take]; omega, by simpa using ho6⟩
        have hHM := HM.out
        have HR2 : Hid (∀ A2 c2, (A2 = some ⟨g, (i + 1) * 5, none⟩ ∨ j = i + 1) → ∃ A7 c7 w7, (Builtin.append_ #[22, 22] 22 #[.slice A6 i c6, .slice A2 (j - (i + 1)) c2]).run Tryd.prog w6 = .ok (.slice A7 (i + (j - (i + 1))) c7) w7 ∧ OwnOr w7 w.heap.size (.slice A7 (i + (j - (i + 1))) c7) (i + (j - (i + 1))) (H.take i ++ H.drop (i + 1)) ∧ Bk w7 w1.heap.size l ∧ Blk w7 wo.heap.size 45 #[.int .i64 id, .int .i64 pr, .int .i64 am, .int .i64 ra, .int .i64 tt, .bool true] ∧ Below w.heap.size w w7) := fun A2 c2 hA2 => by
          obtain ⟨v7, w7, hr2, ho7, hg7⟩ := run_appN (P := Tryd.prog) w6 22 22 29 _ 5 40 Tryd.underlying22 info_order rfl (by decide) ho6'.2 A2 (j - (i + 1)) c2 _ (HAP.out A2 hA2) or_one (by omega) (by omega) hb6.size
          obtain ⟨A7, c7, rfl⟩ := own_slice ho7
          exact ⟨A7, c7, w7, hr2, ⟨by rw [List.length_append, List.length_take, List.length_drop]; omega, by rw [List.flatMap_append]; exact ho7⟩, Bk.row hK6 ho6'.2 hg7, hy6.grown hg7 (own_blk ho6'.2 hy6 (by decide)), bP hb6 ho6'.2 hg7 (Nat.le_refl _)⟩
        have hr1' : (Builtin.append_ #[22, 22] 22 #[.slice (some ⟨wr.heap.size, 0, none⟩) 0 0, .slice (some ⟨g, 0, none⟩) i cc]).run Tryd.prog (wr.drew.alloc (.cells #[] 29)) = .ok (.slice A6 i c6) w6 := by simpa using hr1
        have HRA := Lib.hid hr1'
        have va : ¬ ((i : Int) < 0) := by omega
        have hw1 : IntKind.i64.wrap ((i : Int) + 1) = (i : Int) + 1 := IntWalk.i64_in _ (by omega)
        have hw2 : (0 : Int) ≤ (i : Int) + 1 := by omega
        have hw3 : ((i : Int) + 1).toNat = i + 1 := by omega
        have hw4 : (i : Int) ≤ (cc : Int) := by omega
        have hw5 : (i : Int) + 1 ≤ (j : Int) := by omega
        have hij : i + (j - (i + 1)) ≤ 8 := by omega
        by_cases ec : cc = i + 1
        · have hji : j = i + 1 := by omega
          have HJI := Lib.hid hji
          have hw6 : (i : Int) ≤ (i : Int) + 1 := by omega
          have hw7 : i ≤ i + 1 := by omega
          have hw8 : (i : Int) ≤ ((i + 1 : Nat) : Int) := by omega
          clear he hex hih hbe hbd hlit hsr hs1 hr1 ho6 hg6 hb6 hOw hKw hgne hO6 hK6 hsr6 hy6 ho6' hr1' hHM hji
          obtain ⟨A7, c7, w7, hr2, ho7, hk7, hy7, hb7⟩ := HR2.out (some ⟨g, 0, none⟩) (cc - (i + 1)) (Or.inr HJI.out)
          have HRB := Lib.hid hr2
          have HO6 := Lib.hid ho7
          have HK6 := Lib.hid hk7
          have HB6 := Lib.hid hb7
          obtain ⟨z0, z1, z2, z3, z4, z5⟩ : w7.cell? ⟨wo.heap.size, 0, none⟩ = some (.int .i64 id) ∧ w7.cell? ⟨wo.heap.size, 1, none⟩ = some (.int .i64 pr) ∧ w7.cell? ⟨wo.heap.size, 2, none⟩ = some (.int .i64 am) ∧ w7.cell? ⟨wo.heap.size, 3, none⟩ = some (.int .i64 ra) ∧ w7.cell? ⟨wo.heap.size, 4, none⟩ = some (.int .i64 tt) ∧ w7.cell? ⟨wo.heap.size, 5, none⟩ = some (.bool true) := ⟨hy7.cell 0, hy7.cell 1, hy7.cell 2, hy7.cell 3, hy7.cell 4, hy7.cell 5⟩
          have KCA2 := Lib.hid (KCA.out w7 0 (cutO l id) hk7 HCE.out)
          clear hr2 ho7 hk7 hy7 hb7
          go_wp2_with fail
          go_region_law (first | (refine step_of_run rfl _ _ 22 rfl _ _ (by simp [Act.eval]) (by simp [Act.eval, ec]) _ w6 HRA.out ?_) | (refine step_of_run rfl _ _ 22 rfl _ _ (by simp [Act.eval]) (by simp [Act.eval, ec]) _ w7 HRB.out ?_))
          go_wp2_with fail
          refine KCA2.out.mono ?_
          rintro e wz ⟨rfl, hk7, hg7⟩
          have HK7 := Lib.hid hk7
          have HO7 := Lib.hid (OwnOr.turn HO6.out HK6.out hg7)
          have HB7 := Lib.hid (TurnB.below HB6.out hg7 hpw)
          have HS7 := HS7a
          clear hk7 hg7
          have FINc := Lib.hid (FIN.out wz A7 (i + (j - (i + 1))) c7 (H.take i ++ H.drop (i + 1)) (cutO l id) HO7.out HK7.out HS7.out)
          go_wp2_with fail
          refine FINc.out.mono ?_
          rintro e w8 ⟨⟨A4, c4, rfl, KS⟩, hb8⟩
          have KS := Lib.hid KS
          go_wp2_with fail
          refine KS.out.mono ?_
          rintro e w9 ⟨rfl, hb9⟩
          have hb10 := bT hb8 hb9
          go_wp2_with fail
          go_roundw
          case rel => exact ⟨k + 1, (i + (j - (i + 1))), c7, A7, (H.take i ++ H.drop (i + 1)), (cutO l id), by omega, by go_num, rfl, by omega, HO7.out.below hb10, HK7.out.t hb10, HS7.out, bT HB7.out hb10⟩
          case measure => simp [intOf]; omega
        · clear he hex hih hbe hbd hlit hsr hs1 hr1 ho6 hg6 hb6 hOw hKw hgne hO6 hK6 hsr6 hy6 ho6' hr1' hHM
          obtain ⟨A7, c7, w7, hr2, ho7, hk7, hy7, hb7⟩ := HR2.out (some ⟨g, (i + 1) * 5, none⟩) (cc - (i + 1)) (Or.inl rfl)
          have HRB := Lib.hid hr2
          have HO6 := Lib.hid ho7
          have HK6 := Lib.hid hk7
          have HB6 := Lib.hid hb7
          obtain ⟨z0, z1, z2, z3, z4, z5⟩ : w7.cell? ⟨wo.heap.size, 0, none⟩ = some (.int .i64 id) ∧ w7.cell? ⟨wo.heap.size, 1, none⟩ = some (.int .i64 pr) ∧ w7.cell? ⟨wo.heap.size, 2, none⟩ = some (.int .i64 am) ∧ w7.cell? ⟨wo.heap.size, 3, none⟩ = some (.int .i64 ra) ∧ w7.cell? ⟨wo.heap.size, 4, none⟩ = some (.int .i64 tt) ∧ w7.cell? ⟨wo.heap.size, 5, none⟩ = some (.bool true) := ⟨hy7.cell 0, hy7.cell 1, hy7.cell 2, hy7.cell 3, hy7.cell 4, hy7.cell 5⟩
          have KCA2 := Lib.hid (KCA.out w7 0 (cutO l id) hk7 HCE.out)
          clear hr2 ho7 hk7 hy7 hb7
          go_wp2_with fail
          go_region_law (first | (refine step_of_run rfl _ _ 22 rfl _ _ (by simp [Act.eval]) (by simp [Act.eval]) _ w6 HRA.out ?_) | (refine step_of_run rfl _ _ 22 rfl _ _ (by simp [Act.eval]) (by simp [Act.eval]) _ w7 HRB.out ?_))
          go_wp2_with fail
          refine KCA2.out.mono ?_
          rintro e wz ⟨rfl, hk7, hg7⟩
          have HK7 := Lib.hid hk7
          have HO7 := Lib.hid (OwnOr.turn HO6.out HK6.out hg7)
          have HB7 := Lib.hid (TurnB.below HB6.out hg7 hpw)
          have HS7 := HS7a
          clear hk7 hg7
          have FINc := Lib.hid (FIN.out wz A7 (i + (j - (i + 1))) c7 (H.take i ++ H.drop (i + 1)) (cutO l id) HO7.out HK7.out HS7.out)
          go_wp2_with fail
          refine FINc.out.mono ?_
          rintro e w8 ⟨⟨A4, c4, rfl, KS⟩, hb8⟩
          have KS := Lib.hid KS
          go_wp2_with fail
          refine KS.out.mono ?_
          rintro e w9 ⟨rfl, hb9⟩
          have hb10 := bT hb8 hb9
          go_wp2_with fail
          go_roundw
          case rel => exact ⟨k + 1, (i + (j - (i + 1))), c7, A7, (H.take i ++ H.drop (i + 1)), (cutO l id), by omega, by go_num, rfl, by omega, HO7.out.below hb10, HK7.out.t hb10, HS7.out, bT HB7.out hb10⟩
          case measure => simp [intOf]; omega
      case false =>
        obtain ⟨r, hr⟩ : ∃ r, orE id pr am ra tt = r := ⟨_, rfl⟩
        have KWr := Lib.hid (fun W => wrong_c id pr am ra tt W)
        rw [hr] at KWr
        have HAE : Hid (addE l (⟨id, pr, am, ra, tt, 0, 0⟩ : Od) = if r ≠ 0 then r else if atO l id < l.length then 4 else if l.length = 8 then 2 else 0) := addE_r hr
        have KAD : Hid (∀ W e2 l2, Bk W w1.heap.size l → addE l (⟨id, pr, am, ra, tt, 0, 0⟩ : Od) = e2 → addL l (⟨id, pr, am, ra, tt, 0, 0⟩ : Od) = l2 → Calls Tryd.prog 9 #[.pointer (some ⟨w1.heap.size, 0, none⟩), .agg #[.int .i64 id, .int .i64 pr, .int .i64 am, .int .i64 ra, .int .i64 tt]] W (TurnB w1.heap.size l2 (.int .i64 e2) W)) := fun W e2 l2 h h1 h2 => bx_add w1.heap.size l l2 id pr am ra tt e2 W h (by have := HST.out.len; omega) HST.out.so ⟨h1, h2⟩
        have vr : (r != r) = false := by simp
        clear hr
        go_wp2_with fail
        refine (KWr.out _).mono ?_
        rintro e w6 ⟨rfl, hb6⟩
        clear y0 y1 y2' y3 y4 y5
        obtain ⟨y0, y1, y2', y3, y4, y5⟩ : w6.cell? ⟨wo.heap.size, 0, none⟩ = some (.int .i64 id) ∧ w6.cell? ⟨wo.heap.size, 1, none⟩ = some (.int .i64 pr) ∧ w6.cell? ⟨wo.heap.size, 2, none⟩ = some (.int .i64 am) ∧ w6.cell? ⟨wo.heap.size, 3, none⟩ = some (.int .i64 ra) ∧ w6.cell? ⟨wo.heap.size, 4, none⟩ = some (.int .i64 tt) ∧ w6.cell? ⟨wo.heap.size, 5, none⟩ = some (.bool false) := ⟨(HY2.out.t hb6).cell 0, (HY2.out.t hb6).cell 1, (HY2.out.t hb6).cell 2, (HY2.out.t hb6).cell 3, (HY2.out.t hb6).cell 4, (HY2.out.t hb6).cell 5⟩
        by_cases h0 : r = 0
        case neg =>
          have H0 := Lib.hid h0
          have vr0 : (r != 0) = true := by simpa using h0
          have hae : addE l (⟨id, pr, am, ra, tt, 0, 0⟩ : Od) = r := HAE.out.trans (if_pos h0)
          have HAE2 := Lib.hid hae
          clear h0 hae
          have KAD2 := Lib.hid (KAD.out w6 r l (HK5.out.t hb6) HAE2.out (by rw [addL, if_neg]; rw [HAE2.out]; first | decide | exact H0.out))
          go_wp2_with fail
          refine KAD2.out.mono ?_
          rintro e w7 ⟨rfl, hk7, hg7⟩
          have HK7 := Lib.hid hk7
          have HO7 := Lib.hid ((HO5.out.below hb6).turn (HK5.out.t hb6) hg7)
          have HB7 := Lib.hid (TurnB.below (bT HB5.out hb6) hg7 hpw)
          have HS7 := HST
          clear hk7 hg7
          have FINc := Lib.hid (FIN.out w7 A1 j cc H l HO7.out HK7.out HS7.out)
          go_wp2_with fail
          refine FINc.out.mono ?_
          rintro e w8 ⟨⟨A4, c4, rfl, KS⟩, hb8⟩
          have KS := Lib.hid KS
          go_wp2_with fail
          refine KS.out.mono ?_
          rintro e w9 ⟨rfl, hb9⟩
          have hb10 := bT hb8 hb9
          go_wp2_with fail
          go_roundw
          case rel => exact ⟨k + 1, j, cc, A1, H, l, by omega, by go_num, rfl, by omega, HO7.out.below hb10, HK7.out.t hb10, HS7.out, bT HB7.out hb10⟩
          case measure => simp [intOf]; omega
        subst h0
        have HAE2 := Lib.hid (HAE.out.trans (if_neg (fun h => h rfl)))
        rcases HF.out with ⟨ha, hn⟩ | ⟨i, hi, ha, he⟩
        case inr =>
          subst ha
          have hex : atO l id < l.length := HST.out.has.2 ⟨i, by rw [← HM.out]; exact hi, he⟩
          have HAE3 := Lib.hid (HAE2.out.trans (if_pos hex))
          have va : (0 : Int) ≤ (i : Int) := by omega
          clear he hex
          have KAD2 := Lib.hid (KAD.out w6 4 l (HK5.out.t hb6) HAE3.out (by rw [addL, if_neg]; rw [HAE3.out]; first | decide | exact H0.out))
          go_wp2_with fail
          refine KAD2.out.mono ?_
          rintro e w7 ⟨rfl, hk7, hg7⟩
          have HK7 := Lib.hid hk7
          have HO7 := Lib.hid ((HO5.out.below hb6).turn (HK5.out.t hb6) hg7)
          have HB7 := Lib.hid (TurnB.below (bT HB5.out hb6) hg7 hpw)
          have HS7 := HST
          clear hk7 hg7
          have FINc := Lib.hid (FIN.out w7 A1 j cc H l HO7.out HK7.out HS7.out)
          go_wp2_with fail
          refine FINc.out.mono ?_
          rintro e w8 ⟨⟨A4, c4, rfl, KS⟩, hb8⟩
          have KS := Lib.hid KS
          go_wp2_with fail
          refine KS.out.mono ?_
          rintro e w9 ⟨rfl, hb9⟩
          have hb10 := bT hb8 hb9
          go_wp2_with fail
          go_roundw
          case rel => exact ⟨k + 1, j, cc, A1, H, l, by omega, by go_num, rfl, by omega, HO7.out.below hb10, HK7.out.t hb10, HS7.out, bT HB7.out hb10⟩
          case measure => simp [intOf]; omega
        subst ha
        have hnex : ¬ atO l id < l.length := fun h => by
          obtain ⟨i, hi, he⟩ := HST.out.has.1 h
          exact hn i (by rw [HM.out]; exact hi) he
        have HAE3 := Lib.hid (HAE2.out.trans (if_neg hnex))
        have HNEX := Lib.hid hnex
        clear hn hnex
        by_cases h8 : j = 8
        · have HAE4 := Lib.hid (HAE3.out.trans (if_pos (by rw [← HML.out]; exact h8)))
          have v8 : ((j : Int) == 8) = true := by simp; omega
          clear h8
          have KAD2 := Lib.hid (KAD.out w6 2 l (HK5.out.t hb6) HAE4.out (by rw [addL, if_neg]; rw [HAE4.out]; first | decide | exact H0.out))
          go_wp2_with fail
          refine KAD2.out.mono ?_
          rintro e w7 ⟨rfl, hk7, hg7⟩
          have HK7 := Lib.hid hk7
          have HO7 := Lib.hid ((HO5.out.below hb6).turn (HK5.out.t hb6) hg7)
          have HB7 := Lib.hid (TurnB.below (bT HB5.out hb6) hg7 hpw)
          have HS7 := HST
          clear hk7 hg7
          have FINc := Lib.hid (FIN.out w7 A1 j cc H l HO7.out HK7.out HS7.out)
          go_wp2_with fail
          refine FINc.out.mono ?_
          rintro e w8 ⟨⟨A4, c4, rfl, KS⟩, hb8⟩
          have KS := Lib.hid KS
          go_wp2_with fail
          refine KS.out.mono ?_
          rintro e w9 ⟨rfl, hb9⟩
          have hb10 := bT hb8 hb9
          go_wp2_with fail
          go_roundw
          case rel => exact ⟨k + 1, j, cc, A1, H, l, by omega, by go_num, rfl, by omega, HO7.out.below hb10, HK7.out.t hb10, HS7.out, bT HB7.out hb10⟩
          case measure => simp [intOf]; omega
        have HAE4 := Lib.hid (HAE3.out.trans (if_neg (by rw [← HML.out]; exact h8)))
        have v8 : ((j : Int) == 8) = false := by simp; omega
        have hj8 : j + 1 ≤ 8 := by omega
        have HS7 : Hid (Stand (insO l (⟨id, pr, am, ra, tt, 0, 0⟩ : Od)) (H ++ [(⟨id, pr, am, ra, tt, 0, 0⟩ : Od)])) := HST.out.add ⟨rfl, rfl⟩ HNEX.out (by rw [← HML.out]; exact h8)
        have hyw := Blk.mk w6 29 #[.int .i64 id, .int .i64 pr, .int .i64 am, .int .i64 ra, .int .i64 tt]
        have HSRC : Hid (SrcAt (w6.alloc (.cells #[.int .i64 id, .int .i64 pr, .int .i64 am, .int .i64 ra, .int .i64 tt] 29)) (some ⟨w6.heap.size, 0, none⟩) 1 5 (orC (⟨id, pr, am, ra, tt, 0, 0⟩ : Od))) := ⟨rfl, fun _ => ⟨_, 0, rfl, hyw.lt, fun q u hu => by rw [Nat.zero_add, hyw.cell q]; simpa [orC] using hu⟩⟩
        have HOW := Lib.hid ((HO5.out.below hb6).below (below1 w6 (.cells #[.int .i64 id, .int .i64 pr, .int .i64 am, .int .i64 ra, .int .i64 tt] 29))).2
        have hsz6 := (bT HB5.out hb6).size
        have hbw := bT hb6 (below1 w6 (.cells #[.int .i64 id, .int .i64 pr, .int .i64 am, .int .i64 ra, .int .i64 tt] 29))
        have HBW := Lib.hid hbw
        have one : ∀ u ∈ orC (⟨id, pr, am, ra, tt, 0, 0⟩ : Od), u.oneCell' = true := fun u hu => or_one (l := [(⟨id, pr, am, ra, tt, 0, 0⟩ : Od)]) u (by simpa using hu)
        clear hyw hbw h8
        go_wp2_with (at_builtin; refine wpList_appN _ rfl _ _ 22 rfl 29 _ 5 40 Tryd.underlying22 info_order rfl (by decide) rfl HOW.out _ _ _ _ rfl HSRC.out one (by omega) (by omega) (by rw [World.size_alloc]; omega) ?_; intro v' w7 ho' hg; obtain ⟨A7, c7, rfl⟩ := own_slice ho'; have HO' := Lib.hid ho'; have HG : Hid ((w6.alloc (.cells #[.int .i64 id, .int .i64 pr, .int .i64 am, .int .i64 ra, .int .i64 tt] 29)).grownBy w7 (Value.slice A1 j cc).ownBlock) := hg; have hy7 := (HY2.out.t HBW.out).grown hg (own_blk HOW.out (HY2.out.t HBW.out) (by decide)); clear y0 y1 y2' y3 y4 y5; obtain ⟨y0, y1, y2', y3, y4, y5⟩ : w7.cell? ⟨wo.heap.size, 0, none⟩ = some (.int .i64 id) ∧ w7.cell? ⟨wo.heap.size, 1, none⟩ = some (.int .i64 pr) ∧ w7.cell? ⟨wo.heap.size, 2, none⟩ = some (.int .i64 am) ∧ w7.cell? ⟨wo.heap.size, 3, none⟩ = some (.int .i64 ra) ∧ w7.cell? ⟨wo.heap.size, 4, none⟩ = some (.int .i64 tt) ∧ w7.cell? ⟨wo.heap.size, 5, none⟩ = some (.bool false) := ⟨hy7.cell 0, hy7.cell 1, hy7.cell 2, hy7.cell 3, hy7.cell 4, hy7.cell 5⟩; clear hy7 hg ho')
        have hk7 := Bk.row (HK5.out.t HBW.out) HOW.out HG.out
        have KAD3 := Lib.hid (KAD.out w7 0 (insO l (⟨id, pr, am, ra, tt, 0, 0⟩ : Od)) hk7 HAE4.out (by rw [addL, if_pos HAE4.out]))
        have HK7a := Lib.hid hk7
        clear hk7
        refine KAD3.out.mono ?_
        rintro e wz ⟨rfl, hk8, hg8⟩
        have HK7 := Lib.hid hk8
        have HO7 : Hid (OwnOr wz w.heap.size (.slice A7 (j + 1) c7) (j + 1) (H ++ [(⟨id, pr, am, ra, tt, 0, 0⟩ : Od)])) := OwnOr.turn ⟨by rw [List.length_append, ← HM.out]; rfl, by have := HO'.out; rw [List.flatMap_append]; simpa using this⟩ HK7a.out hg8
        have HB7 := Lib.hid (TurnB.below (bP (bT HB5.out HBW.out) HOW.out HG.out (Nat.le_refl _)) hg8 hpw)
        clear hk8 hg8
        have FINc := Lib.hid (FIN.out wz A7 (j + 1) c7 (H ++ [(⟨id, pr, am, ra, tt, 0, 0⟩ : Od)]) (insO l (⟨id, pr, am, ra, tt, 0, 0⟩ : Od)) HO7.out HK7.out HS7.out)
        go_wp2_with fail
        refine FINc.out.mono ?_
        rintro e w8 ⟨⟨A4, c4, rfl, KS⟩, hb8⟩
        have KS := Lib.hid KS
        go_wp2_with fail
        refine KS.out.mono ?_
        rintro e w9 ⟨rfl, hb9⟩
        have hb10 := bT hb8 hb9
        go_wp2_with fail
        go_roundw
        case rel => exact ⟨k + 1, (j + 1), c7, A7, (H ++ [(⟨id, pr, am, ra, tt, 0, 0⟩ : Od)]), (insO l (⟨id, pr, am, ra, tt, 0, 0⟩ : Od)), by omega, by go_num, rfl, by omega, HO7.out.below hb10, HK7.out.t hb10, HS7.out, bT HB7.out hb10⟩
        case measure => simp [intOf]; omega
--%%
end Go.Proofs.YtfhbnojhmeodiaaDoor
