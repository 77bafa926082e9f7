/-
  Contracts of the library's functions at orders' states, and of the order in which they are served. Conditions as named.
-/
import Derived.Test.YtfhbnojhmeodiaaDoorBookP
import Derived.Test.YtfhbnojhmeodiaaDoorRowOps
import Derived.Test.YtfhbnojhmeodiaaDoorShelf
import Derived.Test.YtfhbnojhmeodiaaDoorServe
import Derived.Deep.QuietTactic
import Derived.BigQuiet
import Derived.Deep.RegionHeld3
import Derived.Lib.SliceRun
namespace Go.Proofs.YtfhbnojhmeodiaaDoor
set_option linter.unusedVariables false
open Go.RowKit
--%%
def OwnOd (w : World) (base : Nat) (v : Value) (n : Nat) (l : List Od) : Prop := n = l.length ∧ w.ownsRow base 39 7 v n (l.flatMap odC)
theorem info_state : (Tryd.prog.info? 39).map (fun i => (i.zero, i.size, i.bytes)) = some (some (.agg #[.int .i64 0, .int .i64 0, .int .i64 0, .int .i64 0, .int .i64 0, .int .i64 0, .int .i64 0]), 7, 56) := by kernel_rfl
theorem od_one {l : List Od} : ∀ u ∈ l.flatMap odC, u.oneCell' = true := fun u hu => by
  obtain ⟨z, _, hz⟩ := List.mem_flatMap.1 hu
  simp only [odC, List.mem_cons, List.not_mem_nil, or_false] at hz
  rcases hz with rfl | rfl | rfl | rfl | rfl | rfl | rfl <;> rfl
theorem OwnOd.sl {w : World} {base : Nat} {v : Value} {n : Nat} {l : List Od} (h : OwnOd w base v n l) : ∃ A c, v = .slice A n c ∧ n ≤ c ∧ OdSl w A n l := by
  obtain ⟨A, c, rfl, hc, hs⟩ := own_sl odC 7 od0 odC_len h.2 h.1 (by decide)
  exact ⟨A, c, rfl, hc, hs⟩
theorem OwnOd.below {w w' : World} {base : Nat} {v : Value} {n : Nat} {l : List Od} (h : OwnOd w base v n l) (hb : Below w.heap.size w w') : OwnOd w' base v n l := ⟨h.1, own_below h.2 hb⟩
theorem OwnOd.more {w : World} {base base' : Nat} {v : Value} {n : Nat} {l : List Od} (h : OwnOd w base v n l) (hb : base' ≤ base) : OwnOd w base' v n l := ⟨h.1, own_more h.2 hb⟩
def GivesOd (n : Nat) (l : List Od) (w : World) (e : Ending) (w' : World) : Prop := (∃ v, e = .returned v ∧ OwnOd w' w.heap.size v n l) ∧ Below w.heap.size w w'
--%%
theorem sclone_c (A : Option Addr) (n c : Nat) (l : List Od) (w : World) (h : OdSl w A n l) (hn : n ≤ 1000000) :
    Calls Tryd.prog 36 #[.slice A n c] w (GivesOd n l w) := by
  have hq := fun W => Lib.run_eql_slice_nil (P := Tryd.prog) W 25 39 A n c 0 0 Tryd.underlying25
  cases hA : A with
  | none =>
    subst hA
    obtain ⟨h1, h2, h3⟩ := h
    have h0 : n = 0 := by
      rcases Nat.eq_zero_or_pos n with h0 | h0
      · exact h0
      · obtain ⟨b, off, h, _⟩ := h3 h0
        cases h
    subst h0
    have hl : l = [] := List.eq_nil_of_length_eq_zero h1.symm
    subst hl
    clear h3 h1
    go_enter Tryd.func36, Tryd.ntmps36
    go_wp2
    go_ret
    exact ⟨⟨_, rfl, rfl, World.ownsRow_nil _ _ _ _⟩, Below.refl _ _⟩
  | some ad =>
    subst hA
    have HS := Lib.hid ((h.below (below1 w (.cells #[] 39))).src odC_len)
    have HN := Lib.hid h.1
    clear h
    have HO := Lib.hid (World.ownsRow_lit (e := 39) (size := 7) (base := w.heap.size) w #[] 0 (Nat.le_refl _) (by decide) rfl)
    go_enter Tryd.func36, Tryd.ntmps36
    go_wp2_with (at_builtin; refine wpList_appN _ rfl _ _ 25 rfl 39 _ 7 56 Tryd.underlying25 info_state rfl (by decide) rfl HO.out _ _ _ _ rfl HS.out od_one (by omega) (by omega) (by simp) ?_; intro v' w1 ho hg)
    go_ret
    refine ⟨⟨_, rfl, HN.out, ?_⟩, (below1 _ _).grown hg (by simp) (fun k hk => by injection hk with hk; exact Nat.le_of_eq hk)⟩
    simpa using ho
--%%
theorem osame1_c (id pr am ra tt tk ar : Int) (g : Nat) (q : Int) (W : World) (hz : W.cell? ⟨g, 0, none⟩ = some (.int .i64 q)) (hg : g < W.heap.size) (r : Bool) (hr : (id == q) = r) :
    Calls Tryd.prog 31 #[.agg #[.int .i64 id, .int .i64 pr, .int .i64 am, .int .i64 ra, .int .i64 tt, .int .i64 tk, .int .i64 ar], .pointer (some ⟨g, 0, none⟩)] W fun e w' => e = .returned (.bool r) ∧ Below W.heap.size W w' := by
  have hb0 := below1 W (.cells #[.int .i64 id, .int .i64 pr, .int .i64 am, .int .i64 ra, .int .i64 tt, .int .i64 tk, .int .i64 ar] 39)
  have d0 := (hb0.cell (p := ⟨g, _, none⟩) hg).trans hz
  go_enter Tryd.func31, Tryd.ntmps31
  go_wp2_with fail
  go_ret
  exact ⟨ret_bool (by simp), hb0⟩
--%%
theorem osame2_c (id pr am ra tt tk ar : Int) (g : Nat) (q : Int) (W : World) (hz : W.cell? ⟨g, 0, none⟩ = some (.int .i64 q)) (hg : g < W.heap.size) (r : Bool) (hr : (id == q) = r) :
    Calls Tryd.prog 43 #[.agg #[.int .i64 id, .int .i64 pr, .int .i64 am, .int .i64 ra, .int .i64 tt, .int .i64 tk, .int .i64 ar], .pointer (some ⟨g, 0, none⟩)] W fun e w' => e = .returned (.bool r) ∧ Below W.heap.size W w' := by
  have hb0 := below1 W (.cells #[.int .i64 id, .int .i64 pr, .int .i64 am, .int .i64 ra, .int .i64 tt, .int .i64 tk, .int .i64 ar] 39)
  have d0 := (hb0.cell (p := ⟨g, _, none⟩) hg).trans hz
  go_enter Tryd.func43, Tryd.ntmps43
  go_wp2_with fail
  go_ret
  exact ⟨ret_bool (by simp), hb0⟩
--%%
theorem osame3_c (id pr am ra tt tk ar : Int) (g : Nat) (q : Int) (W : World) (hz : W.cell? ⟨g, 0, none⟩ = some (.int .i64 q)) (hg : g < W.heap.size) (r : Bool) (hr : (id == q) = r) :
    Calls Tryd.prog 45 #[.agg #[.int .i64 id, .int .i64 pr, .int .i64 am, .int .i64 ra, .int .i64 tt, .int .i64 tk, .int .i64 ar], .pointer (some ⟨g, 0, none⟩)] W fun e w' => e = .returned (.bool r) ∧ Below W.heap.size W w' := by
  have hb0 := below1 W (.cells #[.int .i64 id, .int .i64 pr, .int .i64 am, .int .i64 ra, .int .i64 tt, .int .i64 tk, .int .i64 ar] 39)
  have d0 := (hb0.cell (p := ⟨g, _, none⟩) hg).trans hz
  go_enter Tryd.func45, Tryd.ntmps45
  go_wp2_with fail
  go_ret
  exact ⟨ret_bool (by simp), hb0⟩
--%%
def IdxO (l : List Od) (n : Nat) (q : Int) (W : World) (e : Ending) (w' : World) : Prop :=
  ((atO l q < n ∧ e = .returned (.int .i64 (atO l q : Nat))) ∨ (atO l q = n ∧ e = .returned (.int .i64 (-1)))) ∧ Below W.heap.size W w'
--%%
set_option maxHeartbeats 1600000 in
theorem oidx1_c (B : Option Addr) (n c : Nat) (l : List Od) (g : Nat) (q : Int) (W : World) (hs : OdSl W B n l) (hz : W.cell? ⟨g, 0, none⟩ = some (.int .i64 q)) (hg : g < W.heap.size) :
    Calls Tryd.prog 42 #[.slice B n c, .func (Fn.func 31) #[] #[.pointer (some ⟨g, 0, none⟩)]] W (IdxO l n q W) := by
  have HS := Lib.hid hs
  have HZ := Lib.hid hz
  have HL := Lib.hid hs.1
  have hm9 := hs.2.1
  clear hs hz
  go_enter Tryd.func42, Tryd.ntmps42
  go_wp2_with fail
  go_loopw [5, 8] (fun _ i wr => ∃ k : Nat, k ≤ n ∧ i = .int .i64 k ∧ Hid (∀ j, j < k → (l.getD j od0).id ≠ q) ∧ Below W.heap.size W wr) (fun _ i _ => n - (intOf i).toNat)
  case atStart => exact ⟨0, Nat.zero_le _, rfl, fun j hj => absurd hj (by omega), b0 _⟩
  case round =>
    obtain ⟨k, hk', rfl, HN, hbl⟩ := hrel
    by_cases hk : k < n
    case neg =>
      obtain rfl : k = n := by omega
      go_wp2_with fail
      go_ret
      exact ⟨Or.inr ⟨(atO_none (fun j hj => HN.out j (by rw [HL.out]; exact hj))).trans HL.out.symm, rfl⟩, hbl⟩
    obtain ⟨b, off, rfl, hlt, hat⟩ := (HS.out.below hbl).2.2 (by omega)
    have hcl := hat k hk
    have hgz := (hbl.cell (p := ⟨g, _, none⟩) hg).trans HZ.out
    have hsz := hbl.size
    have HNX : Hid ((l.getD k od0).id ≠ q → ∀ j, j < k + 1 → (l.getD j od0).id ≠ q) := fun h j hj => by
      rcases (by omega : j = k ∨ j < k) with rfl | hj
      · exact h
      · exact HN.out j hj
    have HYX : Hid ((l.getD k od0).id = q → atO l q = k) := fun h => atO_of (by rw [← HL.out]; exact hk) h HN.out
    generalize l.getD k od0 = zz at *
    obtain ⟨id, pr, am, ra, tt, tk, ar⟩ := zz
    obtain ⟨c0, c1, c2, c3, c4, c5, c6⟩ : wr.cell? ⟨b, off + k * 7, none⟩ = some (.int .i64 id) ∧ wr.cell? ⟨b, off + k * 7 + 1, none⟩ = some (.int .i64 pr) ∧ wr.cell? ⟨b, off + k * 7 + 2, none⟩ = some (.int .i64 am) ∧ wr.cell? ⟨b, off + k * 7 + 3, none⟩ = some (.int .i64 ra) ∧ wr.cell? ⟨b, off + k * 7 + 4, none⟩ = some (.int .i64 tt) ∧ wr.cell? ⟨b, off + k * 7 + 5, none⟩ = some (.int .i64 tk) ∧ wr.cell? ⟨b, off + k * 7 + 6, none⟩ = some (.int .i64 ar) := ⟨hcl 0 _ rfl, hcl 1 _ rfl, hcl 2 _ rfl, hcl 3 _ rfl, hcl 4 _ rfl, hcl 5 _ rfl, hcl 6 _ rfl⟩
    dsimp only at HNX HYX
    clear hcl hat
    by_cases he : id = q
    · have KS := Lib.hid (osame1_c id pr am ra tt tk ar g q wr hgz (by omega) true (by rw [he]; simp))
      have HE := Lib.hid (HYX.out he)
      clear hgz he
      go_wp2_with fail
      refine KS.out.mono ?_
      rintro e w2 ⟨rfl, hb2⟩
      go_wp2_with fail
      go_ret
      exact ⟨Or.inl ⟨by rw [HE.out]; exact hk, by rw [HE.out]; rfl⟩, bT hbl hb2⟩
    · have KS := Lib.hid (osame1_c id pr am ra tt tk ar g q wr hgz (by omega) false (by simpa using he))
      have HN2 := Lib.hid (HNX.out he)
      clear hgz he
      go_wp2_with fail
      refine KS.out.mono ?_
      rintro e w2 ⟨rfl, hb2⟩
      go_wp2_with fail
      go_roundw
      case rel => exact ⟨k + 1, by omega, by go_num, HN2.out, bT hbl hb2⟩
      case measure => simp [intOf]; omega
--%%
set_option maxHeartbeats 1600000 in
theorem oidx2_c (B : Option Addr) (n c : Nat) (l : List Od) (g : Nat) (q : Int) (W : World) (hs : OdSl W B n l) (hz : W.cell? ⟨g, 0, none⟩ = some (.int .i64 q)) (hg : g < W.heap.size) :
    Calls Tryd.prog 42 #[.slice B n c, .func (Fn.func 43) #[] #[.pointer (some ⟨g, 0, none⟩)]] W (IdxO l n q W) := by
  have HS := Lib.hid hs
  have HZ := Lib.hid hz
  have HL := Lib.hid hs.1
  have hm9 := hs.2.1
  clear hs hz
  go_enter Tryd.func42, Tryd.ntmps42
  go_wp2_with fail
  go_loopw [5, 8] (fun _ i wr => ∃ k : Nat, k ≤ n ∧ i = .int .i64 k ∧ Hid (∀ j, j < k → (l.getD j od0).id ≠ q) ∧ Below W.heap.size W wr) (fun _ i _ => n - (intOf i).toNat)
  case atStart => exact ⟨0, Nat.zero_le _, rfl, fun j hj => absurd hj (by omega), b0 _⟩
  case round =>
    obtain ⟨k, hk', rfl, HN, hbl⟩ := hrel
    by_cases hk : k < n
    case neg =>
      obtain rfl : k = n := by omega
      go_wp2_with fail
      go_ret
      exact ⟨Or.inr ⟨(atO_none (fun j hj => HN.out j (by rw [HL.out]; exact hj))).trans HL.out.symm, rfl⟩, hbl⟩
    obtain ⟨b, off, rfl, hlt, hat⟩ := (HS.out.below hbl).2.2 (by omega)
    have hcl := hat k hk
    have hgz := (hbl.cell (p := ⟨g, _, none⟩) hg).trans HZ.out
    have hsz := hbl.size
    have HNX : Hid ((l.getD k od0).id ≠ q → ∀ j, j < k + 1 → (l.getD j od0).id ≠ q) := fun h j hj => by
      rcases (by omega : j = k ∨ j < k) with rfl | hj
      · exact h
      · exact HN.out j hj
    have HYX : Hid ((l.getD k od0).id = q → atO l q = k) := fun h => atO_of (by rw [← HL.out]; exact hk) h HN.out
    generalize l.getD k od0 = zz at *
    obtain ⟨id, pr, am, ra, tt, tk, ar⟩ := zz
    obtain ⟨c0, c1, c2, c3, c4, c5, c6⟩ : wr.cell? ⟨b, off + k * 7, none⟩ = some (.int .i64 id) ∧ wr.cell? ⟨b, off + k * 7 + 1, none⟩ = some (.int .i64 pr) ∧ wr.cell? ⟨b, off + k * 7 + 2, none⟩ = some (.int .i64 am) ∧ wr.cell? ⟨b, off + k * 7 + 3, none⟩ = some (.int .i64 ra) ∧ wr.cell? ⟨b, off + k * 7 + 4, none⟩ = some (.int .i64 tt) ∧ wr.cell? ⟨b, off + k * 7 + 5, none⟩ = some (.int .i64 tk) ∧ wr.cell? ⟨b, off + k * 7 + 6, none⟩ = some (.int .i64 ar) := ⟨hcl 0 _ rfl, hcl 1 _ rfl, hcl 2 _ rfl, hcl 3 _ rfl, hcl 4 _ rfl, hcl 5 _ rfl, hcl 6 _ rfl⟩
    dsimp only at HNX HYX
    clear hcl hat
    by_cases he : id = q
    · have KS := Lib.hid (osame2_c id pr am ra tt tk ar g q wr hgz (by omega) true (by rw [he]; simp))
      have HE := Lib.hid (HYX.out he)
      clear hgz he
      go_wp2_with fail
      refine KS.out.mono ?_
      rintro e w2 ⟨rfl, hb2⟩
      go_wp2_with fail
      go_ret
      exact ⟨Or.inl ⟨by rw [HE.out]; exact hk, by rw [HE.out]; rfl⟩, bT hbl hb2⟩
    · have KS := Lib.hid (osame2_c id pr am ra tt tk ar g q wr hgz (by omega) false (by simpa using he))
      have HN2 := Lib.hid (HNX.out he)
      clear hgz he
      go_wp2_with fail
      refine KS.out.mono ?_
      rintro e w2 ⟨rfl, hb2⟩
      go_wp2_with fail
      go_roundw
      case rel => exact ⟨k + 1, by omega, by go_num, HN2.out, bT hbl hb2⟩
      case measure => simp [intOf]; omega
--%%
set_option maxHeartbeats 1600000 in
theorem oidx3_c (B : Option Addr) (n c : Nat) (l : List Od) (g : Nat) (q : Int) (W : World) (hs : OdSl W B n l) (hz : W.cell? ⟨g, 0, none⟩ = some (.int .i64 q)) (hg : g < W.heap.size) :
    Calls Tryd.prog 42 #[.slice B n c, .func (Fn.func 45) #[] #[.pointer (some ⟨g, 0, none⟩)]] W (IdxO l n q W) := by
  have HS := Lib.hid hs
  have HZ := Lib.hid hz
  have HL := Lib.hid hs.1
  have hm9 := hs.2.1
  clear hs hz
  go_enter Tryd.func42, Tryd.ntmps42
  go_wp2_with fail
  go_loopw [5, 8] (fun _ i wr => ∃ k : Nat, k ≤ n ∧ i = .int .i64 k ∧ Hid (∀ j, j < k → (l.getD j od0).id ≠ q) ∧ Below W.heap.size W wr) (fun _ i _ => n - (intOf i).toNat)
  case atStart => exact ⟨0, Nat.zero_le _, rfl, fun j hj => absurd hj (by omega), b0 _⟩
  case round =>
    obtain ⟨k, hk', rfl, HN, hbl⟩ := hrel
    by_cases hk : k < n
    case neg =>
      obtain rfl : k = n := by omega
      go_wp2_with fail
      go_ret
      exact ⟨Or.inr ⟨(atO_none (fun j hj => HN.out j (by rw [HL.out]; exact hj))).trans HL.out.symm, rfl⟩, hbl⟩
    obtain ⟨b, off, rfl, hlt, hat⟩ := (HS.out.below hbl).2.2 (by omega)
    have hcl := hat k hk
    have hgz := (hbl.cell (p := ⟨g, _, none⟩) hg).trans HZ.out
    have hsz := hbl.size
    have HNX : Hid ((l.getD k od0).id ≠ q → ∀ j, j < k + 1 → (l.getD j od0).id ≠ q) := fun h j hj => by
      rcases (by omega : j = k ∨ j < k) with rfl | hj
      · exact h
      · exact HN.out j hj
    have HYX : Hid ((l.getD k od0).id = q → atO l q = k) := fun h => atO_of (by rw [← HL.out]; exact hk) h HN.out
    generalize l.getD k od0 = zz at *
    obtain ⟨id, pr, am, ra, tt, tk, ar⟩ := zz
    obtain ⟨c0, c1, c2, c3, c4, c5, c6⟩ : wr.cell? ⟨b, off + k * 7, none⟩ = some (.int .i64 id) ∧ wr.cell? ⟨b, off + k * 7 + 1, none⟩ = some (.int .i64 pr) ∧ wr.cell? ⟨b, off + k * 7 + 2, none⟩ = some (.int .i64 am) ∧ wr.cell? ⟨b, off + k * 7 + 3, none⟩ = some (.int .i64 ra) ∧ wr.cell? ⟨b, off + k * 7 + 4, none⟩ = some (.int .i64 tt) ∧ wr.cell? ⟨b, off + k * 7 + 5, none⟩ = some (.int .i64 tk) ∧ wr.cell? ⟨b, off + k * 7 + 6, none⟩ = some (.int .i64 ar) := ⟨hcl 0 _ rfl, hcl 1 _ rfl, hcl 2 _ rfl, hcl 3 _ rfl, hcl 4 _ rfl, hcl 5 _ rfl, hcl 6 _ rfl⟩
    dsimp only at HNX HYX
    clear hcl hat
    by_cases he : id = q
    · have KS := Lib.hid (osame3_c id pr am ra tt tk ar g q wr hgz (by omega) true (by rw [he]; simp))
      have HE := Lib.hid (HYX.out he)
      clear hgz he
      go_wp2_with fail
      refine KS.out.mono ?_
      rintro e w2 ⟨rfl, hb2⟩
      go_wp2_with fail
      go_ret
      exact ⟨Or.inl ⟨by rw [HE.out]; exact hk, by rw [HE.out]; rfl⟩, bT hbl hb2⟩
    · have KS := Lib.hid (osame3_c id pr am ra tt tk ar g q wr hgz (by omega) false (by simpa using he))
      have HN2 := Lib.hid (HNX.out he)
      clear hgz he
      go_wp2_with fail
      refine KS.out.mono ?_
      rintro e w2 ⟨rfl, hb2⟩
      go_wp2_with fail
      go_roundw
      case rel => exact ⟨k + 1, by omega, by go_num, HN2.out, bT hbl hb2⟩
      case measure => simp [intOf]; omega
--%%
def HasO (l : List Od) (n : Nat) (q : Int) (W : World) (e : Ending) (w' : World) : Prop :=
  ((atO l q < n ∧ e = .returned (.bool true)) ∨ (atO l q = n ∧ e = .returned (.bool false))) ∧ Below W.heap.size W w'
theorem ohas_c (B : Option Addr) (n c : Nat) (l : List Od) (g : Nat) (q : Int) (W : World) (hs : OdSl W B n l) (hz : W.cell? ⟨g, 0, none⟩ = some (.int .i64 q)) (hg : g < W.heap.size) :
    Calls Tryd.prog 30 #[.slice B n c, .func (Fn.func 31) #[] #[.pointer (some ⟨g, 0, none⟩)]] W (HasO l n q W) := by
  have K := Lib.hid (oidx1_c B n c l g q W hs hz hg)
  clear hs hz
  go_enter Tryd.func30, Tryd.ntmps30
  go_wp2_with fail
  refine K.out.mono ?_
  rintro e w1 ⟨⟨h1, rfl⟩ | ⟨h1, rfl⟩, hb1⟩
  · have HA := Lib.hid h1
    clear h1
    go_wp2_with fail
    go_ret
    exact ⟨Or.inl ⟨HA.out, rfl⟩, hb1⟩
  · have HA := Lib.hid h1
    clear h1
    go_wp2_with fail
    go_ret
    exact ⟨Or.inr ⟨HA.out, rfl⟩, hb1⟩
--%%
theorem cor_c (g : Nat) (x y : Int) (w : World) (h0 : w.cell? ⟨g, 0, none⟩ = some (.int .i64 x)) (h1 : w.cell? ⟨g, 1, none⟩ = some (.int .i64 y)) (r : Int) (hr : Hid (r = if x ≠ 0 then x else y)) :
    Calls Tryd.prog 56 #[.slice (some ⟨g, 0, none⟩) 2 2] w fun e w' => e = .returned (.int .i64 r) ∧ w = w' := by
  by_cases hx : x = 0
  · have e : r = y := by rw [hr.out]; simp [hx]
    subst e
    subst hx
    by_cases hy : r = 0
    · subst hy
      clear hr
      go_enter Tryd.func56, Tryd.ntmps56
      go_wp2_with fail
      go_loop [8] (fun i => ∃ k : Nat, k ≤ 2 ∧ i = .int .i64 k) (fun i => 2 - (intOf i).toNat)
      case atStart => exact ⟨0, by decide, rfl⟩
      case round =>
        obtain ⟨k, hk, rfl⟩ := hrel
        rcases (by omega : k = 0 ∨ k = 1 ∨ k = 2) with rfl | rfl | rfl
        · go_wp2_with fail
          go_round
          case rel => exact ⟨1, by decide, rfl⟩
          case measure => simp [intOf]
        · go_wp2_with fail
          go_round
          case rel => exact ⟨2, by decide, rfl⟩
          case measure => simp [intOf]
        · go_wp2_with fail
          go_ret
          exact ⟨rfl, rfl⟩
    · have v : (r != 0) = true := by simpa using hy
      clear hr hy
      go_enter Tryd.func56, Tryd.ntmps56
      go_wp2_with fail
      go_loop [8] (fun i => ∃ k : Nat, k ≤ 1 ∧ i = .int .i64 k) (fun i => 2 - (intOf i).toNat)
      case atStart => exact ⟨0, by decide, rfl⟩
      case round =>
        obtain ⟨k, hk, rfl⟩ := hrel
        rcases (by omega : k = 0 ∨ k = 1) with rfl | rfl
        · go_wp2_with fail
          go_round
          case rel => exact ⟨1, by decide, rfl⟩
          case measure => simp [intOf]
        · go_wp2_with fail
          go_ret
          exact ⟨rfl, rfl⟩
  · have e : r = x := by rw [hr.out, if_pos hx]
    subst e
    have v : (r != 0) = true := by simpa using hx
    clear hr hx
    go_enter Tryd.func56, Tryd.ntmps56
    go_wp2_with fail
    go_loop [8] (fun i => i = .int .i64 0) (fun _ => 0)
    case atStart => rfl
    case round =>
      subst hrel
      go_wp2_with fail
      go_ret
      exact ⟨rfl, rfl⟩
--%%
end Go.Proofs.YtfhbnojhmeodiaaDoor
