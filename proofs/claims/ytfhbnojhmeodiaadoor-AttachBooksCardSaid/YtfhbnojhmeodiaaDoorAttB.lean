/-
  Contracts of attach.Serve, whole, and of attach.Book. Conditions as named.
-/
import Derived.Test.YtfhbnojhmeodiaaDoorServe
import Derived.Test.YtfhbnojhmeodiaaDoorBookP6
import Derived.Test.YtfhbnojhmeodiaaDoorBook8
namespace Go.Proofs.YtfhbnojhmeodiaaDoor
set_option linter.unusedVariables false
open Go.RowKit
--%%
def SvR (l : List Od) (net prot : Int) (n : Nat) (w : World) (e : Ending) (w' : World) : Prop :=
  ((serveE l net prot = 0 ∧ ∃ v, e = .returned (.tuple #[v, .int .i64 (leftA l net prot n), .int .i64 0]) ∧ OwnTk w' w.heap.size v n (tkL l net prot n)) ∨
   (serveE l net prot ≠ 0 ∧ e = .returned (.tuple #[.slice none 0 0, .int .i64 0, .int .i64 (serveE l net prot)]))) ∧ Below w.heap.size w w'
theorem serve_all (net prot : Int) (A : Option Addr) (n c : Nat) (l : List Od) (w : World) (hl : OdSl w A n l) (hok : ∀ k, k < n → OdOK (l.getD k od0)) (hn2 : n ≤ 1000) :
    Calls Tryd.prog 11 #[.int .i64 net, .int .i64 prot, .slice A n c] w (SvR l net prot n w) := by
  have hn := hl.1
  by_cases h1 : mrB net = true ∧ mrB prot = true
  · by_cases h2 : prot < 0
    · have e := serveE_r (l := l) h1 h2
      refine (serve_r net prot A n c w h1 h2).mono ?_
      rintro ee w' ⟨rfl, hb⟩
      exact ⟨Or.inr ⟨by rw [e]; decide, by rw [e]⟩, hb⟩
    · refine (serve_c net prot A n c l w h1.1 h1.2 (by omega) hl hok hn2).mono ?_
      rintro ee w' ⟨⟨h3, v, rfl, ho⟩ | ⟨k, hk, h4, h5, rfl⟩, hb⟩
      · exact ⟨Or.inl ⟨serveE_all h1 (by omega) (fun k hk => h3 k (by omega)), v, rfl, ho⟩, hb⟩
      · have e := serveE_one h1 (by omega) (show k < l.length by omega) h5
        exact ⟨Or.inr ⟨by rw [e]; decide, by rw [e]⟩, hb⟩
  · have e := serveE_o (l := l) h1
    refine (serve_o net prot A n c w h1).mono ?_
    rintro ee w' ⟨rfl, hb⟩
    exact ⟨Or.inr ⟨by rw [e]; decide, by rw [e]⟩, hb⟩
theorem serve_yes (net prot : Int) (A : Option Addr) (n c : Nat) (l : List Od) (w : World) (hl : OdSl w A n l) (hok : ∀ k, k < n → OdOK (l.getD k od0)) (hn2 : n ≤ 1000) (h : serveE l net prot = 0) :
    Calls Tryd.prog 11 #[.int .i64 net, .int .i64 prot, .slice A n c] w fun e w' => ∃ v, (e = .returned (.tuple #[v, .int .i64 (leftA l net prot n), .int .i64 0]) ∧ OwnTk w' w.heap.size v n (tkL l net prot n)) ∧ Below w.heap.size w w' := by
  refine (serve_all net prot A n c l w hl hok hn2).mono ?_
  rintro e w' ⟨⟨_, v, h2, h3⟩ | ⟨h2, _⟩, hb⟩
  · exact ⟨v, ⟨h2, h3⟩, hb⟩
  · exact absurd h h2
theorem serve_no (net prot : Int) (A : Option Addr) (n c : Nat) (l : List Od) (w : World) (hl : OdSl w A n l) (hok : ∀ k, k < n → OdOK (l.getD k od0)) (hn2 : n ≤ 1000) (r : Int) (hr : serveE l net prot = r) (h : r ≠ 0) :
    Calls Tryd.prog 11 #[.int .i64 net, .int .i64 prot, .slice A n c] w fun e w' => e = .returned (.tuple #[.slice none 0 0, .int .i64 0, .int .i64 r]) ∧ Below w.heap.size w w' := by
  subst hr
  refine (serve_all net prot A n c l w hl hok hn2).mono ?_
  rintro e w' ⟨⟨h2, _⟩ | ⟨_, h2⟩, hb⟩
  · exact absurd h2 h
  · exact ⟨h2, hb⟩
--%%
theorem od_of {l : List Od} (h : GoodA l) {n : Nat} (hn : n = l.length) : ∀ k, k < n → OdOK (l.getD k od0) := fun k hk => (h.at (by omega)).1
set_option maxRecDepth 100000 in
set_option maxHeartbeats 3200000 in
theorem abook_no (net prot : Int) (p : Nat) (l : List Od) (w : World) (hb : Bk w p l) (hg : GoodA l) (r : Int) (hr : serveE l net prot = r) (h : r ≠ 0) :
    Calls Tryd.prog 12 #[.int .i64 net, .int .i64 prot, .pointer (some ⟨p, 0, none⟩)] w fun e w' => e = .returned (.tuple #[.slice none 0 0, .int .i64 0, .int .i64 r]) ∧ Below w.heap.size w w' := by
  have hlen := hg.len
  obtain ⟨n, hn⟩ : ∃ n, n = l.length := ⟨_, rfl⟩
  have KL := blist_c p l w hb (by omega)
  unfold GivesOd at KL
  rw [← hn] at KL hlen
  have HKL := Lib.hid KL
  have KS := Lib.hid (fun A c W hs => serve_no net prot A n c l W hs (od_of hg hn) (by omega) r hr h)
  have v0 : (r != 0) = true := by simpa using h
  clear KL hr h hn hb
  go_enter Tryd.func12, Tryd.ntmps12
  go_wp2_with fail
  refine HKL.out.mono ?_
  rintro e w1 ⟨⟨v1, rfl, ho⟩, hb1⟩
  obtain ⟨A1, c1, rfl⟩ := own_slice ho.2
  have HS := Lib.hid (own_at ho)
  have HB1 := Lib.hid hb1
  clear ho hb1
  go_wp2_with fail
  refine (KS.out A1 c1 _ HS.out).mono ?_
  rintro e w2 ⟨rfl, hb2⟩
  have HB2 := Lib.hid (bT HB1.out hb2)
  clear hb2
  go_wp2_with fail
  go_ret3
  exact ⟨rfl, HB2.out⟩
set_option maxRecDepth 100000 in
set_option maxHeartbeats 3200000 in
theorem abook_f (net prot : Int) (p : Nat) (l : List Od) (w : World) (hb : Bk w p l) (hg : GoodA l) (h : serveE l net prot = 0) (ht : tookE l (tkL l net prot l.length) ≠ 0) :
    Calls Tryd.prog 12 #[.int .i64 net, .int .i64 prot, .pointer (some ⟨p, 0, none⟩)] w fun e w' => (e = .returned (.tuple #[.slice none 0 0, .int .i64 0, .int .i64 10]) ∧ Bk w' p l) ∧ w.grownBy w' (some p) := by
  have hlen := hg.len
  obtain ⟨h10, hll⟩ := took_turn_f hg.ids (turn_tk l net prot) ht
  obtain ⟨n, hn⟩ : ∃ n, n = l.length := ⟨_, rfl⟩
  have KL := blist_c p l w hb (by omega)
  unfold GivesOd at KL
  rw [← hn] at KL hlen
  have HKL := Lib.hid KL
  have KS := Lib.hid (fun A c W hs => serve_yes net prot A n c l W hs (od_of hg hn) (by omega) h)
  have HBK := Lib.hid hb
  have KT : Hid (∀ A c W, Bk W p l → TkSl W A n (tkL l net prot n) → Calls Tryd.prog 18 #[.pointer (some ⟨p, 0, none⟩), .slice A n c] W fun e w' => e = .returned (.int .i64 10) ∧ Bk w' p l ∧ W.grownBy w' (some p)) := fun A c W hk hs => by
    have := btook_c p l A n c _ W hk (by omega) hs
    rw [hn] at this ⊢
    refine this.mono ?_
    unfold TookR
    rw [h10, hll]
    exact fun e w' h => h
  clear KL h ht hn hb h10 hll
  go_enter Tryd.func12, Tryd.ntmps12
  go_wp2_with fail
  refine HKL.out.mono ?_
  rintro e w1 ⟨⟨v1, rfl, ho⟩, hb1⟩
  obtain ⟨A1, c1, rfl⟩ := own_slice ho.2
  have HS := Lib.hid (own_at ho)
  have HB1 := Lib.hid hb1
  clear ho hb1
  go_wp2_with fail
  refine (KS.out A1 c1 _ HS.out).mono ?_
  rintro e w2 ⟨v2, ⟨rfl, ho2⟩, hb2⟩
  obtain ⟨A2, c2, rfl⟩ := own_slice ho2.2
  obtain ⟨_, _, he, hsl⟩ := ho2.sl
  injection he with e1 _ e2
  subst e1; subst e2
  have HB2 := Lib.hid (bT HB1.out hb2)
  have HSL := Lib.hid hsl
  clear hb2 ho2 hsl
  go_wp2_with fail
  refine (KT.out A2 c2 _ (HBK.out.t HB2.out) HSL.out).mono ?_
  rintro e w3 ⟨rfl, hk3, hg3⟩
  have HG := Lib.hid ((grown_of_below HB2.out (some p)).trans hg3)
  have HK := Lib.hid hk3
  clear hk3 hg3
  go_wp2_with fail
  go_ret3
  exact ⟨⟨rfl, HK.out⟩, HG.out⟩
set_option maxRecDepth 100000 in
set_option maxHeartbeats 3200000 in
theorem abook_t (net prot : Int) (p : Nat) (l : List Od) (w : World) (hb : Bk w p l) (hg : GoodA l) (h : serveE l net prot = 0) (ht : tookE l (tkL l net prot l.length) = 0) :
    Calls Tryd.prog 12 #[.int .i64 net, .int .i64 prot, .pointer (some ⟨p, 0, none⟩)] w fun e w' => ∃ v, (e = .returned (.tuple #[v, .int .i64 (leftA l net prot l.length), .int .i64 0]) ∧ OwnTk w' w.heap.size v l.length (tkL l net prot l.length) ∧ Bk w' p (tookL l (tkL l net prot l.length))) ∧ w.grownBy w' (some p) := by
  have hlen := hg.len
  obtain ⟨n, hn⟩ : ∃ n, n = l.length := ⟨_, rfl⟩
  have KL := blist_c p l w hb (by omega)
  unfold GivesOd at KL
  rw [← hn] at KL hlen ht ⊢
  have HKL := Lib.hid KL
  have KS := Lib.hid (fun A c W hs => serve_yes net prot A n c l W hs (od_of hg hn) (by omega) h)
  have HBK := Lib.hid hb
  have hplt := hb.lt
  have KT : Hid (∀ A c W, Bk W p l → TkSl W A n (tkL l net prot n) → Calls Tryd.prog 18 #[.pointer (some ⟨p, 0, none⟩), .slice A n c] W fun e w' => e = .returned (.int .i64 0) ∧ Bk w' p (tookL l (tkL l net prot n)) ∧ W.grownBy w' (some p)) := fun A c W hk hs => by
    refine (btook_c p l A n c _ W hk (by omega) hs).mono ?_
    unfold TookR
    rw [ht]
    exact fun e w' h => h
  clear KL h ht hn hb
  go_enter Tryd.func12, Tryd.ntmps12
  go_wp2_with fail
  refine HKL.out.mono ?_
  rintro e w1 ⟨⟨v1, rfl, ho⟩, hb1⟩
  obtain ⟨A1, c1, rfl⟩ := own_slice ho.2
  have HS := Lib.hid (own_at ho)
  have HB1 := Lib.hid hb1
  have hs1 := hb1.size
  clear ho hb1
  go_wp2_with fail
  refine (KS.out A1 c1 _ HS.out).mono ?_
  rintro e w2 ⟨v2, ⟨rfl, ho2⟩, hb2⟩
  obtain ⟨A2, c2, rfl⟩ := own_slice ho2.2
  obtain ⟨_, _, he, hsl⟩ := ho2.sl
  injection he with e1 _ e2
  subst e1; subst e2
  have HB2 := Lib.hid (bT HB1.out hb2)
  have HSL := Lib.hid hsl
  have HO2 := Lib.hid ho2
  have HK2 := Lib.hid (HBK.out.t HB2.out)
  clear hb2 ho2 hsl
  go_wp2_with fail
  refine (KT.out A2 c2 _ HK2.out HSL.out).mono ?_
  rintro e w3 ⟨rfl, hk3, hg3⟩
  have HG := Lib.hid ((grown_of_below HB2.out (some p)).trans hg3)
  have HK := Lib.hid hk3
  have HO3 : Hid (OwnTk w3 w.heap.size (.slice A2 n c2) n (tkL l net prot n)) := by
    obtain ⟨u, h1, h2⟩ := HK2.out
    have ho := HO2.out
    exact ⟨ho.1, own_more (ho.2.kept hg3 (Or.inr fun he => own_blk ho.2 h1 (by decide) he.symm)) hs1⟩
  clear hk3 hg3 hplt
  go_wp2_with fail
  go_ret3
  exact ⟨_, ⟨rfl, HO3.out, HK.out⟩, HG.out⟩
--%%
end Go.Proofs.YtfhbnojhmeodiaaDoor
