/-
 Contract of attach.Serve. Conditions as named.
-/
import Derived.Test.YtiaabmhjkoohmaaGreatM0
import Derived.Deep.DeepCutAuto
import Derived.Outline
namespace Go.Proofs.YtiaabmhjkoohmaaGreat
set_option maxRecDepth 100000
set_option maxHeartbeats 25600000
set_option linter.unusedVariables false
set_option linter.unusedSimpArgs false
open Go.RowKit Tryz
open Lib (hid)
def OwnTk (w : World) (base : Nat) (v : Value) (n : Nat) (l : List Tk) : Prop := n = l.length ∧ w.ownsRow base 116 6 v n (l.flatMap tkC)
theorem info_taken : (prog.info? 116).map (fun i => (i.zero, i.size, i.bytes)) = some (some (.agg #[.int .i64 0, .int .i64 0, .int .i64 0, .int .i64 0, .int .i64 0, .int .i64 0]), 6, 48) := by kernel_rfl
theorem OwnTk.sl {w : World} {base : Nat} {v : Value} {n : Nat} {l : List Tk} (h : OwnTk w base v n l) : ∃ A c, v = .slice A n c ∧ TkSl w A n l := by
 obtain ⟨A, c, rfl, _, hs⟩ := own_sl tkC 6 tk0 tkC_len h.2 h.1 (by decide)
 exact ⟨A, c, rfl, hs⟩
theorem serve_o (net prot : Int) (A : Option Addr) (n c : Nat) (w : World) (h : ¬ (mrB net = true ∧ mrB prot = true)) :
  Calls prog 148 #[.int .i64 net, .int .i64 prot, .slice A n c] w fun e w' => e = .returned (.tuple #[.slice none 0 0, .int .i64 0, .int .i64 10]) ∧ Below w.heap.size w w' := by
 have v : (mrB net && mrB prot) = false := by simpa using h
 clear h
 go_enter func148, ntmps148
 go_wp2_with fail
 go_step3
 go_wp2_with fail
 refine (right2 _ _ _ net prot _ (by simp) (by simp)).mono ?_
 rintro e w1 ⟨rfl, rfl⟩
 go_wp2_with fail
 simp only [Exit.noGoto_ret]
 go_ret3
 exact ⟨rfl, bz1 _ _⟩
theorem serve_r (net prot : Int) (A : Option Addr) (n c : Nat) (w : World) (h : mrB net = true ∧ mrB prot = true) (hp : prot < 0) :
  Calls prog 148 #[.int .i64 net, .int .i64 prot, .slice A n c] w fun e w' => e = .returned (.tuple #[.slice none 0 0, .int .i64 0, .int .i64 1]) ∧ Below w.heap.size w w' := by
 have v : (mrB net && mrB prot) = true := by simpa using h
 have v2 : decide (prot < 0) = true := by simpa using hp
 clear h hp
 go_enter func148, ntmps148
 go_wp2_with fail
 go_step3
 go_wp2_with fail
 refine (right2 _ _ _ net prot _ (by simp) (by simp)).mono ?_
 rintro e w1 ⟨rfl, rfl⟩
 go_wp2_with fail
 simp only [Exit.noGoto_ret]
 go_ret3
 exact ⟨rfl, bz1 _ _⟩
def ServeR (l : List Od) (net prot : Int) (n : Nat) (w : World) (e : Ending) (w' : World) : Prop :=
  (((∀ k, k < n → oneE (l.getD k od0) net = 0) ∧ ∃ v, e = .returned (.tuple #[v, .int .i64 (leftA l net prot n), .int .i64 0]) ∧ OwnTk w' w.heap.size v n (tkL l net prot n)) ∨
   (∃ k, k < n ∧ (∀ j, j < k → oneE (l.getD j od0) net = 0) ∧ oneE (l.getD k od0) net ≠ 0 ∧ e = .returned (.tuple #[.slice none 0 0, .int .i64 0, .int .i64 10]))) ∧ Below w.heap.size w w'
theorem serve_c (net prot : Int) (A : Option Addr) (n c : Nat) (l : List Od) (w : World) (hn : mrB net = true) (hp : mrB prot = true) (hp0 : 0 ≤ prot) (hl : OdSl w A n l) (hok : ∀ k, k < n → OdOK (l.getD k od0)) (hn2 : n ≤ 1000) :
  Calls prog 148 #[.int .i64 net, .int .i64 prot, .slice A n c] w (ServeR l net prot n w) := by
 have v : (mrB net && mrB prot) = true := by simp [hn, hp]
 have v2 : decide (prot < 0) = false := by simpa using hp0
 have HL := hid hl
 have HOK := hid hok
 have HN := hid hn
 have hp' := miz.1 hp
 have hn' := miz.1 hn
 obtain ⟨a1, a2⟩ := hp'
 obtain ⟨a3, a4⟩ := hn'
 clear hl hok hn hp
 go_enter func148, ntmps148
 go_wp2_with fail
 refine wp_scope_goto 0 (fun a' w' => ∃ (k : Nat) (v9 : Value), k ≤ n ∧ Hid (∀ j, j < k → oneE (l.getD j od0) net = 0) ∧ OwnTk w' w.heap.size v9 k (tkL l net prot k) ∧ Below w.heap.size w w' ∧ ∃ (u3 u4 u5 u12 u13 u14 u15 u16 u17 u18 u19 u20 u21 u22 u23 u24 u25 u26 u27 u28 u29 u30 u31 u32 u33 u34 u35 u36 u37 u38 u39 u40 u41 u42 u43 u44 u45 u46 u47 u48 u49 u50 u51 u52 u53 : Value), a' = { tmps := #[.int .i64 net, .int .i64 prot, .slice A n c, u3, u4, u5, .slice none 0 0, .int .i64 0, .int .i64 0, v9, .int .i64 (leftA l net prot k), .int .i64 k, u12, u13, u14, u15, u16, u17, u18, u19, u20, u21, u22, u23, u24, u25, u26, u27, u28, u29, u30, u31, u32, u33, u34, u35, u36, u37, u38, u39, u40, u41, u42, u43, u44, u45, u46, u47, u48, u49, u50, u51, u52, u53], defers := [] }) (fun a' _ => n - (intOf (a'.tmps.getD 11 undef)).toNat) rfl ?_ ?_
 ·
  rintro a' w' ⟨k, v9, hk', HE, ho, hbl, hF⟩
  obtain ⟨u3, u4, u5, u12, u13, u14, u15, u16, u17, u18, u19, u20, u21, u22, u23, u24, u25, u26, u27, u28, u29, u30, u31, u32, u33, u34, u35, u36, u37, u38, u39, u40, u41, u42, u43, u44, u45, u46, u47, u48, u49, u50, u51, u52, u53, hF⟩ := hF; subst hF
  have hlb := leftA_bd l net prot hp0 k
  have hlb1 := leftA_bd l net prot hp0 (k + 1)
  have HO1 := hid ho.1
  obtain ⟨Ao, co, rfl⟩ := oL9 ho.2
  have HO := hid ho.2
  clear ho
  by_cases hk : k < n
  case neg =>
   obtain rfl : k = n := by omega
   have kk : ((k : Int) == (k : Int)) = true := by simp
   go_wp2_with fail
   simp only [Exit.jump]
   go_ret3
   exact ⟨Or.inl ⟨HE.out, _, rfl, HO1.out, HO.out⟩, hbl⟩
  have kk : ((k : Int) == (n : Int)) = false := by simp; omega
  obtain ⟨bl, ol, rfl, hltl, hatl⟩ := (HL.out.below hbl).2.2 (by omega)
  have hcl := hatl k hk
  have hodk := HOK.out k hk
  have HLA : Hid (leftA l net prot (k + 1) = leftA l net prot k - (tkA l net prot k).ta) := rfl
  have HTA : Hid (tkA l net prot k = oneV (l.getD k od0) net (max 0 (leftA l net prot k - prot))) := rfl
  have HTL := hid (tkL_snoc l net prot k)
  rw [HLA.out] at hlb1
  generalize leftA l net prot k = lv at *
  generalize tkL l net prot k = tl at *
  generalize tkA l net prot k = z5 at *
  have HEK : Hid (oneE (l.getD k od0) net = oneE (l.getD k od0) net) := rfl
  generalize hzz : l.getD k od0 = zz at *
  have HZZ := hid hzz
  obtain ⟨id, pr, am, ra, tt, tk, ar⟩ := zz
  obtain ⟨c0, c1, c2, c3, c4, c5, c6⟩ : w'.cell? ⟨bl, ol + k * 7, none⟩ = some (.int .i64 id) ∧ w'.cell? ⟨bl, ol + k * 7 + 1, none⟩ = some (.int .i64 pr) ∧ w'.cell? ⟨bl, ol + k * 7 + 2, none⟩ = some (.int .i64 am) ∧ w'.cell? ⟨bl, ol + k * 7 + 3, none⟩ = some (.int .i64 ra) ∧ w'.cell? ⟨bl, ol + k * 7 + 4, none⟩ = some (.int .i64 tt) ∧ w'.cell? ⟨bl, ol + k * 7 + 5, none⟩ = some (.int .i64 tk) ∧ w'.cell? ⟨bl, ol + k * 7 + 6, none⟩ = some (.int .i64 ar) := ⟨hcl 0 _ rfl, hcl 1 _ rfl, hcl 2 _ rfl, hcl 3 _ rfl, hcl 4 _ rfl, hcl 5 _ rfl, hcl 6 _ rfl⟩
  have k0 : (0 : Int) ≤ (k : Int) := by omega
  have k1 : (k : Int) < (n : Int) := by omega
  have k2 : ((k : Int)).toNat = k := by omega
  have hsz := hbl.size
  obtain ⟨b0', b1'⟩ := hlb
  have lv0 : -100000000000 ≤ lv := by omega
  have lv1 : lv ≤ 100000000000 := by omega
  obtain ⟨fr, hfr⟩ : ∃ fr, max 0 (lv - prot) = fr := ⟨_, rfl⟩
  rw [hfr] at HTA
  have hfb : 0 ≤ fr ∧ fr ≤ 1000000000000 := by omega
  clear hatl hcl HEK hzz b0' b1'
  by_cases hE : oneE ⟨id, pr, am, ra, tt, tk, ar⟩ net = 0
  case neg =>
   have KE := hid (one_e id pr am ra tt tk ar net fr · hodk HN.out hE)
   have HNE := hid hE
   clear hE hodk hfb hlb1
   go_wp2_with fail
   refine (KE.out _).mono ?_
   rintro e w2 ⟨rfl, hb2⟩
   go_wp2_with fail
   simp only [Exit.jump]
   go_ret3
   exact ⟨Or.inr ⟨k, hk, HE.out, by rw [HZZ.out]; exact HNE.out, rfl⟩, bA (bT hbl hb2) _⟩
  have KT := hid (one_t id pr am ra tt tk ar net fr · hodk HN.out hfb hE z5 HTA)
  have HE2 : Hid (∀ j, j < k + 1 → oneE (l.getD j od0) net = 0) := fun j hj => by
   rcases (by omega : j = k ∨ j < k) with rfl | hj
   ·
    rw [HZZ.out]; exact hE
   ·
    exact HE.out j hj
  clear hE hodk hfb HTA
  obtain ⟨zo, zb, zr, zd, zt, zc⟩ := z5
  dsimp only at KT HLA hlb1
  obtain ⟨l0, l1⟩ := hlb1
  have l2 : -100000000000 ≤ lv - zt := by omega
  have l3 : lv - zt ≤ 100000000000 := by omega
  clear l0 l1
  go_wp2_with fail
  refine (KT.out _).mono ?_
  rintro e w2 ⟨rfl, hb2⟩
  have hb3 := bT hbl hb2
  have hb4 := bA hb3 (.cells #[.int .i64 zo, .int .i64 zb, .int .i64 zr, .int .i64 zd, .int .i64 zt, .int .i64 zc] 116)
  have HO2 := hid ((oB9 HO.out hb2).alloc (.cells #[.int .i64 zo, .int .i64 zb, .int .i64 zr, .int .i64 zd, .int .i64 zt, .int .i64 zc] 116))
  have yb := Blk.mk w2 116 #[.int .i64 zo, .int .i64 zb, .int .i64 zr, .int .i64 zd, .int .i64 zt, .int .i64 zc]
  have HNB : Hid (some w2.heap.size ≠ (Value.slice Ao k co).ownBlock) := fun he => by
   have := ((oB9 HO.out hb2).lt _ he.symm).2
   omega
  have hsz3 := hb3.size
  go_wp2_with (at_builtin; refine wa9 _ rfl _ _ 43 rfl 116 _ 6 48 underlying43 info_taken rfl (by decide) rfl HO2.out _ rfl (by first | rfl | simp) rfl (by simp [Value.oneCell']) (by omega) (by omega) (by first | omega | (simp; omega)) ?_; intro v' w6 ho' hg; have yb4 := (yb.grown hg HNB.out).cell 4)
  go_step3
  refine ⟨rfl, ⟨k + 1, v', by omega, HE2, ⟨?_, ?_⟩, bP hb4 HO2.out hg (Nat.le_refl _), ?_⟩, ?_⟩
  ·
   rw [HTL.out]; simp [← HO1.out]
  ·
   rw [HTL.out]; simpa [tkC] using ho'
  ·
   rw [HLA.out]; exact ⟨_, _, _, _, _, _, _, _, _, _, _, _, _, _, _, _, _, _, _, _, _, _, _, _, _, _, _, _, _, _, _, _, _, _, _, _, _, _, _, _, _, _, _, _, _, rfl⟩
  ·
   simp [intOf]; omega
 ·
  intro HP
  have HP := hid HP
  go_wp2_with fail
  refine (right2 _ _ _ net prot _ (by simp) (by simp)).mono ?_
  rintro e w1 ⟨rfl, rfl⟩
  go_wp2_with fail
  go_step3
  simp only [Exit.then]
  rename_i hK
  exact hK _ _ (HP.out _ _ ⟨0, _, Nat.zero_le _, fun j hj => absurd hj (by omega), ⟨rfl, World.ownsRow_nil _ _ _ _⟩, bz1 _ _, ⟨_, _, _, _, _, _, _, _, _, _, _, _, _, _, _, _, _, _, _, _, _, _, _, _, _, _, _, _, _, _, _, _, _, _, _, _, _, _, _, _, _, _, _, _, _, rfl⟩⟩)
end Go.Proofs.YtiaabmhjkoohmaaGreat
