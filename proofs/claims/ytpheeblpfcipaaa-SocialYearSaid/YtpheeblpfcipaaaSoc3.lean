/-
  Contract of social.Year. Conditions as named.
-/
import Derived.Test.YtpheeblpfcipaaaSoc2
namespace Go.Proofs.Ytpheeblpfcipaaa
set_option linter.unusedVariables false
open Go.RowKit
/-- what counted ahead of the period at k, of each contribution -/
def ahd (cts : List Ct) (l : List Bs) (nc : Nat) : Nat → List Int
  | 0 => List.replicate nc 0
  | k + 1 => stepTo cts (l.getD k bs0) (ahd cts l nc k) nc nc
def okY (cts : List Ct) (l : List Bs) (nc k : Nat) : Bool := okA cts (l.getD k bs0) (ahd cts l nc k) nc
def rowY (cts : List Ct) (l : List Bs) (nc k : Nat) : List Sh := rowA cts (l.getD k bs0) (ahd cts l nc k) nc
theorem okA_all {cts : List Ct} {b : Bs} {l : List Int} {n : Nat} (h : okA cts b l n = true) : ∀ k, k < n → mrB (l.getD k 0 + xAt cts b l k) = true := by
  unfold okA at h
  rw [Bool.and_eq_true, List.all_eq_true] at h
  exact fun k hk => h.2 k (by simpa using hk)
theorem okA_b {cts : List Ct} {b : Bs} {l : List Int} {n : Nat} (h : okA cts b l n = true) : bsR b = true := by
  unfold okA at h
  rw [Bool.and_eq_true] at h
  exact h.1
theorem step_mr {cts : List Ct} {b : Bs} {l : List Int} {n : Nat} (h : okA cts b l n = true) : (stepTo cts b l n n).all mrB = true := by
  rw [List.all_eq_true]
  intro x hx
  unfold stepTo at hx
  rw [List.mem_map] at hx
  obtain ⟨i, hi, rfl⟩ := hx
  have hi' : i < n := by simpa using hi
  rw [if_pos hi']
  exact okA_all h i hi'
theorem ahd_len (cts : List Ct) (l : List Bs) (nc k : Nat) : (ahd cts l nc k).length = nc := by
  cases k <;> simp [ahd, stepTo]
theorem ahd_mr (cts : List Ct) (l : List Bs) (nc k : Nat) (h : ∀ j, j < k → okY cts l nc j = true) : (ahd cts l nc k).all mrB = true := by
  cases k with
  | zero => simp [ahd]; right; decide
  | succ k => exact step_mr (h k (by omega))
/-- rows of shares, each in memory of its own -/
def RowsOwn (w : World) (base : Nat) (v : Value) (n nc : Nat) (f : Nat → List Sh) : Prop :=
  ∃ vs : List Value, w.ownsRow base 51 1 v n vs ∧ ∀ k, k < n → ∃ u, vs[k]? = some u ∧ OwnS w base u nc (f k)
theorem RowsOwn.below {w w' : World} {base : Nat} {v : Value} {n nc : Nat} {f : Nat → List Sh} (h : RowsOwn w base v n nc f) (hb : Below w.heap.size w w') : RowsOwn w' base v n nc f := by
  obtain ⟨vs, h1, h2⟩ := h
  refine ⟨vs, own_below h1 hb, fun k hk => ?_⟩
  obtain ⟨u, h3, h4, h5⟩ := h2 k hk
  exact ⟨u, h3, h4, own_below h5 hb⟩
theorem info_row : (Try.prog.info? 51).map (fun i => (i.zero, i.size, i.bytes)) = some (some (.slice none 0 0), 1, 24) := by kernel_rfl
def YearR (cts : List Ct) (l : List Bs) (nc n : Nat) (w : World) (e : Ending) (w' : World) : Prop :=
  (((∀ k, k < n → okY cts l nc k = true) ∧ ∃ v, e = .returned (.tuple #[v, .int .i64 0]) ∧ RowsOwn w' w.heap.size v n nc (rowY cts l nc)) ∨
   ((∃ k, k < n ∧ okY cts l nc k = false) ∧ e = .returned (.tuple #[.slice none 0 0, .int .i64 10]))) ∧ Below w.heap.size w w'
--%%
set_option maxRecDepth 100000 in
set_option maxHeartbeats 3200000 in
theorem year_c (cts : List Ct) (As Ac Ak A : Option Addr) (ns cs nc cc nk ck n c : Nat) (lim rnd : Int) (l : List Bs) (w : World) (hs : CtSl w Ac nc cts) (hok : ∀ k, k < nc → CtOK (cts.getD k ct0)) (hl : BsSl w A n l) (hn : nc ≤ 1000) (hn2 : n ≤ 1000) :
    Calls Try.prog 14 #[.agg #[.slice As ns cs, .slice Ac nc cc, .slice Ak nk ck, .int .i64 lim, .int .i64 rnd], .slice A n c] w (YearR cts l nc n w) := by
  have HS := Lib.hid hs
  have HL := Lib.hid hl
  have HOK := Lib.hid hok
  have hmk := fun W => run_make_K (P := Try.prog) 61 2 (.int .i64 0) 1 8 Try.underlying61 info_i64 nc (by omega) (by omega) W
  have hz : (Value.cells (.int .i64 0)) = #[.int .i64 0] := rfl
  rw [hz, Nat.mul_one] at hmk
  have hmo := own_made (w.alloc (.cells #[.slice As ns cs, .slice Ac nc cc, .slice Ak nk ck, .int .i64 lim, .int .i64 rnd] 26)) 2 #[.int .i64 0] 1 nc (by omega) (base := w.heap.size) (by simp)
  rw [Nat.mul_one, toList_madeCells_one] at hmo
  have HMO := Lib.hid hmo
  have z0 := (Blk.mk w 26 #[.slice As ns cs, .slice Ac nc cc, .slice Ak nk ck, .int .i64 lim, .int .i64 rnd]).alloc (.cells (madeCells #[.int .i64 0] nc) 2)
  have hb0 := bA (below1 w (.cells #[.slice As ns cs, .slice Ac nc cc, .slice Ak nk ck, .int .i64 lim, .int .i64 rnd] 26)) (.cells (madeCells #[.int .i64 0] nc) 2)
  clear hs hl hok hz hmo
  go_enter Try.func14, Try.ntmps14
  go_wp2_with fail
  clear hmk
  go_loopw [6, 7, 19] (fun va v i wr => ∃ k : Nat, k ≤ n ∧ i = .int .i64 k ∧ Hid (∀ j, j < k → okY cts l nc j = true) ∧ OwnI wr w.heap.size va nc (ahd cts l nc k) ∧ RowsOwn wr w.heap.size v k nc (rowY cts l nc) ∧ Below w.heap.size w wr ∧ Blk wr w.heap.size 26 #[.slice As ns cs, .slice Ac nc cc, .slice Ak nk ck, .int .i64 lim, .int .i64 rnd]) (fun _ _ i _ => n - (intOf i).toNat)
  case atStart => exact ⟨0, Nat.zero_le _, rfl, fun j hj => absurd hj (by omega), ⟨by simp [ahd], by have := HMO.out; simpa [ahd] using this⟩, ⟨[], World.ownsRow_nil _ _ _ _, fun k hk => absurd hk (by omega)⟩, hb0, z0⟩
  case round =>
    obtain ⟨k, hk', rfl, hM, hv, ⟨vs, ho, hrows⟩, hbl, z⟩ := hrel
    by_cases hk : k < n
    case neg =>
      obtain rfl : k = n := by omega
      have HR := Lib.hid hrows
      clear hrows
      go_wp2_with fail
      go_ret2
      exact ⟨Or.inl ⟨hM.out, _, rfl, vs, ho, HR.out⟩, hbl⟩
    obtain ⟨b, off, rfl, hlt, hat⟩ := (HL.out.below hbl).2.2 (by omega)
    obtain ⟨c0, c1, c2⟩ := hat k hk
    obtain ⟨Aa, ca, rfl, hca, hva⟩ := hv.sl
    have hmr := ahd_mr cts l nc k hM.out
    have KP := Lib.hid (fun W h1 h2 => period_c cts As Ac Ak Aa ns cs nc cc nk ck ca lim rnd (l.getD k bs0).c (l.getD k bs0).t (l.getD k bs0).s (ahd cts l nc k) W h1 HOK.out h2 hmr hn)
    have HP : Hid (∀ W e w', PerR cts ⟨(l.getD k bs0).c, (l.getD k bs0).t, (l.getD k bs0).s⟩ (ahd cts l nc k) nc W e w' →
       ((okY cts l nc k = true ∧ ∃ v vn, e = .returned (.tuple #[v, vn, .int .i64 0]) ∧ OwnS w' W.heap.size v nc (rowY cts l nc k) ∧ OwnI w' W.heap.size vn nc (ahd cts l nc (k + 1))) ∨
   (okY cts l nc k = false ∧ e = .returned (.tuple #[.slice none 0 0, .slice none 0 0, .int .i64 10]))) ∧ Below W.heap.size W w') := fun W e w' h => h
    have HR := Lib.hid hrows
    have HV := Lib.hid hv
    have HA := Lib.hid hva
    clear hat hmr hrows hv hva
    generalize (l.getD k bs0).c = bc at *
    generalize (l.getD k bs0).t = bt at *
    generalize (l.getD k bs0).s = bs at *
    have z1 := z.alloc (.cells #[.int .i64 bc, .int .i64 bt, .int .i64 bs] 59)
    have hb1 := bA hbl (.cells #[.int .i64 bc, .int .i64 bt, .int .i64 bs] 59)
    have HO := Lib.hid (ho.alloc (.cells #[.int .i64 bc, .int .i64 bt, .int .i64 bs] 59))
    have HA1 := Lib.hid (HA.out.below (below1 wr (.cells #[.int .i64 bc, .int .i64 bt, .int .i64 bs] 59)))
    obtain ⟨p0, p1, p2, p3, p4⟩ := z1.all5
    have hsz := hbl.size
    go_wp2_with fail
    refine (KP.out _ (HS.out.below hb1) HA1.out).mono ?_
    intro e w1 hper
    obtain ⟨⟨hyes, vr, vn, rfl, hvr, hvn⟩ | ⟨hno, rfl⟩, hbp⟩ := HP.out _ _ _ hper
    case inr =>
      clear hper
      have HN := Lib.hid hno
      clear hno
      go_wp2_with fail
      go_ret2
      exact ⟨Or.inr ⟨⟨k, hk, HN.out⟩, rfl⟩, bT hb1 hbp⟩
    clear hper
    obtain ⟨Ar, cr, rfl⟩ := own_slice hvr.2
    have HY := Lib.hid hyes
    have HVR := Lib.hid hvr
    have HVN := Lib.hid hvn
    have z2 := z1.t hbp
    have hb2 := bT hb1 hbp
    have HO2 := Lib.hid (own_below HO.out hbp)
    have hs2 := hb2.size
    clear hyes hvr hvn
    go_wp2_with (at_builtin; refine wpList_app1 _ rfl _ _ 47 rfl 51 _ 1 24 Try.underlying47 info_row rfl (by decide) rfl HO2.out _ rfl (by first | rfl | simp) rfl (by simp [Value.oneCell']) (by omega) (by omega) (by first | omega | (simp; omega)) ?_; intro v' w11 ho' hg)
    go_roundw
    case rel =>
      have hls : vs.length = k := by simpa using ho.1
      refine ⟨k + 1, by omega, by go_num, fun j hj => ?_, ⟨HVN.out.1, ?_⟩, ⟨vs ++ [.slice Ar nc cr], ?_, fun j hj => ?_⟩, bP hb2 HO2.out hg (Nat.le_refl _), z2.grown hg (own_blk HO2.out z2 (by decide))⟩
      · rcases (by omega : j = k ∨ j < k) with rfl | hj
        · exact HY.out
        · exact hM.out j hj
      · have := HVN.out.2.kept hg (own_own HVN.out.2 HO2.out (by decide))
        exact own_more this (by simp; omega)
      · simpa using ho'
      · rcases (by omega : j = k ∨ j < k) with rfl | hj
        · refine ⟨_, getElem_snoc _ _ _ hls, HVR.out.1, ?_⟩
          have := HVR.out.2.kept hg (own_own HVR.out.2 HO2.out (by decide))
          exact own_more this (by simp; omega)
        · obtain ⟨u, h3, h4, h5⟩ := HR.out j hj
          have h6 := own_below (own_below h5 (below1 wr (.cells #[.int .i64 bc, .int .i64 bt, .int .i64 bs] 59))) hbp
          exact ⟨u, by rw [List.getElem?_append_left (by omega)]; exact h3, h4, h6.kept hg (own_own h6 HO2.out (by decide))⟩
    case measure => simp [intOf]; omega
--%%
end Go.Proofs.Ytpheeblpfcipaaa
