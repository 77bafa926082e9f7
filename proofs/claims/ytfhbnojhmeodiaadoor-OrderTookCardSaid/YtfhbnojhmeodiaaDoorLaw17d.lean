/-
  Layer 17's law OrderTook: its walk. Conditions as named.
-/
import Derived.Test.YtfhbnojhmeodiaaDoorLaw17c
import Derived.Test.YtfhbnojhmeodiaaDoorBookP4
namespace Go.Proofs.YtfhbnojhmeodiaaDoor
set_option linter.unusedVariables false
open Go.RowKit
/-- an act that may be refused puts an order in -/
theorem add_good {p : Nat} {l : List Od} (id pr am ra tt : Int) (w : World) (hb : Bk w p l) (hg : Good l) :
    Calls Tryd.prog 9 #[.pointer (some ⟨p, 0, none⟩), .agg #[.int .i64 id, .int .i64 pr, .int .i64 am, .int .i64 ra, .int .i64 tt]] w fun e w' => ∃ l2 r, (e = .returned (.int .i64 r) ∧ Bk w' p l2 ∧ Good l2 ∧ addL l ⟨id, pr, am, ra, tt, 0, 0⟩ = l2 ∧ addE l ⟨id, pr, am, ra, tt, 0, 0⟩ = r) ∧ w.grownBy w' (some p) := by
  refine (badd_c p l id pr am ra tt w hb (by have := hg.len; omega) hg.so).mono ?_
  rintro e w' ⟨rfl, h1, h2⟩
  exact ⟨_, _, ⟨rfl, h1, hg.add ⟨rfl, rfl⟩, rfl, rfl⟩, h2⟩
--%%
set_option maxRecDepth 100000 in
set_option maxHeartbeats 12800000 in
theorem orderTook_walk (A0 : Option Addr) (n0 c0 : Nat) (S : List Od) (A1 : Option Addr) (m c1 : Nat) (ts : List Tk) (w : World) (hl : OrSl w A0 n0 S) (ht : TkSl w A1 m ts) :
    Calls Tryd.prog 5 #[.slice A0 n0 c0, .slice A1 m c1] w fun e w' => e = .returned (.bool true) ∧ Below w.heap.size w w' := by
  have HL := Lib.hid hl
  have HT := Lib.hid ht
  have hn9 := hl.2.1
  have hm9 := ht.2.1
  have KB := Lib.hid (books_c w)
  clear hl ht
  go_enter Tryd.func5, Tryd.ntmps5
  go_wp2_with fail
  refine KB.out.mono ?_
  rintro e w1 ⟨rfl, hb1⟩
  by_cases h20 : 20 < n0
  · have v : decide ((20 : Int) < (n0 : Int)) = true := by simp; omega
    clear h20
    go_wp2_with fail
    go_ret
    exact ⟨rfl, hb1⟩
  have v : decide ((20 : Int) < (n0 : Int)) = false := by simp; omega
  by_cases h21 : 20 < m
  · have v2 : decide ((20 : Int) < (m : Int)) = true := by simp; omega
    clear h20 h21
    go_wp2_with fail
    go_ret
    exact ⟨rfl, hb1⟩
  have v2 : decide ((20 : Int) < (m : Int)) = false := by simp; omega
  clear h20
  have hbB := bA hb1 (.cells #[.slice none 0 0] 27)
  have hpp := Blk.mk w1 27 #[.slice none 0 0]
  have hpw : w.heap.size ≤ w1.heap.size := hb1.size
  have HB0 : Hid (Bk (w1.alloc (.cells #[.slice none 0 0] 27)) w1.heap.size []) := ⟨_, hpp, rfl, World.ownsRow_nil _ _ _ _⟩
  have HBB := Lib.hid hbB
  clear hpp hbB
  go_wp2_with fail
  go_loopw [35] (fun ci wr => ∃ (k : Nat) (l : List Od), k ≤ n0 ∧ ci = .int .i64 k ∧ Hid (Good l) ∧ Hid (Bk wr w1.heap.size l) ∧ Below w.heap.size w wr) (fun ci _ => n0 - (intOf ci).toNat)
  case atStart => exact ⟨0, [], Nat.zero_le _, rfl, Good.nil, HB0.out, HBB.out⟩
  case round =>
    obtain ⟨k, l, hk', rfl, HG, HK, hbl⟩ := hrel
    by_cases hk : k < n0
    case pos =>
      obtain ⟨b, off, rfl, hlt, hat⟩ := (HL.out.below hbl).2.2 (by omega)
      have hcl := hat k hk
      generalize S.getD k od0 = zz at *
      obtain ⟨id, pr, am, ra, tt, zk, zs⟩ := zz
      obtain ⟨a0, a1, a2, a3, a4⟩ : wr.cell? ⟨b, off + k * 5, none⟩ = some (.int .i64 id) ∧ wr.cell? ⟨b, off + k * 5 + 1, none⟩ = some (.int .i64 pr) ∧ wr.cell? ⟨b, off + k * 5 + 2, none⟩ = some (.int .i64 am) ∧ wr.cell? ⟨b, off + k * 5 + 3, none⟩ = some (.int .i64 ra) ∧ wr.cell? ⟨b, off + k * 5 + 4, none⟩ = some (.int .i64 tt) := ⟨hcl 0 _ rfl, hcl 1 _ rfl, hcl 2 _ rfl, hcl 3 _ rfl, hcl 4 _ rfl⟩
      have hb2 := bA hbl (.cells #[.int .i64 id, .int .i64 pr, .int .i64 am, .int .i64 ra, .int .i64 tt] 29)
      have KA := Lib.hid (add_good id pr am ra tt (wr.alloc (.cells #[.int .i64 id, .int .i64 pr, .int .i64 am, .int .i64 ra, .int .i64 tt] 29)) (HK.out.t (below1 wr (.cells #[.int .i64 id, .int .i64 pr, .int .i64 am, .int .i64 ra, .int .i64 tt] 29))) HG.out)
      have HB2 := Lib.hid hb2
      clear hcl hat hbl hb2
      go_wp2_with fail
      refine KA.out.mono ?_
      rintro e w3 ⟨l2, r, ⟨rfl, hk3, hg3, _, _⟩, hw3⟩
      have HB3 := Lib.hid (TurnB.below HB2.out hw3 hpw)
      clear hw3
      go_wp2_with fail
      go_roundw
      case rel => exact ⟨k + 1, l2, by omega, by go_num, hg3, hk3, HB3.out⟩
      case measure => simp [intOf]; omega
    obtain rfl : k = n0 := by omega
    -- the book is put together: what stands, a copy, and what was taken
    have hlen := HG.out.len
    obtain ⟨n, hn⟩ : ∃ n, n = l.length := ⟨_, rfl⟩
    have KL := Lib.hid (blist_c w1.heap.size l wr HK.out (by omega))
    unfold GivesOd at KL
    rw [← hn] at KL hlen
    have HN := Lib.hid hn
    clear hn
    clear hk hk'
    go_wp2_with fail
    refine KL.out.mono ?_
    rintro e w4 ⟨⟨v4, rfl, ho4⟩, hb4⟩
    obtain ⟨A4, c4, rfl⟩ := own_slice ho4.2
    have HO4 := Lib.hid ho4
    have HK4 := Lib.hid (HK.out.t hb4)
    have HB4 := Lib.hid (bT hbl hb4)
    have KC := Lib.hid (bclone_c w1.heap.size l w4 HK4.out (by rw [← HN.out]; omega))
    have hs4 := hb4.size
    clear ho4 hb4 hbl
    go_wp2_with fail
    refine KC.out.mono ?_
    rintro e w5 ⟨⟨q, rfl, hq4, hq5⟩, hb5⟩
    have HK5 := Lib.hid (HK4.out.t hb5)
    have HB5 := Lib.hid (bT HB4.out hb5)
    have HO5 := Lib.hid (HO4.out.below hb5)
    have HQ5 := Lib.hid hq5
    have KT := Lib.hid (btook_c w1.heap.size l A1 m c1 ts w5 HK5.out (by rw [← HN.out]; omega) (HT.out.below HB5.out))
    obtain ⟨te, hte⟩ : ∃ t, t = tookE l ts := ⟨_, rfl⟩
    have HTX := Lib.hid hte
    unfold TookR at KT
    rw [← hte] at KT
    have hs5 := hb5.size
    have hpl := HK.out.lt
    clear hte
    clear hq5 hb5
    go_wp2_with fail
    refine KT.out.mono ?_
    rintro e w6 ⟨rfl, hk6, hg6⟩
    have HK6 := Lib.hid hk6
    have HB6 := Lib.hid (TurnB.below HB5.out hg6 hpw)
    have hqp : q ≠ w1.heap.size := by omega
    -- the copy, and the list, stay
    have HQ6 : Hid (Bk w6 q l) := by
      obtain ⟨u, h1, h2⟩ := HK5.out
      exact HQ5.out.grown hg6 (by simpa using hqp) (fun v hv => Or.inr fun he => own_blk hv.2 h1 (by decide) he.symm)
    have HO6 : Hid (OwnOd w6 0 (.slice A4 n c4) n l) := by
      obtain ⟨u, h1, h2⟩ := HK5.out
      have ho := HO5.out
      exact ⟨ho.1, own_more (ho.2.kept hg6 (Or.inr fun he => own_blk ho.2 h1 (by decide) he.symm)) (Nat.zero_le _)⟩
    have hlit := World.ownsRow_lit (e := 39) (size := 7) (base := w6.heap.size) w6 #[] 0 (Nat.le_refl _) (by decide) rfl
    have hsr := own_src (HO6.out.below (below1 w6 (.cells #[] 39))).2
    obtain ⟨v7, w7, hr7, ho7, hg7⟩ := run_appN (P := Tryd.prog) (w6.alloc (.cells #[] 39)) 25 25 39 _ 7 56 Tryd.underlying25 info_state rfl (by decide) hlit A4 n c4 _ hsr od_one (by omega) (by omega) (by simp)
    obtain ⟨A7, c7, rfl⟩ := own_slice ho7
    rw [Nat.zero_add] at hr7 ho7
    rw [List.nil_append] at ho7
    have HR7 := Lib.hid hr7
    have HO7 := Lib.hid ho7
    have HB7 : Hid (Below w6.heap.size w6 w7) := (below1 w6 (.cells #[] 39)).grown hg7 (by simp) (fun k hk => by injection hk with hk; exact Nat.le_of_eq hk)
    have HTE : Hid (tookT l ts m = tookT l ts ts.length) := by unfold Hid; rw [← HT.out.1]
    have HTL := Lib.hid (fun k => tookT_len l ts k)
    have HTI := Lib.hid (fun k => tookT_ids HG.out.ids (ts := ts) k)
    have HTM := Lib.hid (fun k => tookT_mr HG.out.mr (ts := ts) k)
    rw [← HN.out] at HTL
    clear hk6 hg6 hlit hsr hr7 ho7 hg7
    go_wp2_with (at_builtin; refine wpList_appR _ rfl _ _ 25 25 rfl _ _ rfl rfl _ w7 HR7.out ?_)
    go_loopw [12, 15, 51, 57] (fun cf _ ci _ wr => ∃ k : Nat, k ≤ m ∧ ci = .int .i64 k ∧ cf = .int .i64 (tookT l ts k).1 ∧ Hid (wr.ownsRow w6.heap.size 39 7 (.slice A7 n c7) n ((tookT l ts k).2.flatMap odC)) ∧ Below w6.heap.size w6 wr) (fun _ _ ci _ _ => m - (intOf ci).toNat)
    case atStart => exact ⟨0, Nat.zero_le _, rfl, rfl, HO7.out, HB7.out⟩
    case round =>
      obtain ⟨k2, hk2', rfl, rfl, HRW, hb7⟩ := hrel
      have hbw := bT HB6.out hb7
      by_cases hk2 : k2 < m
      case pos =>
        obtain ⟨b, off, rfl, hlt, hat⟩ := (HT.out.below hbw).2.2 (by omega)
        have hcl := hat k2 hk2
        have hNX : tookT l ts (k2 + 1) = if (tookT l ts k2).1 ≠ 0 then ((tookT l ts k2).1, (tookT l ts k2).2) else if tookX (tookT l ts k2).2 (ts.getD k2 tk0) ≠ 0 then (tookX (tookT l ts k2).2 (ts.getD k2 tk0), (tookT l ts k2).2) else (0, tookA (tookT l ts k2).2 (ts.getD k2 tk0)) := rfl
        have hLL := HTL.out k2
        have hLI := HTI.out k2
        have hLM := HTM.out k2
        obtain ⟨f, hf⟩ : ∃ f, f = (tookT l ts k2).1 := ⟨_, rfl⟩
        obtain ⟨Lk, hLk⟩ : ∃ L, L = (tookT l ts k2).2 := ⟨_, rfl⟩
        rw [← hf, ← hLk] at hNX
        rw [← hLk] at hLL hLI hLM HRW
        rw [← hf]
        generalize ts.getD k2 tk0 = x at *
        obtain ⟨xo, xb, xr, xd, xt, xc⟩ := x
        obtain ⟨a0, a1, a2, a3, a4, a5⟩ : wr.cell? ⟨b, off + k2 * 6, none⟩ = some (.int .i64 xo) ∧ wr.cell? ⟨b, off + k2 * 6 + 1, none⟩ = some (.int .i64 xb) ∧ wr.cell? ⟨b, off + k2 * 6 + 2, none⟩ = some (.int .i64 xr) ∧ wr.cell? ⟨b, off + k2 * 6 + 3, none⟩ = some (.int .i64 xd) ∧ wr.cell? ⟨b, off + k2 * 6 + 4, none⟩ = some (.int .i64 xt) ∧ wr.cell? ⟨b, off + k2 * 6 + 5, none⟩ = some (.int .i64 xc) := ⟨hcl 0 _ rfl, hcl 1 _ rfl, hcl 2 _ rfl, hcl 3 _ rfl, hcl 4 _ rfl, hcl 5 _ rfl⟩
        have HY := Lib.hid (Blk.mk wr 41 #[.int .i64 xo, .int .i64 xb, .int .i64 xr, .int .i64 xd, .int .i64 xt, .int .i64 xc])
        have HNX := Lib.hid hNX
        have HLL := Lib.hid hLL
        have HLI := Lib.hid hLI
        have HLM := Lib.hid hLM
        have HB8 := Lib.hid hb7
        clear hcl hat hNX hLL hLI hLM hf hLk hb7 hbw
        go_wp2_with fail
        clear a0 a1 a2 a3 a4 a5
        rename World => wo
        go_loopw [15, 57] (fun ca cj wr => ∃ (j : Nat) (a : Int), j ≤ n ∧ cj = .int .i64 j ∧ ca = .int .i64 a ∧ Hid (FindA Lk xo a j) ∧ Below (wo.alloc (.cells #[.int .i64 xo, .int .i64 xb, .int .i64 xr, .int .i64 xd, .int .i64 xt, .int .i64 xc] 41)).heap.size (wo.alloc (.cells #[.int .i64 xo, .int .i64 xb, .int .i64 xr, .int .i64 xd, .int .i64 xt, .int .i64 xc] 41)) wr) (fun _ cj _ => n - (intOf cj).toNat)
        case atStart => exact ⟨0, -1, Nat.zero_le _, rfl, rfl, Or.inl ⟨rfl, fun i hi => absurd hi (by omega)⟩, b0 _⟩
        case round =>
          obtain ⟨j, a, hj', rfl, rfl, HF, hb9⟩ := hrel
          have hbo : Below wo.heap.size wo wr := bT (below1 wo (.cells #[.int .i64 xo, .int .i64 xb, .int .i64 xr, .int .i64 xd, .int .i64 xt, .int .i64 xc] 41)) hb9
          have hrw := own_below HRW.out hbo
          have y2 := HY.out.t hb9
          have ylt := y2.lt
          obtain ⟨y0, y1, y2', y3, y4, y5⟩ : wr.cell? ⟨wo.heap.size, 0, none⟩ = some (.int .i64 xo) ∧ wr.cell? ⟨wo.heap.size, 1, none⟩ = some (.int .i64 xb) ∧ wr.cell? ⟨wo.heap.size, 2, none⟩ = some (.int .i64 xr) ∧ wr.cell? ⟨wo.heap.size, 3, none⟩ = some (.int .i64 xd) ∧ wr.cell? ⟨wo.heap.size, 4, none⟩ = some (.int .i64 xt) ∧ wr.cell? ⟨wo.heap.size, 5, none⟩ = some (.int .i64 xc) := ⟨y2.cell 0, y2.cell 1, y2.cell 2, y2.cell 3, y2.cell 4, y2.cell 5⟩
          by_cases hj : j < n
          case pos =>
            obtain ⟨b2, off2, rfl, hlt2, hat2⟩ := (own_at (show OwnOd wr w6.heap.size (.slice A7 n c7) n Lk from ⟨HLL.out.symm, hrw⟩)).2.2 (by omega)
            have hcl2 := hat2 j hj
            have HF1 : Hid ((Lk.getD j od0).id = xo → FindA Lk xo j (j + 1)) := fun h => Or.inr ⟨j, by omega, rfl, h⟩
            have HF2 : Hid ((Lk.getD j od0).id ≠ xo → FindA Lk xo a (j + 1)) := fun h => by
              rcases HF.out with ⟨h1, h2⟩ | ⟨i, h1, h2, h3⟩
              · exact Or.inl ⟨h1, fun i hi => by
                  rcases (by omega : i = j ∨ i < j) with rfl | hi
                  · exact h
                  · exact h2 i hi⟩
              · exact Or.inr ⟨i, by omega, h2, h3⟩
            generalize Lk.getD j od0 = zx at *
            obtain ⟨zd, zp, za, zr, zt, zk, zs⟩ := zx
            obtain ⟨d0, d1, d2, d3, d4, d5, d6⟩ : wr.cell? ⟨b2, off2 + j * 7, none⟩ = some (.int .i64 zd) ∧ wr.cell? ⟨b2, off2 + j * 7 + 1, none⟩ = some (.int .i64 zp) ∧ wr.cell? ⟨b2, off2 + j * 7 + 2, none⟩ = some (.int .i64 za) ∧ wr.cell? ⟨b2, off2 + j * 7 + 3, none⟩ = some (.int .i64 zr) ∧ wr.cell? ⟨b2, off2 + j * 7 + 4, none⟩ = some (.int .i64 zt) ∧ wr.cell? ⟨b2, off2 + j * 7 + 5, none⟩ = some (.int .i64 zk) ∧ wr.cell? ⟨b2, off2 + j * 7 + 6, none⟩ = some (.int .i64 zs) := ⟨hcl2 0 _ rfl, hcl2 1 _ rfl, hcl2 2 _ rfl, hcl2 3 _ rfl, hcl2 4 _ rfl, hcl2 5 _ rfl, hcl2 6 _ rfl⟩
            have hb10 := bA hb9 (.cells #[.int .i64 zd, .int .i64 zp, .int .i64 za, .int .i64 zr, .int .i64 zt, .int .i64 zk, .int .i64 zs] 39)
            have u0 := (y2.alloc (.cells #[.int .i64 zd, .int .i64 zp, .int .i64 za, .int .i64 zr, .int .i64 zt, .int .i64 zk, .int .i64 zs] 39)).cell 0
            dsimp only at HF1 HF2
            clear hcl2 hat2 y2 hrw
            by_cases he : zd = xo
            · have ve : (zd == xo) = true := by simpa using he
              have HF3 := Lib.hid (HF1.out he)
              clear he HF1 HF2
              go_wp2_with fail
              go_roundw
              case rel => exact ⟨j + 1, j, by omega, by go_num, rfl, HF3.out, hb10⟩
              case measure => simp [intOf]; omega
            · have ve : (zd == xo) = false := by simpa using he
              have HF3 := Lib.hid (HF2.out he)
              clear he HF1 HF2
              go_wp2_with fail
              go_roundw
              case rel => exact ⟨j + 1, a, by omega, by go_num, rfl, HF3.out, hb10⟩
              case measure => simp [intOf]; omega
          obtain rfl : j = n := by omega
          have hbz := bT HB8.out hbo
          by_cases h0 : f = 0
          case neg =>
            have v0 : (f != 0) = true := by simpa using h0
            have HE := Lib.hid (HNX.out.trans (if_pos h0))
            have HW2 := Lib.hid hrw
            clear h0 hrw y2
            go_wp2_with fail
            go_roundw
            case rel => exact ⟨k2 + 1, by omega, by go_num, by rw [HE.out], (by unfold Hid; rw [HE.out]; exact HW2.out), hbz⟩
            case measure => simp [intOf]; omega
          subst h0
          have HE := Lib.hid (HNX.out.trans (if_neg (fun h => h rfl)))
          rcases HF.out with ⟨ha, hno⟩ | ⟨i, hi, ha, he⟩
          case inl =>
            subst ha
            have hx : tookX Lk ⟨xo, xb, xr, xd, xt, xc⟩ = 3 := by
              unfold tookX
              rw [if_pos]
              intro h
              exact hno _ (by rw [← HLL.out]; exact h) (atO_eq h)
            have HE2 : Hid (tookT l ts (k2 + 1) = (3, Lk)) := by unfold Hid; rw [HE.out, hx, if_pos (by decide)]
            have HW2 := Lib.hid hrw
            clear hx hrw y2 hno
            go_wp2_with fail
            go_roundw
            case rel => exact ⟨k2 + 1, by omega, by go_num, by rw [HE2.out], (by unfold Hid; rw [HE2.out]; exact HW2.out), hbz⟩
            case measure => simp [intOf]; omega
          subst ha
          have hil : i < Lk.length := by rw [HLL.out]; exact hi
          have hat3 : atO Lk xo = i := at_of_get HLI.out hil he
          have hmr := HLM.out _ (show Lk.getD i od0 ∈ Lk by rw [getD_at Lk od0 hil]; exact List.getElem_mem hil)
          obtain ⟨tk, htk⟩ : ∃ t, t = (Lk.getD i od0).tk := ⟨_, rfl⟩
          have hX : tookX Lk ⟨xo, xb, xr, xd, xt, xc⟩ = if ¬ (mrB tk = true ∧ mrB xt = true ∧ mrB (tk + xt) = true) then 10 else if mrB xc = false then 10 else 0 := by
            unfold tookX
            dsimp only
            rw [hat3, if_neg (fun h => h hil), htk]
          rw [← htk] at hmr
          obtain ⟨m1, m2⟩ := mr_iff.1 hmr.1
          obtain ⟨g, cg, hvg, hgB, hgl, hgc, _⟩ := own_form hrw (by omega)
          injection hvg with e1 _ e2
          subst e1; subst e2
          have hf5 : wr.cell? ⟨g, i * 7 + 5, none⟩ = some (.int .i64 tk) := by
            rw [hrw.cellAt (i * 7 + 5) (by omega), odC_at Lk i hil 5 (by decide), htk]; rfl
          have hf6 : wr.cell? ⟨g, i * 7 + 6, none⟩ = some (.int .i64 (Lk.getD i od0).ar) := by
            rw [hrw.cellAt (i * 7 + 6) (by omega), odC_at Lk i hil 6 (by decide)]; rfl
          have hg5 := hrw.frozenAt (i * 7 + 5)
          have hg6 := hrw.frozenAt (i * 7 + 6)
          have hgw : g < wo.heap.size := by
            have := HRW.out.lt g rfl
            exact this.2
          have gne : ¬ g = wo.heap.size := by omega
          have gne2 : ¬ wo.heap.size = g := by omega
          have k0 : (0 : Int) ≤ (i : Int) := by omega
          have k1 : (i : Int) < (j : Int) := by omega
          have k3 : ((i : Int)).toNat = i := by omega
          have va : decide ((i : Int) < 0) = false := by simp
          have hTA : tookA Lk ⟨xo, xb, xr, xd, xt, xc⟩ = Lk.set i { Lk.getD i od0 with tk := tk + xt, ar := xc } := by unfold tookA; rw [htk, ← hat3]
          have HTA := Lib.hid hTA
          have HX := Lib.hid hX
          have HRX := Lib.hid hrw
          have HIL := Lib.hid hil
          have HT10 : Hid (tookX Lk ⟨xo, xb, xr, xd, xt, xc⟩ = 10 → tookT l ts (k2 + 1) = (10, Lk)) := fun h => by rw [HE.out, h, if_pos (by decide)]
          have h3 := @mr_iff xt
          have h4 := @mr_iff (tk + xt)
          have h5 := @mr_iff xc
          have HM3 := Lib.hid h3
          have HM4 := Lib.hid h4
          have HM5 := Lib.hid h5
          have HMK := Lib.hid hmr.1
          generalize (Lk.getD i od0).ar = oar at hf6
          clear hmr hX hTA hat3 he htk hil y2 h3 h4 h5 hrw
          by_cases t0 : 100000000000 < xt
          · have u : decide (100000000000 < xt) = true := by simpa using t0
            have hx : tookX Lk ⟨xo, xb, xr, xd, xt, xc⟩ = 10 := by
              rw [HX.out, if_pos]; intro h; have := HM3.out.1 h.2.1; omega
            have HE2 := Lib.hid (HT10.out hx)
            clear hx t0
            go_wp2_with fail
            go_quiet (fail)
            go_wp2_with fail
            go_roundw
            case rel => exact ⟨k2 + 1, by omega, by go_num, by rw [HE2.out], (by unfold Hid; rw [HE2.out]; exact HRX.out), bD hbz _⟩
            case measure => simp [intOf]; omega
          have u0 : decide (100000000000 < xt) = false := by simpa using t0
          by_cases t1 : xt < -100000000000
          · have u : decide (xt < -100000000000) = true := by simpa using t1
            have hx : tookX Lk ⟨xo, xb, xr, xd, xt, xc⟩ = 10 := by
              rw [HX.out, if_pos]; intro h; have := HM3.out.1 h.2.1; omega
            have HE2 := Lib.hid (HT10.out hx)
            clear hx t1
            go_wp2_with fail
            go_quiet (fail)
            go_wp2_with fail
            go_roundw
            case rel => exact ⟨k2 + 1, by omega, by go_num, by rw [HE2.out], (by unfold Hid; rw [HE2.out]; exact HRX.out), bD hbz _⟩
            case measure => simp [intOf]; omega
          have u1 : decide (xt < -100000000000) = false := by simpa using t1
          have hw : IntKind.i64.wrap (tk + xt) = tk + xt := IntWalk.i64_in _ (by omega)
          by_cases t2 : 100000000000 < tk + xt
          · have u : decide (100000000000 < tk + xt) = true := by simpa using t2
            have hx : tookX Lk ⟨xo, xb, xr, xd, xt, xc⟩ = 10 := by
              rw [HX.out, if_pos]; intro h; have := HM4.out.1 h.2.2; omega
            have HE2 := Lib.hid (HT10.out hx)
            clear hx t2
            go_wp2_with fail
            go_quiet (fail)
            go_wp2_with fail
            go_roundw
            case rel => exact ⟨k2 + 1, by omega, by go_num, by rw [HE2.out], (by unfold Hid; rw [HE2.out]; exact HRX.out), bD hbz _⟩
            case measure => simp [intOf]; omega
          have u2 : decide (100000000000 < tk + xt) = false := by simpa using t2
          by_cases t3 : tk + xt < -100000000000
          · have u : decide (tk + xt < -100000000000) = true := by simpa using t3
            have hx : tookX Lk ⟨xo, xb, xr, xd, xt, xc⟩ = 10 := by
              rw [HX.out, if_pos]; intro h; have := HM4.out.1 h.2.2; omega
            have HE2 := Lib.hid (HT10.out hx)
            clear hx t3
            go_wp2_with fail
            go_quiet (fail)
            go_wp2_with fail
            go_roundw
            case rel => exact ⟨k2 + 1, by omega, by go_num, by rw [HE2.out], (by unfold Hid; rw [HE2.out]; exact HRX.out), bD hbz _⟩
            case measure => simp [intOf]; omega
          have u3 : decide (tk + xt < -100000000000) = false := by simpa using t3
          by_cases t4 : 100000000000 < xc
          · have u : decide (100000000000 < xc) = true := by simpa using t4
            have hx : tookX Lk ⟨xo, xb, xr, xd, xt, xc⟩ = 10 := by
              rw [HX.out]
              split
              · rfl
              · rw [if_pos]
                cases hh : mrB xc with
                | false => rfl
                | true => have := HM5.out.1 hh; omega
            have HE2 := Lib.hid (HT10.out hx)
            clear hx t4
            go_wp2_with fail
            go_quiet (fail)
            go_wp2_with fail
            go_roundw
            case rel => exact ⟨k2 + 1, by omega, by go_num, by rw [HE2.out], (by unfold Hid; rw [HE2.out]; exact HRX.out), bD hbz _⟩
            case measure => simp [intOf]; omega
          have u4 : decide (100000000000 < xc) = false := by simpa using t4
          by_cases t5 : xc < -100000000000
          · have u : decide (xc < -100000000000) = true := by simpa using t5
            have hx : tookX Lk ⟨xo, xb, xr, xd, xt, xc⟩ = 10 := by
              rw [HX.out]
              split
              · rfl
              · rw [if_pos]
                cases hh : mrB xc with
                | false => rfl
                | true => have := HM5.out.1 hh; omega
            have HE2 := Lib.hid (HT10.out hx)
            clear hx t5
            go_wp2_with fail
            go_quiet (fail)
            go_wp2_with fail
            go_roundw
            case rel => exact ⟨k2 + 1, by omega, by go_num, by rw [HE2.out], (by unfold Hid; rw [HE2.out]; exact HRX.out), bD hbz _⟩
            case measure => simp [intOf]; omega
          have u5 : decide (xc < -100000000000) = false := by simpa using t5
          have hx : tookX Lk ⟨xo, xb, xr, xd, xt, xc⟩ = 0 := by
            rw [HX.out, if_neg (fun h => h ⟨HMK.out, HM3.out.2 (by omega), HM4.out.2 (by omega)⟩), if_neg]
            rw [HM5.out.2 (by omega)]; decide
          have HE2 : Hid (tookT l ts (k2 + 1) = (0, tookA Lk ⟨xo, xb, xr, xd, xt, xc⟩)) := by unfold Hid; rw [HE.out, hx, if_neg (fun h => h rfl)]
          clear hx t0 t1 t2 t3 t4 t5
          have HPT : Hid (((wr.setCell ⟨g, i * 7 + 5, none⟩ (.int .i64 (tk + xt))).setCell ⟨g, i * 7 + 6, none⟩ (.int .i64 xc)).ownsRow w6.heap.size 39 7 (.slice (some ⟨g, 0, none⟩) j c7) j ((tookT l ts (k2 + 1)).2.flatMap odC)) := by
            unfold Hid
            rw [HE2.out, HTA.out]
            dsimp only
            rw [← (odC_put Lk i HIL.out (tk + xt) xc).1]
            exact own_put (own_put HRX.out _ _) _ _
          go_wp2_with fail
          go_quiet (fail)
          go_wp2_with fail
          go_region
          all_goals
            go_wp2_with fail
            go_roundw
            case rel => exact ⟨k2 + 1, by omega, by go_num, by rw [HE2.out], HPT.out, (by first | exact bS (p := ⟨g, _, none⟩) (bS (p := ⟨g, _, none⟩) (bD hbz _) hgB _) hgB _ | exact bS (p := ⟨g, _, none⟩) (bS (p := ⟨g, _, none⟩) (bD (bD hbz _) _) hgB _) hgB _ | exact bS (p := ⟨g, _, none⟩) (bD (bS (p := ⟨g, _, none⟩) (bD hbz _) hgB _) _) hgB _ | exact (bS (p := ⟨g, _, none⟩) (bS (p := ⟨g, _, none⟩) (bD (bD hbz _) _) hgB _) hgB _).drew)⟩
            case measure => simp [intOf]; omega
      obtain rfl : k2 = m := by omega
      have hfe : (tookT l ts k2).1 = te := by rw [HTE.out, HTX.out]; rfl
      have HRR := Lib.hid HRW.out
      have HKr := Lib.hid (HK6.out.t hb7)
      have HQr := Lib.hid (HQ6.out.t hb7)
      have HOr := Lib.hid (HO6.out.below hb7)
      have HBW := Lib.hid hbw
      have HLN : Hid ((tookL l ts).length = n) := by unfold Hid; rw [tookL_len]; exact HN.out.symm
      have KLg := Lib.hid (blist_c w1.heap.size (tookL l ts) wr HKr.out (by rw [HLN.out]; omega))
      rw [hfe]
      by_cases h0 : te = 0
      · have hLL : tookL l ts = (tookT l ts k2).2 := by
          unfold tookL
          rw [← HTX.out, if_pos h0, HTE.out]
        have HW : Hid (OdSl wr A7 n (tookL l ts)) := own_at (show OwnOd wr w6.heap.size (.slice A7 n c7) n (tookL l ts) from ⟨HLN.out.symm, by rw [hLL]; exact HRR.out⟩)
        have v0 : (te != 0) = false := by simpa using h0
        clear hLL h0 hfe hb7 hbw
        go_wp2_with fail
        refine KLg.out.mono ?_
        rintro e w8 ⟨⟨v8, rfl, ho8⟩, hb8⟩
        obtain ⟨A8, c8, rfl, _, hs8⟩ := ho8.sl
        rw [HLN.out] at hs8 ⊢
        have KLo := Lib.hid (blist_c q l w8 (HQr.out.t hb8) (by rw [← HN.out]; omega))
        have HS8 := Lib.hid hs8
        have HB11 := Lib.hid hb8
        clear ho8 hs8 hb8
        go_wp2_with fail
        refine KLo.out.mono ?_
        rintro e w9 ⟨⟨v9, rfl, ho9⟩, hb9⟩
        obtain ⟨A9, c9, rfl, _, hs9⟩ := ho9.sl
        rw [← HN.out] at hs9 ⊢
        have HG8 : Hid (OdSl w9 A8 n (tookL l ts)) := HS8.out.below hb9
        have HG9 : Hid (OdSl w9 A9 n l) := hs9
        have HGW : Hid (OdSl w9 A7 n (tookL l ts)) := HW.out.below (bT HB11.out hb9)
        have HGA : Hid (OdSl w9 A4 n l) := (own_at HOr.out).below (bT HB11.out hb9)
        have HGK : Hid (Bk w9 w1.heap.size (tookL l ts)) := HKr.out.t (bT HB11.out hb9)
        have HBZ : Hid (Below w.heap.size w w9) := bT HBW.out (bT HB11.out hb9)
        have vff : (te != te) = false := by simp
        have vnn : ((n : Int) != (n : Int)) = false := by simp
        clear ho9 hs9 hb9
        go_wp2_with fail
        go_loopw [159] (fun ci wr => ∃ k : Nat, k ≤ n ∧ ci = .int .i64 k ∧ Below w9.heap.size w9 wr) (fun ci _ => n - (intOf ci).toNat)
        case atStart => exact ⟨0, Nat.zero_le _, rfl, b0 _⟩
        case round =>
          obtain ⟨k4, hk4', rfl, hbl⟩ := hrel
          by_cases hk4 : k4 < n
          case neg =>
            obtain rfl : k4 = n := by omega
            go_wp2_with fail
            go_ret
            exact ⟨rfl, bT HBZ.out hbl⟩
          obtain ⟨b8, o8, rfl, hl8, hat8⟩ := (HG8.out.below hbl).2.2 (by omega)
          obtain ⟨b9, o9, rfl, hl9, hat9⟩ := (HG9.out.below hbl).2.2 (by omega)
          obtain ⟨bw, ow, rfl, hlw, hatw⟩ := (HGW.out.below hbl).2.2 (by omega)
          obtain ⟨ba, oa, rfl, hla, hata⟩ := (HGA.out.below hbl).2.2 (by omega)
          have g8 := hat8 k4 hk4
          have g9 := hat9 k4 hk4
          have gw := hatw k4 hk4
          have ga := hata k4 hk4
          have hkl : k4 < (tookL l ts).length := by rw [HLN.out]; exact hk4
          have KF : Hid (∀ W, Below w9.heap.size w9 W → Calls Tryd.prog 19 #[.pointer (some ⟨w1.heap.size, 0, none⟩), .int .i64 ((tookL l ts).getD k4 od0).id] W fun e w' => e = .returned (.tuple #[.agg (odC ((tookL l ts).getD k4 od0)).toArray, .int .i64 0]) ∧ Below W.heap.size W w') := fun W hW => by
            have hat := at_of_get (tookL_ids (ts := ts) HG.out.ids) hkl rfl
            refine (bfind_c w1.heap.size (tookL l ts) _ W (HGK.out.t hW) n HLN.out.symm (by omega)).mono ?_
            rintro e w' ⟨⟨_, rfl⟩ | ⟨h, _⟩, hb⟩
            · rw [hat]; exact ⟨rfl, hb⟩
            · rw [hat] at h; omega
          generalize (tookL l ts).getD k4 od0 = z1 at *
          generalize l.getD k4 od0 = z2 at *
          obtain ⟨id, pr, am, ra, tt, tk, ar⟩ := z1
          obtain ⟨yd, yp, ya, yr, yt, yk, ys⟩ := z2
          obtain ⟨a0, a1, a2, a3, a4, a5, a6⟩ : wr.cell? ⟨b8, o8 + k4 * 7, none⟩ = some (.int .i64 id) ∧ wr.cell? ⟨b8, o8 + k4 * 7 + 1, none⟩ = some (.int .i64 pr) ∧ wr.cell? ⟨b8, o8 + k4 * 7 + 2, none⟩ = some (.int .i64 am) ∧ wr.cell? ⟨b8, o8 + k4 * 7 + 3, none⟩ = some (.int .i64 ra) ∧ wr.cell? ⟨b8, o8 + k4 * 7 + 4, none⟩ = some (.int .i64 tt) ∧ wr.cell? ⟨b8, o8 + k4 * 7 + 5, none⟩ = some (.int .i64 tk) ∧ wr.cell? ⟨b8, o8 + k4 * 7 + 6, none⟩ = some (.int .i64 ar) := ⟨g8 0 _ rfl, g8 1 _ rfl, g8 2 _ rfl, g8 3 _ rfl, g8 4 _ rfl, g8 5 _ rfl, g8 6 _ rfl⟩
          obtain ⟨e0, e1, e2, e3, e4, e5, e6⟩ : wr.cell? ⟨bw, ow + k4 * 7, none⟩ = some (.int .i64 id) ∧ wr.cell? ⟨bw, ow + k4 * 7 + 1, none⟩ = some (.int .i64 pr) ∧ wr.cell? ⟨bw, ow + k4 * 7 + 2, none⟩ = some (.int .i64 am) ∧ wr.cell? ⟨bw, ow + k4 * 7 + 3, none⟩ = some (.int .i64 ra) ∧ wr.cell? ⟨bw, ow + k4 * 7 + 4, none⟩ = some (.int .i64 tt) ∧ wr.cell? ⟨bw, ow + k4 * 7 + 5, none⟩ = some (.int .i64 tk) ∧ wr.cell? ⟨bw, ow + k4 * 7 + 6, none⟩ = some (.int .i64 ar) := ⟨gw 0 _ rfl, gw 1 _ rfl, gw 2 _ rfl, gw 3 _ rfl, gw 4 _ rfl, gw 5 _ rfl, gw 6 _ rfl⟩
          obtain ⟨f0, f1, f2, f3, f4, f5, f6⟩ : wr.cell? ⟨b9, o9 + k4 * 7, none⟩ = some (.int .i64 yd) ∧ wr.cell? ⟨b9, o9 + k4 * 7 + 1, none⟩ = some (.int .i64 yp) ∧ wr.cell? ⟨b9, o9 + k4 * 7 + 2, none⟩ = some (.int .i64 ya) ∧ wr.cell? ⟨b9, o9 + k4 * 7 + 3, none⟩ = some (.int .i64 yr) ∧ wr.cell? ⟨b9, o9 + k4 * 7 + 4, none⟩ = some (.int .i64 yt) ∧ wr.cell? ⟨b9, o9 + k4 * 7 + 5, none⟩ = some (.int .i64 yk) ∧ wr.cell? ⟨b9, o9 + k4 * 7 + 6, none⟩ = some (.int .i64 ys) := ⟨g9 0 _ rfl, g9 1 _ rfl, g9 2 _ rfl, g9 3 _ rfl, g9 4 _ rfl, g9 5 _ rfl, g9 6 _ rfl⟩
          obtain ⟨h0, h1, h2, h3, h4, h5, h6⟩ : wr.cell? ⟨ba, oa + k4 * 7, none⟩ = some (.int .i64 yd) ∧ wr.cell? ⟨ba, oa + k4 * 7 + 1, none⟩ = some (.int .i64 yp) ∧ wr.cell? ⟨ba, oa + k4 * 7 + 2, none⟩ = some (.int .i64 ya) ∧ wr.cell? ⟨ba, oa + k4 * 7 + 3, none⟩ = some (.int .i64 yr) ∧ wr.cell? ⟨ba, oa + k4 * 7 + 4, none⟩ = some (.int .i64 yt) ∧ wr.cell? ⟨ba, oa + k4 * 7 + 5, none⟩ = some (.int .i64 yk) ∧ wr.cell? ⟨ba, oa + k4 * 7 + 6, none⟩ = some (.int .i64 ys) := ⟨ga 0 _ rfl, ga 1 _ rfl, ga 2 _ rfl, ga 3 _ rfl, ga 4 _ rfl, ga 5 _ rfl, ga 6 _ rfl⟩
          have KF2 : Hid (∀ W, Below w9.heap.size w9 W → Calls Tryd.prog 19 #[.pointer (some ⟨w1.heap.size, 0, none⟩), .int .i64 id] W fun e w' => e = .returned (.tuple #[.agg #[.int .i64 id, .int .i64 pr, .int .i64 am, .int .i64 ra, .int .i64 tt, .int .i64 tk, .int .i64 ar], .int .i64 0]) ∧ Below W.heap.size W w') := KF
          have HBL := Lib.hid hbl
          have kk0 : (0 : Int) ≤ (k4 : Int) := by omega
          have kk1 : (k4 : Int) < (n : Int) := by omega
          have kk2 : ((k4 : Int)).toNat = k4 := by omega
          clear g8 g9 gw ga hat8 hat9 hatw hata hkl hbl
          go_wp2_with fail
          go_quiet (fail)
          go_wp2_with fail
          refine (KF2.out _ (bD HBL.out _)).mono ?_
          rintro e w10 ⟨rfl, hb10⟩
          have hb11 := bT (bD HBL.out _) hb10
          have hbk := bA (bT (bD (b0 wr) _) hb10) (.cells #[.int .i64 id, .int .i64 pr, .int .i64 am, .int .i64 ra, .int .i64 tt, .int .i64 tk, .int .i64 ar] 39)
          have yy := Blk.mk w10 39 #[.int .i64 id, .int .i64 pr, .int .i64 am, .int .i64 ra, .int .i64 tt, .int .i64 tk, .int .i64 ar]
          obtain ⟨y0, y1, y2, y3, y4, y5, y6⟩ := yy.a7
          obtain ⟨x0, x1, x2, x3, x4, x5, x6⟩ : (w10.alloc (.cells #[.int .i64 id, .int .i64 pr, .int .i64 am, .int .i64 ra, .int .i64 tt, .int .i64 tk, .int .i64 ar] 39)).cell? ⟨b8, o8 + k4 * 7, none⟩ = some (.int .i64 id) ∧ (w10.alloc (.cells #[.int .i64 id, .int .i64 pr, .int .i64 am, .int .i64 ra, .int .i64 tt, .int .i64 tk, .int .i64 ar] 39)).cell? ⟨b8, o8 + k4 * 7 + 1, none⟩ = some (.int .i64 pr) ∧ (w10.alloc (.cells #[.int .i64 id, .int .i64 pr, .int .i64 am, .int .i64 ra, .int .i64 tt, .int .i64 tk, .int .i64 ar] 39)).cell? ⟨b8, o8 + k4 * 7 + 2, none⟩ = some (.int .i64 am) ∧ (w10.alloc (.cells #[.int .i64 id, .int .i64 pr, .int .i64 am, .int .i64 ra, .int .i64 tt, .int .i64 tk, .int .i64 ar] 39)).cell? ⟨b8, o8 + k4 * 7 + 3, none⟩ = some (.int .i64 ra) ∧ (w10.alloc (.cells #[.int .i64 id, .int .i64 pr, .int .i64 am, .int .i64 ra, .int .i64 tt, .int .i64 tk, .int .i64 ar] 39)).cell? ⟨b8, o8 + k4 * 7 + 4, none⟩ = some (.int .i64 tt) ∧ (w10.alloc (.cells #[.int .i64 id, .int .i64 pr, .int .i64 am, .int .i64 ra, .int .i64 tt, .int .i64 tk, .int .i64 ar] 39)).cell? ⟨b8, o8 + k4 * 7 + 5, none⟩ = some (.int .i64 tk) ∧ (w10.alloc (.cells #[.int .i64 id, .int .i64 pr, .int .i64 am, .int .i64 ra, .int .i64 tt, .int .i64 tk, .int .i64 ar] 39)).cell? ⟨b8, o8 + k4 * 7 + 6, none⟩ = some (.int .i64 ar) := ⟨(hbk.cell (p := ⟨b8, _, none⟩) hl8).trans a0, (hbk.cell (p := ⟨b8, _, none⟩) hl8).trans a1, (hbk.cell (p := ⟨b8, _, none⟩) hl8).trans a2, (hbk.cell (p := ⟨b8, _, none⟩) hl8).trans a3, (hbk.cell (p := ⟨b8, _, none⟩) hl8).trans a4, (hbk.cell (p := ⟨b8, _, none⟩) hl8).trans a5, (hbk.cell (p := ⟨b8, _, none⟩) hl8).trans a6⟩
          clear hbk yy
          go_wp2_with fail
          go_quiet (fail)
          go_wp2_with fail
          go_roundw
          case rel => exact ⟨k4 + 1, by omega, by go_num, bD (bA hb11 _) _⟩
          case measure => simp [intOf]; omega
      · have hLL : tookL l ts = l := by
          unfold tookL
          rw [← HTX.out, if_neg h0]
        have HW : Hid (OdSl wr A4 n l) := own_at HOr.out
        have v0 : (te != 0) = true := by simpa using h0
        rw [hLL] at HLN HKr KLg
        clear hLL h0 hfe hb7 hbw
        go_wp2_with fail
        refine KLg.out.mono ?_
        rintro e w8 ⟨⟨v8, rfl, ho8⟩, hb8⟩
        obtain ⟨A8, c8, rfl, _, hs8⟩ := ho8.sl
        rw [HLN.out] at hs8 ⊢
        have KLo := Lib.hid (blist_c q l w8 (HQr.out.t hb8) (by rw [← HN.out]; omega))
        have HS8 := Lib.hid hs8
        have HB11 := Lib.hid hb8
        clear ho8 hs8 hb8
        go_wp2_with fail
        refine KLo.out.mono ?_
        rintro e w9 ⟨⟨v9, rfl, ho9⟩, hb9⟩
        obtain ⟨A9, c9, rfl, _, hs9⟩ := ho9.sl
        rw [← HN.out] at hs9 ⊢
        have HG8 : Hid (OdSl w9 A8 n (l)) := HS8.out.below hb9
        have HG9 : Hid (OdSl w9 A9 n l) := hs9
        have HGW : Hid (OdSl w9 A4 n (l)) := HW.out.below (bT HB11.out hb9)
        have HGA : Hid (OdSl w9 A4 n l) := (own_at HOr.out).below (bT HB11.out hb9)
        have HGK : Hid (Bk w9 w1.heap.size (l)) := HKr.out.t (bT HB11.out hb9)
        have HBZ : Hid (Below w.heap.size w w9) := bT HBW.out (bT HB11.out hb9)
        have vff : (te != te) = false := by simp
        have vnn : ((n : Int) != (n : Int)) = false := by simp
        clear ho9 hs9 hb9
        go_wp2_with fail
        go_loopw [159] (fun ci wr => ∃ k : Nat, k ≤ n ∧ ci = .int .i64 k ∧ Below w9.heap.size w9 wr) (fun ci _ => n - (intOf ci).toNat)
        case atStart => exact ⟨0, Nat.zero_le _, rfl, b0 _⟩
        case round =>
          obtain ⟨k4, hk4', rfl, hbl⟩ := hrel
          by_cases hk4 : k4 < n
          case neg =>
            obtain rfl : k4 = n := by omega
            go_wp2_with fail
            go_ret
            exact ⟨rfl, bT HBZ.out hbl⟩
          obtain ⟨b8, o8, rfl, hl8, hat8⟩ := (HG8.out.below hbl).2.2 (by omega)
          obtain ⟨b9, o9, rfl, hl9, hat9⟩ := (HG9.out.below hbl).2.2 (by omega)
          obtain ⟨bw, ow, rfl, hlw, hatw⟩ := (HGW.out.below hbl).2.2 (by omega)
          have g8 := hat8 k4 hk4
          have g9 := hat9 k4 hk4
          have gw := hatw k4 hk4
          have hkl : k4 < (l).length := by rw [HLN.out]; exact hk4
          have KF : Hid (∀ W, Below w9.heap.size w9 W → Calls Tryd.prog 19 #[.pointer (some ⟨w1.heap.size, 0, none⟩), .int .i64 ((l).getD k4 od0).id] W fun e w' => e = .returned (.tuple #[.agg (odC ((l).getD k4 od0)).toArray, .int .i64 0]) ∧ Below W.heap.size W w') := fun W hW => by
            have hat := at_of_get HG.out.ids hkl rfl
            refine (bfind_c w1.heap.size (l) _ W (HGK.out.t hW) n HLN.out.symm (by omega)).mono ?_
            rintro e w' ⟨⟨_, rfl⟩ | ⟨h, _⟩, hb⟩
            · rw [hat]; exact ⟨rfl, hb⟩
            · rw [hat] at h; omega
          generalize (l).getD k4 od0 = z1 at *
          obtain ⟨id, pr, am, ra, tt, tk, ar⟩ := z1
          obtain ⟨a0, a1, a2, a3, a4, a5, a6⟩ : wr.cell? ⟨b8, o8 + k4 * 7, none⟩ = some (.int .i64 id) ∧ wr.cell? ⟨b8, o8 + k4 * 7 + 1, none⟩ = some (.int .i64 pr) ∧ wr.cell? ⟨b8, o8 + k4 * 7 + 2, none⟩ = some (.int .i64 am) ∧ wr.cell? ⟨b8, o8 + k4 * 7 + 3, none⟩ = some (.int .i64 ra) ∧ wr.cell? ⟨b8, o8 + k4 * 7 + 4, none⟩ = some (.int .i64 tt) ∧ wr.cell? ⟨b8, o8 + k4 * 7 + 5, none⟩ = some (.int .i64 tk) ∧ wr.cell? ⟨b8, o8 + k4 * 7 + 6, none⟩ = some (.int .i64 ar) := ⟨g8 0 _ rfl, g8 1 _ rfl, g8 2 _ rfl, g8 3 _ rfl, g8 4 _ rfl, g8 5 _ rfl, g8 6 _ rfl⟩
          obtain ⟨e0, e1, e2, e3, e4, e5, e6⟩ : wr.cell? ⟨bw, ow + k4 * 7, none⟩ = some (.int .i64 id) ∧ wr.cell? ⟨bw, ow + k4 * 7 + 1, none⟩ = some (.int .i64 pr) ∧ wr.cell? ⟨bw, ow + k4 * 7 + 2, none⟩ = some (.int .i64 am) ∧ wr.cell? ⟨bw, ow + k4 * 7 + 3, none⟩ = some (.int .i64 ra) ∧ wr.cell? ⟨bw, ow + k4 * 7 + 4, none⟩ = some (.int .i64 tt) ∧ wr.cell? ⟨bw, ow + k4 * 7 + 5, none⟩ = some (.int .i64 tk) ∧ wr.cell? ⟨bw, ow + k4 * 7 + 6, none⟩ = some (.int .i64 ar) := ⟨gw 0 _ rfl, gw 1 _ rfl, gw 2 _ rfl, gw 3 _ rfl, gw 4 _ rfl, gw 5 _ rfl, gw 6 _ rfl⟩
          obtain ⟨f0, f1, f2, f3, f4, f5, f6⟩ : wr.cell? ⟨b9, o9 + k4 * 7, none⟩ = some (.int .i64 id) ∧ wr.cell? ⟨b9, o9 + k4 * 7 + 1, none⟩ = some (.int .i64 pr) ∧ wr.cell? ⟨b9, o9 + k4 * 7 + 2, none⟩ = some (.int .i64 am) ∧ wr.cell? ⟨b9, o9 + k4 * 7 + 3, none⟩ = some (.int .i64 ra) ∧ wr.cell? ⟨b9, o9 + k4 * 7 + 4, none⟩ = some (.int .i64 tt) ∧ wr.cell? ⟨b9, o9 + k4 * 7 + 5, none⟩ = some (.int .i64 tk) ∧ wr.cell? ⟨b9, o9 + k4 * 7 + 6, none⟩ = some (.int .i64 ar) := ⟨g9 0 _ rfl, g9 1 _ rfl, g9 2 _ rfl, g9 3 _ rfl, g9 4 _ rfl, g9 5 _ rfl, g9 6 _ rfl⟩
          have KF2 : Hid (∀ W, Below w9.heap.size w9 W → Calls Tryd.prog 19 #[.pointer (some ⟨w1.heap.size, 0, none⟩), .int .i64 id] W fun e w' => e = .returned (.tuple #[.agg #[.int .i64 id, .int .i64 pr, .int .i64 am, .int .i64 ra, .int .i64 tt, .int .i64 tk, .int .i64 ar], .int .i64 0]) ∧ Below W.heap.size W w') := KF
          have HBL := Lib.hid hbl
          have kk0 : (0 : Int) ≤ (k4 : Int) := by omega
          have kk1 : (k4 : Int) < (n : Int) := by omega
          have kk2 : ((k4 : Int)).toNat = k4 := by omega
          clear g8 g9 gw hat8 hat9 hatw hkl hbl
          go_wp2_with fail
          go_quiet (fail)
          go_wp2_with fail
          refine (KF2.out _ (bD HBL.out _)).mono ?_
          rintro e w10 ⟨rfl, hb10⟩
          have hb11 := bT (bD HBL.out _) hb10
          have hbk := bA (bT (bD (b0 wr) _) hb10) (.cells #[.int .i64 id, .int .i64 pr, .int .i64 am, .int .i64 ra, .int .i64 tt, .int .i64 tk, .int .i64 ar] 39)
          have yy := Blk.mk w10 39 #[.int .i64 id, .int .i64 pr, .int .i64 am, .int .i64 ra, .int .i64 tt, .int .i64 tk, .int .i64 ar]
          obtain ⟨y0, y1, y2, y3, y4, y5, y6⟩ := yy.a7
          obtain ⟨x0, x1, x2, x3, x4, x5, x6⟩ : (w10.alloc (.cells #[.int .i64 id, .int .i64 pr, .int .i64 am, .int .i64 ra, .int .i64 tt, .int .i64 tk, .int .i64 ar] 39)).cell? ⟨b8, o8 + k4 * 7, none⟩ = some (.int .i64 id) ∧ (w10.alloc (.cells #[.int .i64 id, .int .i64 pr, .int .i64 am, .int .i64 ra, .int .i64 tt, .int .i64 tk, .int .i64 ar] 39)).cell? ⟨b8, o8 + k4 * 7 + 1, none⟩ = some (.int .i64 pr) ∧ (w10.alloc (.cells #[.int .i64 id, .int .i64 pr, .int .i64 am, .int .i64 ra, .int .i64 tt, .int .i64 tk, .int .i64 ar] 39)).cell? ⟨b8, o8 + k4 * 7 + 2, none⟩ = some (.int .i64 am) ∧ (w10.alloc (.cells #[.int .i64 id, .int .i64 pr, .int .i64 am, .int .i64 ra, .int .i64 tt, .int .i64 tk, .int .i64 ar] 39)).cell? ⟨b8, o8 + k4 * 7 + 3, none⟩ = some (.int .i64 ra) ∧ (w10.alloc (.cells #[.int .i64 id, .int .i64 pr, .int .i64 am, .int .i64 ra, .int .i64 tt, .int .i64 tk, .int .i64 ar] 39)).cell? ⟨b8, o8 + k4 * 7 + 4, none⟩ = some (.int .i64 tt) ∧ (w10.alloc (.cells #[.int .i64 id, .int .i64 pr, .int .i64 am, .int .i64 ra, .int .i64 tt, .int .i64 tk, .int .i64 ar] 39)).cell? ⟨b8, o8 + k4 * 7 + 5, none⟩ = some (.int .i64 tk) ∧ (w10.alloc (.cells #[.int .i64 id, .int .i64 pr, .int .i64 am, .int .i64 ra, .int .i64 tt, .int .i64 tk, .int .i64 ar] 39)).cell? ⟨b8, o8 + k4 * 7 + 6, none⟩ = some (.int .i64 ar) := ⟨(hbk.cell (p := ⟨b8, _, none⟩) hl8).trans a0, (hbk.cell (p := ⟨b8, _, none⟩) hl8).trans a1, (hbk.cell (p := ⟨b8, _, none⟩) hl8).trans a2, (hbk.cell (p := ⟨b8, _, none⟩) hl8).trans a3, (hbk.cell (p := ⟨b8, _, none⟩) hl8).trans a4, (hbk.cell (p := ⟨b8, _, none⟩) hl8).trans a5, (hbk.cell (p := ⟨b8, _, none⟩) hl8).trans a6⟩
          clear hbk yy
          go_wp2_with fail
          go_quiet (fail)
          go_wp2_with fail
          go_roundw
          case rel => exact ⟨k4 + 1, by omega, by go_num, bD (bA hb11 _) _⟩
          case measure => simp [intOf]; omega
--%%
end Go.Proofs.YtfhbnojhmeodiaaDoor
