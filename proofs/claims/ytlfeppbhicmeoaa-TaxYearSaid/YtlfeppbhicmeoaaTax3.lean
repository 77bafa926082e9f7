/-
  Contract of tax.Corners. Conditions as named.
-/
import Derived.Test.YtlfeppbhicmeoaaTax2
import Derived.Test.YtlfeppbhicmeoaaBand3
namespace Go.Proofs.Ytlfeppbhicmeoaa
set_option linter.unusedVariables false
open Go.RowKit
/-- why no corners are told -/
def cornE (sch : List (List Bd)) (c : Cd) (n d : Int) : Int := if fitE sch c ≠ 0 then fitE sch c else if partB n d = false then 1 else 0
/-- the corners -/
def cornV (sch : List (List Bd)) (c : Cd) (n d : Int) : List Int :=
  if c.k = 4 then [] else if c.k = 3 then [0] else freeI c.k c.a n d :: (((scaleTo (sch.getD c.s.toNat []) n d (sch.getD c.s.toNat []).length).drop 1).map (·.f)).map (· + freeI c.k c.a n d)
theorem corn_snoc (l : List Int) (f : Int) (k : Nat) (hk : k < l.length) : (f :: (l.take (k + 1)).map (· + f)).map (Value.int .i64) = (f :: (l.take k).map (· + f)).map (Value.int .i64) ++ [.int .i64 (l.getD k 0 + f)] := by
  have h1 := map_take_snoc (fun x : Int => Value.int .i64 (x + f)) l k 0 hk
  simpa [List.map_map, Function.comp_def] using h1
theorem I64Sl.grown {w w' : World} {A : Option Addr} {n : Nat} {l : List Int} {row : Option Nat} (h : I64Sl w A n l) (hg : w.grownBy w' row) (hn : ∀ b off, A = some ⟨b, off, none⟩ → row ≠ some b) : I64Sl w' A n l := by
  obtain ⟨h1, h2, h3⟩ := h
  refine ⟨h1, h2, fun h0 => ?_⟩
  obtain ⟨b, off, hA, hlt, hc⟩ := h3 h0
  refine ⟨b, off, hA, Nat.lt_of_lt_of_le hlt hg.size, fun k hk => ?_⟩
  rw [← hc k hk]
  exact World.cell?_of_block (hg.block b hlt (fun e => hn b off hA e.symm))
section
variable {P : Program}
theorem wpList_app1B {ops : Array Oper} {rest : List Oper} {o : Oper} {a : Act} {Q : Exit → Act → World → Prop} (w : World) (hgd : o.guard = none) (s x : Operand) (t : TypeId)
    (ho : o.op = .call { callee := .builtin .append, args := #[s, x], argTypes := #[t, t] })
    (e : TypeId) (z : Value) (size bytes : Nat) (ht : P.underlying t = some (.slice e)) (hi : (P.info? e).map (fun i => (i.zero, i.size, i.bytes)) = some (some z, size, bytes))
    (hzs : z.cells.size = size) (hsz : 0 < size) {base : Nat} {v : Value} {n : Nat} {xs : List Value} (hs : a.eval s = v) (hown : w.ownsRow base e size v n xs) (cs : Array Value) {nb : Nat} (hx : a.eval x = .slice (some ⟨nb, 0, none⟩) 1 1) (hnb : nb = w.heap.size)
    (hl : cs.size = size) (h1 : ∀ u ∈ cs.toList, u.oneCell' = true) (hn : (n + 1) * bytes ≤ 140737488355328) (hn2 : n + 1 ≤ 9223372036854775807) (hbase : base ≤ w.heap.size)
    (h : ∀ v' w', w'.ownsRow base e size v' (n + 1) (xs ++ cs.toList) → w.grownBy w' v.ownBlock → (v'.ownBlock = v.ownBlock ∨ v'.ownBlock = some (w.heap.size + 1)) → wpList P ops Q rest (a.put o.dst v') w') : wpList P ops Q (o :: rest) a (w.alloc (.cells cs e)) := by
  subst hnb
  refine wpList_plain hgd fun K hK => ?_
  obtain ⟨i, hi', hz, hsi, hb⟩ := info_parts hi
  obtain ⟨v', w', hr, h2, hg, _, h4⟩ := run_append_own_at (P := P) (w := w.alloc (.cells cs e)) base t o.type e i z size bytes ht hi' hz hsi hb hzs hsz v n xs (hown.alloc _) ⟨w.heap.size, 0, none⟩ 1 1 cs.toList (by simpa using hl)
    (fun j u hu => by
      rw [add_plain, cell_of_row _ _ _ cs e (0, 0) (heap_alloc_new w _)]
      simpa using hu) h1 (by unfold maxLen; exact hn2) hn (by simp; omega)
  rw [World.size_alloc] at h4
  unfold Oper.wp execOp
  simp only [ho, resolve, invoke, builtin, Sem.run_bind, Sem.run_pure, Result.andThen_ok, List.map_toArray, List.map_cons, List.map_nil, hs, hx, hr]
  exact hK _ _ (h v' w' h2 ((World.grownBy_alloc w _ _).trans hg) h4)
end
--%%
theorem tcorn_e (sch : List (List Bd)) (As Ac Ak : Option Addr) (ns cs nc cc nk ck : Nat) (lim rnd : Int) (s k a f : Int) (al : Bool) (n d : Int) (w : World) (hs : ScSl w As ns sch) (r : Int) (hr : Hid (r = cornE sch ⟨s, k, a, f, al⟩ n d)) (h0 : r ≠ 0) :
    Calls Try.prog 25 #[.agg #[.slice As ns cs, .slice Ac nc cc, .slice Ak nk ck, .int .i64 lim, .int .i64 rnd], .agg #[.int .i64 s, .int .i64 k, .int .i64 a, .int .i64 f, .bool al], .int .i64 n, .int .i64 d] w fun e w' => e = .returned (.tuple #[.slice none 0 0, .int .i64 r]) ∧ Below w.heap.size w w' := by
  have z := (Blk.mk w 26 #[.slice As ns cs, .slice Ac nc cc, .slice Ak nk ck, .int .i64 lim, .int .i64 rnd]).alloc (.cells #[.int .i64 s, .int .i64 k, .int .i64 a, .int .i64 f, .bool al] 40)
  have y := Blk.mk (w.alloc (.cells #[.slice As ns cs, .slice Ac nc cc, .slice Ak nk ck, .int .i64 lim, .int .i64 rnd] 26)) 40 #[.int .i64 s, .int .i64 k, .int .i64 a, .int .i64 f, .bool al]
  rw [World.size_alloc] at y
  have hb0 := bA (below1 w (.cells #[.slice As ns cs, .slice Ac nc cc, .slice Ak nk ck, .int .i64 lim, .int .i64 rnd] 26)) (.cells #[.int .i64 s, .int .i64 k, .int .i64 a, .int .i64 f, .bool al] 40)
  have t : (r != 0) = true := by simpa using h0
  have hR := hr.out
  unfold cornE at hR
  by_cases h1 : fitE sch ⟨s, k, a, f, al⟩ = 0
  case neg =>
    rw [if_pos h1] at hR
    have K := Lib.hid (tfits_c sch As Ac Ak ns cs nc cc nk ck lim rnd s k a f al _ (hs.below hb0) r hR)
    clear hR h0 h1 hs
    go_enter Try.func25, Try.ntmps25
    go_wp2_with fail
    refine K.out.mono ?_
    rintro e w1 ⟨rfl, hb1⟩
    go_wp2_with fail
    go_ret2
    exact ⟨rfl, bT hb0 hb1⟩
  rw [if_neg (by simpa using h1)] at hR
  have K := Lib.hid (tfits_c sch As Ac Ak ns cs nc cc nk ck lim rnd s k a f al _ (hs.below hb0) 0 h1.symm)
  have hc := (fit_ok h1).1
  cases hp : partB n d
  case true => rw [if_neg (by rw [hp]; decide)] at hR; exact absurd hR h0
  rw [if_pos hp] at hR
  have K2 := Lib.hid (cfree_r s k a f al n d · hc hp)
  subst hR
  clear h0 h1 hs hc hp hr
  go_enter Try.func25, Try.ntmps25
  go_wp2_with fail
  refine K.out.mono ?_
  rintro e w1 ⟨rfl, hb1⟩
  have y1 := y.t hb1
  obtain ⟨p0, p1, p2, p3, p4⟩ := y1.all5
  go_wp2_with fail
  refine (K2.out _).mono ?_
  rintro e w2 ⟨rfl, hb2⟩
  go_wp2_with fail
  go_ret2
  exact ⟨rfl, bT (bT hb0 hb1) hb2⟩
--%%
def CorR (L : List Int) (w : World) (e : Ending) (w' : World) : Prop := (∃ v m, e = .returned (.tuple #[v, .int .i64 0]) ∧ OwnI w' w.heap.size v m L) ∧ Below w.heap.size w w'
set_option maxRecDepth 100000 in
set_option maxHeartbeats 800000 in
theorem tcorn_t (sch : List (List Bd)) (As Ac Ak : Option Addr) (ns cs nc cc nk ck : Nat) (lim rnd : Int) (s k a f : Int) (al : Bool) (n d : Int) (w : World) (hs : ScSl w As ns sch) (hok : ∀ k, k < ns → bandsErr (sch.getD k []) = 0) (hr : cornE sch ⟨s, k, a, f, al⟩ n d = 0) :
    Calls Try.prog 25 #[.agg #[.slice As ns cs, .slice Ac nc cc, .slice Ak nk ck, .int .i64 lim, .int .i64 rnd], .agg #[.int .i64 s, .int .i64 k, .int .i64 a, .int .i64 f, .bool al], .int .i64 n, .int .i64 d] w (CorR (cornV sch ⟨s, k, a, f, al⟩ n d) w) := by
  have z := (Blk.mk w 26 #[.slice As ns cs, .slice Ac nc cc, .slice Ak nk ck, .int .i64 lim, .int .i64 rnd]).alloc (.cells #[.int .i64 s, .int .i64 k, .int .i64 a, .int .i64 f, .bool al] 40)
  have y := Blk.mk (w.alloc (.cells #[.slice As ns cs, .slice Ac nc cc, .slice Ak nk ck, .int .i64 lim, .int .i64 rnd] 26)) 40 #[.int .i64 s, .int .i64 k, .int .i64 a, .int .i64 f, .bool al]
  rw [World.size_alloc] at y
  have hb0 := bA (below1 w (.cells #[.slice As ns cs, .slice Ac nc cc, .slice Ak nk ck, .int .i64 lim, .int .i64 rnd] 26)) (.cells #[.int .i64 s, .int .i64 k, .int .i64 a, .int .i64 f, .bool al] 40)
  have hR := hr
  unfold cornE at hR
  by_cases h1 : fitE sch ⟨s, k, a, f, al⟩ = 0
  case neg =>
    rw [if_pos h1] at hR
    exact absurd hR h1
  rw [if_neg (by simpa using h1)] at hR
  cases hp : partB n d
  case false => rw [if_pos hp] at hR; cases hR
  have K := Lib.hid (tfits_c sch As Ac Ak ns cs nc cc nk ck lim rnd s k a f al _ (hs.below hb0) 0 h1.symm)
  obtain ⟨hc0, hs0, hs1, hf0, hf3⟩ := fit_ok h1
  have K2 := Lib.hid (cfree_t s k a f al n d · hc0 hp)
  have hfb := free_bd ⟨s, k, a, f, al⟩ n d hc0 hp
  dsimp only at hc0 hs0 hs1 hfb
  obtain ⟨i, rfl⟩ := Int.eq_ofNat_of_zero_le hs0
  have hi : i < ns := by have := hs.1; omega
  have hBE := hok i hi
  obtain ⟨gb, go, B, nb, cb, rfl, hlt, c0, hbs⟩ := ScAt.one hs i hi
  have HV : Hid (cornV sch ⟨(i : Int), k, a, f, al⟩ n d = if k = 4 then [] else if k = 3 then [0] else freeI k a n d :: (((scaleTo (sch.getD i []) n d (sch.getD i []).length).drop 1).map (·.f)).map (· + freeI k a n d)) := rfl
  generalize cornV sch ⟨(i : Int), k, a, f, al⟩ n d = ev at *
  generalize freeI k a n d = q at *
  have HBS := Lib.hid hbs
  have ii0 : (0 : Int) ≤ (i : Int) := by omega
  have ii1 : (i : Int) < (ns : Int) := by omega
  have ii2 : ((i : Int)).toNat = i := by omega
  clear h1 hR hr hs hok hbs hc0 hs0 hs1 hf3 hf0
  by_cases h4 : k = 4
  · subst h4
    rw [if_pos rfl] at HV
    go_enter Try.func25, Try.ntmps25
    go_wp2_with fail
    refine K.out.mono ?_
    rintro e w1 ⟨rfl, hb1⟩
    have y1 := y.t hb1
    obtain ⟨p0, p1, p2, p3, p4⟩ := y1.all5
    go_wp2_with fail
    refine (K2.out _).mono ?_
    rintro e w2 ⟨rfl, hb2⟩
    have a1 := (y1.t hb2).cell 1
    go_wp2_with fail
    go_ret2
    exact ⟨⟨_, 0, rfl, by rw [HV.out]; exact ⟨rfl, World.ownsRow_nil _ _ _ _⟩⟩, bT (bT hb0 hb1) hb2⟩
  rw [if_neg h4] at HV
  have u4 : (k == 4) = false := by simpa using h4
  by_cases h3 : k = 3
  · subst h3
    rw [if_pos rfl] at HV
    clear u4 h4
    go_enter Try.func25, Try.ntmps25
    go_wp2_with fail
    refine K.out.mono ?_
    rintro e w1 ⟨rfl, hb1⟩
    have y1 := y.t hb1
    obtain ⟨p0, p1, p2, p3, p4⟩ := y1.all5
    go_wp2_with fail
    refine (K2.out _).mono ?_
    rintro e w2 ⟨rfl, hb2⟩
    have a1 := (y1.t hb2).cell 1
    have hbz := bT (bT hb0 hb1) hb2
    have HO := Lib.hid (World.ownsRow_lit (e := 2) (size := 1) (base := w.heap.size) w2 #[.int .i64 0] 1 hbz.size (by decide) rfl)
    go_wp2_with fail
    go_ret2
    exact ⟨⟨_, 1, rfl, by rw [HV.out]; exact ⟨rfl, HO.out⟩⟩, bA hbz _⟩
  rw [if_neg h3] at HV
  have u3 : (k == 3) = false := by simpa using h3
  have KS := Lib.hid (fun W h => bscale_c (sch.getD i []) B nb cb n d W h hBE hp)
  have gB := goodB _ hBE
  have hbl8 := gB.hi
  have hgd := scale_gd gB n d hp _ (Nat.le_refl _)
  have hsl := scale_len (sch.getD i []) n d (sch.getD i []).length
  rw [HBS.out.1] at KS
  generalize hL : scaleTo (sch.getD i []) n d (sch.getD i []).length = L at *
  rw [← HBS.out.1] at KS
  have hbd : ∀ j, j < (L.drop 1).length → 0 ≤ ((L.drop 1).map (·.f)).getD j 0 ∧ ((L.drop 1).map (·.f)).getD j 0 ≤ 100000000000 := by
    intro j hj
    rw [List.length_drop] at hj
    have h1 := (hgd.b (j + 1) (by omega)).1
    have h2 : ((L.drop 1).map (·.f)).getD j 0 = (L.getD (j + 1) bd0).f := by
      simp [List.getD, List.getElem?_map, List.getElem?_eq_getElem (show j + 1 < L.length by omega)]
    rw [h2]; exact h1
  have HBD := Lib.hid hbd
  have hl20 : L.length ≤ 1000 := by omega
  have KC := Lib.hid (fun A m c W (h : BandSl W A m L) => bcorners_c L A m c W h (by have := h.1; omega))
  clear hbd hsl hgd hL gB hbl8 hBE h4 h3
  go_enter Try.func25, Try.ntmps25
  go_wp2_with fail
  refine K.out.mono ?_
  rintro e w1 ⟨rfl, hb1⟩
  have y1 := y.t hb1
  have z1 := z.t hb1
  obtain ⟨p0, p1, p2, p3, p4⟩ := y1.all5
  go_wp2_with fail
  refine (K2.out _).mono ?_
  rintro e w2 ⟨rfl, hb2⟩
  have y2 := y1.t hb2
  have z2 := z1.t hb2
  have a0 := y2.cell 0
  have a1 := y2.cell 1
  have t0 := z2.cell 0
  have hb3 := bT (bT hb0 hb1) hb2
  have c1 := (hb3.cell (p := ⟨gb, go + i, none⟩) hlt).trans c0
  go_wp2_with fail
  refine (KS.out _ (HBS.out.below hb3)).mono ?_
  rintro e w3 ⟨⟨v, m, rfl, hv⟩, hb4⟩
  obtain ⟨Av, cv2, rfl, _, hbv⟩ := hv.sl
  have hb5 := bT hb3 hb4
  have HBV := Lib.hid (hbv.below (below1 w3 (.cells #[.int .i64 q] 2)))
  have HO := Lib.hid (World.ownsRow_lit (e := 2) (size := 1) (base := w.heap.size) w3 #[.int .i64 q] 1 hb5.size (by decide) rfl)
  have hb6 := bA hb5 (.cells #[.int .i64 q] 2)
  clear hv hbv
  go_wp2_with fail
  refine (KC.out _ _ _ _ HBV.out).mono ?_
  rintro e w4 ⟨⟨v, rfl, hv⟩, hb7⟩
  have hm : m = L.length := HBV.out.1
  subst hm
  have hl2 : (L.drop 1).length = L.length - 1 := List.length_drop
  have HBD2 : Hid (∀ j, j < L.length - 1 → 0 ≤ ((L.drop 1).map (·.f)).getD j 0 ∧ ((L.drop 1).map (·.f)).getD j 0 ≤ 100000000000) := by rw [← hl2]; exact HBD.out
  obtain ⟨A2, c2, rfl, _, hr2⟩ := hv.sl
  have HNE : Hid (∀ b off, A2 = some ⟨b, off, none⟩ → some w3.heap.size ≠ some b) := by
    rintro b off rfl h
    have := (hv.2.lt b (by simp [Value.ownBlock])).1
    simp at this h
    omega
  generalize (L.drop 1).map (·.f) = l2 at *
  have hn21 : L.length - 1 ≤ 1000 := by omega
  generalize L.length - 1 = n2 at *
  have HR := Lib.hid hr2
  have HO2 := Lib.hid (own_below HO.out hb7)
  have hb8 := bT hb6 hb7
  clear hv hr2 hl2
  go_wp2_with fail
  go_loopw [14, 62] (fun v j wr => ∃ k : Nat, k ≤ n2 ∧ j = .int .i64 k ∧ OwnI wr w.heap.size v (k + 1) (q :: (l2.take k).map (· + q)) ∧ I64Sl wr A2 n2 l2 ∧ (∀ b off, A2 = some ⟨b, off, none⟩ → v.ownBlock ≠ some b) ∧ Below w.heap.size w wr) (fun _ j _ => n2 - (intOf j).toNat)
  case atStart => exact ⟨0, Nat.zero_le _, rfl, ⟨rfl, HO2.out⟩, HR.out, HNE.out, hb8⟩
  case round =>
    obtain ⟨k, hk', rfl, ⟨ho1, ho⟩, hrow, hne, hbl⟩ := hrel
    have HR1 := Lib.hid hrow
    have HNE1 := Lib.hid hne
    clear hrow hne
    have HO1 := Lib.hid ho1
    clear ho1
    by_cases hk : k < n2
    case neg =>
      obtain rfl : k = n2 := by omega
      go_wp2_with fail
      go_ret2
      have hl : l2.take k = l2 := List.take_of_length_le (by have := HR.out.1; omega)
      refine ⟨⟨_, k + 1, rfl, ?_⟩, hbl⟩
      rw [HV.out, ← hl]
      exact ⟨HO1.out, ho⟩
    obtain ⟨b, off, rfl, hltb, hat⟩ := HR1.out.2.2 (by omega)
    have d0 := hat k hk
    have hx := HBD2.out k hk
    have HS := Lib.hid (corn_snoc l2 q k (by have := HR.out.1; omega))
    have hw : IntKind.i64.wrap (l2.getD k 0 + q) = l2.getD k 0 + q := by rw [IntKind.wrap_i64]; omega
    generalize l2.getD k 0 = x at *
    have hsz := hbl.size
    have HOO := Lib.hid ho
    clear hat ho
    go_wp2_with (at_builtin; refine wpList_app1B _ rfl _ _ 28 rfl 2 _ 1 8 Try.underlying28 info_i64 rfl (by decide) rfl HOO.out _ rfl (by first | rfl | simp) rfl (by simp [Value.oneCell']) (by omega) (by omega) (by first | omega | (simp; omega)) ?_; intro v' w6 ho' hg hbk)
    go_roundw
    case rel =>
      refine ⟨k + 1, by omega, by go_num, ⟨by have := HR.out.1; simp; omega, ?_⟩, ?_⟩
      · rw [HS.out]; simpa using ho'
      · refine ⟨HR1.out.grown hg HNE1.out, fun b' off' hA h => ?_, bP hbl HOO.out hg (Nat.le_refl _)⟩
        rcases hbk with h1 | h1
        · exact HNE1.out b' off' hA (h1.symm.trans h)
        · rw [h1] at h
          injection hA with hA
          injection hA with hA
          injection h with h
          omega
    case measure => simp [intOf]; omega
--%%
end Go.Proofs.Ytlfeppbhicmeoaa
