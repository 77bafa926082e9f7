/-
  Words on memory that a call makes: rows that it owns, and blocks beside them. No program, no conditions beyond those named.
-/
import Derived.Test.YtankoappneglcaaOpen2
import Derived.OwnWalk
import Derived.Maps.AppendAt
import Derived.Laws.MakeOwn
import Derived.Deep.OwnRows
import Derived.Deep.RegionLaw
namespace Go.Proofs.Ytankoappneglcaa
set_option linter.unusedVariables false
open Go.RowKit

section
variable {w w' : World} {g : Nat} {t : TypeId} {cs : Array Value} {base size n : Nat} {e : TypeId} {v : Value} {xs : List Value}
theorem Blk.grown {row : Option Nat} (h : Blk w g t cs) (hb : w.grownBy w' row) (hg : some g ≠ row) : Blk w' g t cs := (hb.block g h.lt hg).trans h
theorem Blk.differ {g' : Nat} {t' : TypeId} {cs' : Array Value} (h : Blk w g t cs) (h' : Blk w g' t' cs') (hne : t ≠ t') : g ≠ g' := by
  rintro rfl
  unfold Blk at h h'
  rw [h] at h'
  injection h' with h'
  injection h' with _ ht
  exact hne ht
theorem own_blk (h : w.ownsRow base e size v n xs) (hg : Blk w g t cs) (hne : e ≠ t) : some g ≠ v.ownBlock := by
  rcases h.2 with ⟨rfl, _⟩ | ⟨g', cap, cur, rfl, _, hh, _⟩
  · simp [Value.ownBlock]
  · intro he
    have : g = g' := by simpa [Value.ownBlock] using he
    subst this
    exact Blk.differ (t := e) hh hg hne rfl
theorem own_low (h : w.ownsRow base e size v n xs) (hg : g < base) : some g ≠ v.ownBlock := by
  intro he
  have := (h.lt g he.symm).1
  omega
theorem own_own {base' size' n' : Nat} {e' : TypeId} {v' : Value} {xs' : List Value} (h : w.ownsRow base e size v n xs) (h' : w.ownsRow base' e' size' v' n' xs') (hne : e ≠ e') : v.ownBlock = none ∨ v.ownBlock ≠ v'.ownBlock := by
  rcases h.2 with ⟨rfl, _⟩ | ⟨g, cap, cur, rfl, _, hh, _⟩
  · exact Or.inl rfl
  · exact Or.inr (Ne.symm (Ne.symm (own_blk h' hh (Ne.symm hne))))
theorem grown_of_below (hb : Below w.heap.size w w') (row : Option Nat) : w.grownBy w' row := ⟨hb.os, hb.tape, hb.output, hb.size, fun k hk _ => hb.block k hk⟩
theorem own_below (h : w.ownsRow base e size v n xs) (hb : Below w.heap.size w w') : w'.ownsRow base e size v n xs :=
  h.kept (grown_of_below hb none) (by cases v.ownBlock <;> simp)
theorem own_drewN (h : w.ownsRow base e size v n xs) (k : Nat) : (w.drewN k).ownsRow base e size v n xs := h
theorem own_more (h : w.ownsRow base e size v n xs) {base' : Nat} (hb : base' ≤ base) : w.ownsRow base' e size v n xs := by
  refine ⟨h.1, ?_⟩
  rcases h.2 with hl | ⟨g, cap, cur, rfl, h1, hr⟩
  · exact Or.inl hl
  · exact Or.inr ⟨g, cap, cur, rfl, by omega, hr⟩
/-- a row with an element has a block -/
theorem own_form (h : w.ownsRow base e size v n xs) (hn : 0 < n) : ∃ g cap, v = .slice (some ⟨g, 0, none⟩) n cap ∧ base ≤ g ∧ g < w.heap.size ∧ n ≤ cap ∧ w.ownsRow base e size (.slice (some ⟨g, 0, none⟩) n cap) n xs := by
  have h0 := h
  rcases h.2 with ⟨_, h2⟩ | ⟨g, cap, cur, rfl, h1, hr, hc, _⟩
  · omega
  · exact ⟨g, cap, rfl, h1, (Array.getElem?_eq_some_iff.1 hr).1, hc, h0⟩
/-- a row as a slice -/
theorem own_slice (h : w.ownsRow base e size v n xs) : ∃ A c, v = .slice A n c := by
  rcases h.2 with ⟨rfl, rfl⟩ | ⟨g, cap, cur, rfl, _⟩
  · exact ⟨none, 0, rfl⟩
  · exact ⟨_, _, rfl⟩
theorem below_grown {B : Nat} {a : World} {row : Option Nat} (h : Below B a w) (hg : w.grownBy w' row) (hB : B ≤ w.heap.size) (hr : ∀ k, row = some k → B ≤ k) : Below B a w' := h.grown hg hB hr
theorem below_app {B : Nat} {a : World} (h : Below B a w) (hown : w.ownsRow base e size v n xs) (hg : w.grownBy w' v.ownBlock) (hB : B ≤ w.heap.size) (hb : B ≤ base) : Below B a w' :=
  h.grown hg hB (fun k hk => Nat.le_trans hb (hown.lt k hk).1)
end

section
variable {P : Program}
/-- one element more at the end of a row of the call's own; the element's cells stand in a new block -/
theorem run_app1 (w : World) (t ty e : TypeId) (z : Value) (size bytes : Nat) (ht : P.underlying t = some (.slice e)) (hi : (P.info? e).map (fun i => (i.zero, i.size, i.bytes)) = some (some z, size, bytes))
    (hzs : z.cells.size = size) (hsz : 0 < size) {base : Nat} {v : Value} {n : Nat} {xs : List Value} (hown : w.ownsRow base e size v n xs) (cs : Array Value) (hl : cs.size = size) (h1 : ∀ u ∈ cs.toList, u.oneCell' = true)
    (hn : (n + 1) * bytes ≤ 140737488355328) (hn2 : n + 1 ≤ 9223372036854775807) (hbase : base ≤ w.heap.size) :
    ∃ v' w', (Builtin.append_ #[t, t] ty #[v, .slice (some ⟨w.heap.size, 0, none⟩) 1 1]).run P (w.alloc (.cells cs e)) = .ok v' w' ∧ w'.ownsRow base e size v' (n + 1) (xs ++ cs.toList) ∧ w.grownBy w' v.ownBlock := by
  obtain ⟨i, hi', hz, hs, hb⟩ := info_parts hi
  obtain ⟨v', w', hr, ho, hg, _⟩ := run_append_own (P := P) (w.alloc (.cells cs e)) base t ty e i z size bytes ht hi' hz hs hb hzs hsz v n xs (hown.alloc _) ⟨w.heap.size, 0, none⟩ 1 1 cs.toList (by simpa using hl)
    (fun j u hu => by
      rw [add_plain, cell_of_row _ _ _ cs e (0, 0) (heap_alloc_new w _)]
      simpa using hu) h1 (by unfold maxLen; exact hn2) hn (by simp; omega)
  exact ⟨v', w', hr, ho, (World.grownBy_alloc w _ _).trans hg⟩
theorem wpList_app1 {ops : Array Oper} {rest : List Oper} {o : Oper} {a : Act} {Q : Exit → Act → World → Prop} (w : World) (hgd : o.guard = none) (s x : Operand) (t : TypeId)
    (ho : o.op = .call { callee := .builtin .append, args := #[s, x], argTypes := #[t, t] })
    (e : TypeId) (z : Value) (size bytes : Nat) (ht : P.underlying t = some (.slice e)) (hi : (P.info? e).map (fun i => (i.zero, i.size, i.bytes)) = some (some z, size, bytes))
    (hzs : z.cells.size = size) (hsz : 0 < size) {base : Nat} {v : Value} {n : Nat} {xs : List Value} (hs : a.eval s = v) (hown : w.ownsRow base e size v n xs) (cs : Array Value) {nb : Nat} (hx : a.eval x = .slice (some ⟨nb, 0, none⟩) 1 1) (hnb : nb = w.heap.size)
    (hl : cs.size = size) (h1 : ∀ u ∈ cs.toList, u.oneCell' = true) (hn : (n + 1) * bytes ≤ 140737488355328) (hn2 : n + 1 ≤ 9223372036854775807) (hbase : base ≤ w.heap.size)
    (h : ∀ v' w', w'.ownsRow base e size v' (n + 1) (xs ++ cs.toList) → w.grownBy w' v.ownBlock → wpList P ops Q rest (a.put o.dst v') w') : wpList P ops Q (o :: rest) a (w.alloc (.cells cs e)) := by
  subst hnb
  refine wpList_plain hgd fun K hK => ?_
  obtain ⟨v', w', hr, h2, h3⟩ := run_app1 w t o.type e z size bytes ht hi hzs hsz hown cs hl h1 hn hn2 hbase
  unfold Oper.wp execOp
  simp only [ho, resolve, invoke, builtin, Sem.run_bind, Sem.run_pure, Result.andThen_ok, List.map_toArray, List.map_cons, List.map_nil, hs, hx, hr]
  exact hK _ _ (h v' w' h2 h3)
/-- make with a length, for every world -/
theorem run_make_K (t e : TypeId) (z : Value) (size bytes : Nat) (ht : P.underlying t = some (.slice e)) (hi : (P.info? e).map (fun i => (i.zero, i.size, i.bytes)) = some (some z, size, bytes))
    (n : Nat) (hn : bytes * n ≤ 281474976710656) (hn2 : n ≤ 9223372036854775807) (w : World) :
    (Instr.makeSlice t (.int .i64 (n : Int)) (.int .i64 (n : Int))).run P w = .ok (.slice (some ⟨w.heap.size, 0, none⟩) n n) (w.alloc (.cells (madeCells z.cells (n * size)) e)) := by
  obtain ⟨i, hi', hz, hs, hb⟩ := info_parts hi
  subst hs
  have hb' : (i.bytes : Int) * (n : Int) ≤ 281474976710656 := by
    have h : ((i.bytes * n : Nat) : Int) ≤ 281474976710656 := by rw [hb]; omega
    rwa [Int.natCast_mul] at h
  have hr := run_make (P := P) w t e i z ht hi' hz .i64 .i64 n n (by omega) (Int.le_refl _) hb' (by omega)
  simp only [Int.toNat_natCast] at hr
  exact hr
theorem own_made (w : World) (e : TypeId) (z : Array Value) (size n : Nat) (hn2 : n ≤ 9223372036854775807) {base : Nat} (hb : base ≤ w.heap.size) :
    (w.alloc (.cells (madeCells z (n * size)) e)).ownsRow base e size (.slice (some ⟨w.heap.size, 0, none⟩) n n) n (madeCells z (n * size)).toList :=
  World.ownsRow_lit w _ n hb (by unfold maxLen; exact hn2) (size_madeCells _ _)
end
section
variable {P : Program}
/-- what a slice that is appended holds: m elements of size cells each -/
def SrcAt (w : World) (A : Option Addr) (m size : Nat) (news : List Value) : Prop :=
  news.length = m * size ∧ (0 < m → ∃ b off, A = some ⟨b, off, none⟩ ∧ b < w.heap.size ∧ ∀ j u, news[j]? = some u → w.cell? ⟨b, off + j, none⟩ = some u)
theorem SrcAt.below {w w' : World} {A : Option Addr} {m size : Nat} {news : List Value} (h : SrcAt w A m size news) (hb : Below w.heap.size w w') : SrcAt w' A m size news := by
  refine ⟨h.1, fun hm => ?_⟩
  obtain ⟨b, off, hA, hlt, hc⟩ := h.2 hm
  exact ⟨b, off, hA, Nat.lt_of_lt_of_le hlt hb.size, fun j u hu => (hb.cell (p := ⟨b, _, none⟩) hlt).trans (hc j u hu)⟩
theorem RowSl.src {α : Type} {f : α → List Value} {K : Nat} {d : α} {w : World} {A : Option Addr} {n : Nat} {l : List α} (h : RowSl f K d w A n l) (hf : ∀ x, (f x).length = K) : SrcAt w A n K (l.flatMap f) := by
  obtain ⟨h1, h2, h3⟩ := h
  have hlen : ∀ l : List α, (l.flatMap f).length = l.length * K := by
    intro l
    induction l with
    | nil => simp
    | cons x l ih => rw [List.flatMap_cons, List.length_append, ih, hf, List.length_cons, Nat.succ_mul]; omega
  refine ⟨by rw [hlen, h1], fun hn => ?_⟩
  obtain ⟨b, off, hA, hlt, hc⟩ := h3 hn
  refine ⟨b, off, hA, hlt, fun j u hu => ?_⟩
  have key : ∀ (l : List α) (j : Nat) (u : Value), (l.flatMap f)[j]? = some u → ∃ k i, k < l.length ∧ j = k * K + i ∧ (f (l.getD k d))[i]? = some u := by
    intro l
    induction l with
    | nil => intro j u hu; simp at hu
    | cons x l ih =>
      intro j u hu
      rw [List.flatMap_cons] at hu
      by_cases hj : j < K
      · rw [List.getElem?_append_left (by rw [hf]; exact hj)] at hu
        exact ⟨0, j, by simp, by omega, by simpa using hu⟩
      · rw [List.getElem?_append_right (by rw [hf]; omega), hf] at hu
        obtain ⟨k, i, hk, he, hv⟩ := ih _ _ hu
        exact ⟨k + 1, i, by simpa using hk, by rw [Nat.succ_mul]; omega, by simpa using hv⟩
  obtain ⟨k, i, hk, rfl, hv⟩ := key l j u hu
  have := hc k (by omega) i u hv
  rwa [Nat.add_assoc] at this
theorem own_src {w : World} {base size n c : Nat} {e : TypeId} {A : Option Addr} {xs : List Value} (h : w.ownsRow base e size (.slice A n c) n xs) : SrcAt w A n size xs := by
  refine ⟨h.1, fun hn => ?_⟩
  obtain ⟨g, cap, hv, hb, hlt, hc, ho⟩ := own_form h hn
  injection hv with hA _ _
  subst hA
  refine ⟨g, 0, rfl, hlt, fun j u hu => ?_⟩
  have hj : j < n * size := by rw [← h.1]; exact (List.getElem?_eq_some_iff.1 hu).1
  rw [Nat.zero_add, ho.cellAt j hj, hu]
/-- a whole slice put to the end of a row of the call's own -/
theorem run_appN (w : World) (t ty e : TypeId) (z : Value) (size bytes : Nat) (ht : P.underlying t = some (.slice e)) (hi : (P.info? e).map (fun i => (i.zero, i.size, i.bytes)) = some (some z, size, bytes))
    (hzs : z.cells.size = size) (hsz : 0 < size) {base : Nat} {v : Value} {n : Nat} {xs : List Value} (hown : w.ownsRow base e size v n xs) (A : Option Addr) (m c : Nat) (news : List Value) (hsrc : SrcAt w A m size news) (h1 : ∀ u ∈ news, u.oneCell' = true)
    (hn : (n + m) * bytes ≤ 140737488355328) (hn2 : n + m ≤ 9223372036854775807) (hbase : base ≤ w.heap.size) :
    ∃ v' w', (Builtin.append_ #[t, t] ty #[v, .slice A m c]).run P w = .ok v' w' ∧ w'.ownsRow base e size v' (n + m) (xs ++ news) ∧ w.grownBy w' v.ownBlock := by
  obtain ⟨i, hi', hz, hs, hb⟩ := info_parts hi
  rcases A with _ | ad
  · have hm : m = 0 := by
      rcases Nat.eq_zero_or_pos m with h0 | h0
      · exact h0
      · obtain ⟨b, off, h, _⟩ := hsrc.2 h0
        cases h
    subst hm
    have hnn : news = [] := List.eq_nil_of_length_eq_zero (by simpa using hsrc.1)
    subst hnn
    refine ⟨v, w, ?_, by simpa using hown, World.grownBy.refl w _⟩
    rcases hown.2 with ⟨rfl, rfl⟩ | ⟨g, cap, cur, rfl, _, _, hnc, _⟩
    · simp [Builtin.append_, run_underlying ht, sizeOf, typeInfo, hi', Builtin.lenOf, Builtin.firstCells]
    · simp [Builtin.append_, run_underlying ht, sizeOf, typeInfo, hi', Builtin.lenOf, Builtin.firstCells, hnc, storeCells]
  · obtain ⟨v', w', hr, ho, hg, _⟩ := run_append_own (P := P) w base t ty e i z size bytes ht hi' hz hs hb hzs hsz v n xs hown ad m c news hsrc.1
      (fun j u hu => by
        have hm : 0 < m := by
          rcases Nat.eq_zero_or_pos m with h0 | h0
          · subst h0
            have hnn : news = [] := List.eq_nil_of_length_eq_zero (by simpa using hsrc.1)
            subst hnn
            simp at hu
          · exact h0
        obtain ⟨b, off, hA, _, hc⟩ := hsrc.2 hm
        injection hA with hA
        subst hA
        rw [add_plain]
        exact hc j u hu) h1 (by unfold maxLen; exact hn2) hn hbase
    exact ⟨v', w', hr, ho, hg⟩
theorem wpList_appN {ops : Array Oper} {rest : List Oper} {o : Oper} {a : Act} {Q : Exit → Act → World → Prop} (w : World) (hgd : o.guard = none) (s x : Operand) (t : TypeId)
    (ho : o.op = .call { callee := .builtin .append, args := #[s, x], argTypes := #[t, t] })
    (e : TypeId) (z : Value) (size bytes : Nat) (ht : P.underlying t = some (.slice e)) (hi : (P.info? e).map (fun i => (i.zero, i.size, i.bytes)) = some (some z, size, bytes))
    (hzs : z.cells.size = size) (hsz : 0 < size) {base : Nat} {v : Value} {n : Nat} {xs : List Value} (hs : a.eval s = v) (hown : w.ownsRow base e size v n xs) (A : Option Addr) (m c : Nat) (news : List Value) (hx : a.eval x = .slice A m c)
    (hsrc : SrcAt w A m size news) (h1 : ∀ u ∈ news, u.oneCell' = true) (hn : (n + m) * bytes ≤ 140737488355328) (hn2 : n + m ≤ 9223372036854775807) (hbase : base ≤ w.heap.size)
    (h : ∀ v' w', w'.ownsRow base e size v' (n + m) (xs ++ news) → w.grownBy w' v.ownBlock → wpList P ops Q rest (a.put o.dst v') w') : wpList P ops Q (o :: rest) a w := by
  refine wpList_plain hgd fun K hK => ?_
  obtain ⟨v', w', hr, h2, h3⟩ := run_appN w t o.type e z size bytes ht hi hzs hsz hown A m c news hsrc h1 hn hn2 hbase
  unfold Oper.wp execOp
  simp only [ho, resolve, invoke, builtin, Sem.run_bind, Sem.run_pure, Result.andThen_ok, List.map_toArray, List.map_cons, List.map_nil, hs, hx, hr]
  exact hK _ _ (h v' w' h2 h3)
end
section
variable {P : Program}
/-- an append in a region that draws, by its run -/
theorem step_of_run {w : World} {ops : Array Oper} {o : Oper} {a : Act} {K : Act → World → Prop} {Q : Exit → Act → World → Prop} {E : Prop} (hgd : o.guard = none) (s x : Operand) (t : TypeId)
    (ho : o.op = .call { callee := .builtin .append, args := #[s, x], argTypes := #[t, t] }) (v u : Value) (hs : a.eval s = v) (hx : a.eval x = u) (v' : Value) (w' : World)
    (hr : (Builtin.append_ #[t, t] o.type #[v, u]).run P w = .ok v' w') (h : K (a.put o.dst v') w') :
    if Region.wanted o (yielded ops a.tmps) = true then Oper.wp P o a w K Q else E := by
  have hw : Region.wanted o (yielded ops a.tmps) = true := by simp [Region.wanted, hgd]
  rw [if_pos hw]
  unfold Oper.wp execOp
  simp only [ho, resolve, invoke, builtin, Sem.run_bind, Sem.run_pure, Result.andThen_ok, List.map_toArray, List.map_cons, List.map_nil, hs, hx, hr]
  exact h
end
/-! ### steps of a call, one behind the other -/
section
variable {w W W' : World}
theorem bT (h : Below w.heap.size w W) (hb : Below W.heap.size W W') : Below w.heap.size w W' := h.trans (hb.mono h.size)
theorem bA (h : Below w.heap.size w W) (o : Obj) : Below w.heap.size w (W.alloc o) := h.alloc h.size o
theorem bD (h : Below w.heap.size w W) (n : Nat) : Below w.heap.size w (W.drewN n) := ⟨h.os, h.tape, h.output, h.size, h.block⟩
theorem bS (h : Below w.heap.size w W) {p : Addr} (hp : w.heap.size ≤ p.block) (u : Value) : Below w.heap.size w (W.setCell p u) := h.setCell hp u
theorem b0 (w : World) : Below w.heap.size w w := Below.refl _ _
theorem bP {base size n : Nat} {e : TypeId} {v : Value} {xs : List Value} (h : Below w.heap.size w W) (hown : W.ownsRow base e size v n xs) (hg : W.grownBy W' v.ownBlock) (hb : w.heap.size ≤ base) : Below w.heap.size w W' := below_app h hown hg h.size hb
theorem Blk.t {g : Nat} {t : TypeId} {cs : Array Value} (h : Blk W g t cs) (hb : Below W.heap.size W W') : Blk W' g t cs := h.below hb h.lt
/-- for a region that draws: what holds in all worlds above a first one -/
theorem sK {w0 W W1 : World} {C : World → Prop} (G : ∀ W, Below w0.heap.size w0 W → Below w0.heap.size w0 W ∧ C W) (h : Below w0.heap.size w0 W ∧ C W) (hb : Below W.heap.size W W1) : Below w0.heap.size w0 W1 ∧ C W1 := G _ (h.1.trans (hb.mono h.1.size))
end
theorem cell_alloc (w : World) (cs : Array Value) (t : TypeId) (b i : Nat) : (w.alloc (.cells cs t)).cell? ⟨b, i, none⟩ = if b = w.heap.size then cs[i]? else w.cell? ⟨b, i, none⟩ := by
  by_cases h : b = w.heap.size
  · subst h
    rw [if_pos rfl]
    exact (Blk.mk w t cs).cell i
  · rw [if_neg h]
    apply World.cell?_of_block
    show (w.heap.push _)[b]? = w.heap[b]?
    rw [Array.getElem?_push, if_neg h]
theorem getElem_snoc {α : Type} (vs : List α) (x : α) (k : Nat) (h : vs.length = k) : (vs ++ [x])[k]? = some x := by subst h; simp
theorem flatMap_take_snoc {α : Type} (f : α → List Value) (l : List α) (k : Nat) (d : α) (h : k < l.length) : (l.take (k + 1)).flatMap f = (l.take k).flatMap f ++ f (l.getD k d) := by
  rw [List.take_succ_eq_append_getElem h, List.flatMap_append]
  simp [List.getD, List.getElem?_eq_getElem h]
theorem map_take_snoc {α β : Type} (f : α → β) (l : List α) (k : Nat) (d : α) (h : k < l.length) : (l.take (k + 1)).map f = (l.take k).map f ++ [f (l.getD k d)] := by
  rw [List.take_succ_eq_append_getElem h, List.map_append]
  simp [List.getD, List.getElem?_eq_getElem h]
end Go.Proofs.Ytankoappneglcaa
