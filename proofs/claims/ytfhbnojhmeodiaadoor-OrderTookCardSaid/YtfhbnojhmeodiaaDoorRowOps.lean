/-
  copy and append of a made row, at rows that a call owns, elements of any size. No program, no conditions beyond those named.
-/
import Derived.Test.YtfhbnojhmeodiaaDoorVoc3
import Derived.Laws.CopyOwn
import Derived.Lib.AppendZerosOnto
namespace Go.Proofs.YtfhbnojhmeodiaaDoor
set_option linter.unusedVariables false
open Go.RowKit
section
variable {P : Program}
/-- the first k elements' cells of a source -/
theorem SrcAt.load {w : World} {A : Option Addr} {m size : Nat} {news : List Value} (h : SrcAt w A m size news) (hm : 0 < m) : ∃ a, A = some a ∧ ∀ j u, news[j]? = some u → w.cell? (a.add j) = some u := by
  obtain ⟨b, off, rfl, _, hc⟩ := h.2 hm
  exact ⟨_, rfl, fun j u hu => by rw [add_plain]; exact hc j u hu⟩
/-- cells laid over a row of the call's own, from place o on -/
theorem run_copy_ownK (w : World) (dT sT ty elem : TypeId) {K : Nat} (hu : P.underlying dT = some (.slice elem)) (hs : (P.info? elem).map (·.size) = some K) (hK : 0 < K) {base n cap g : Nat} {e : TypeId} {xs : List Value}
    (hown : w.ownsRow base e K (.slice (some ⟨g, 0, none⟩) n cap) n xs) (o dLen dCap : Nat) (A : Option Addr) (sLen sCap : Nat) (news : List Value) (hsrc : SrcAt w A sLen K news) (h1 : ∀ u ∈ news, u.oneCell' = true) (hle : sLen ≤ dLen) (hfit : o + news.length ≤ n * K) :
    ∃ w', (Builtin.copy_ #[dT, sT] ty #[.slice (some ⟨g, o, none⟩) dLen dCap, .slice A sLen sCap]).run P w = .ok (goInt sLen) w' ∧ w'.ownsRow base e K (.slice (some ⟨g, 0, none⟩) n cap) n (splice xs o news) ∧ w.grownBy w' (some g) := by
  obtain ⟨hl, h2 | ⟨g', cap', cur, hv, hb, hg, hle2, hm, hsz, ht⟩⟩ := hown
  · cases h2.1
  injection hv with hA _ hc
  injection hA with hA
  injection hA with hg' _
  subst hg'
  subst hc
  have hcl : n * K ≤ cur.toList.length := by rw [Array.length_toList, hsz]; exact Nat.mul_le_mul_right _ hle2
  have hfit2 : o + news.length ≤ cur.size := by rw [Array.length_toList] at hcl; omega
  have hst := run_storeCells_at P g o e news 0 cur w hg (by simpa using hfit2) h1
  have hmin : Nat.min sLen dLen = sLen := Nat.min_eq_left hle
  have hrun : (Builtin.copy_ #[dT, sT] ty #[.slice (some ⟨g, o, none⟩) dLen dCap, .slice A sLen sCap]).run P w = .ok (goInt sLen) (w.setRow g (cur.toList.take o ++ news ++ cur.toList.drop (o + news.length)).toArray) := by
    cases hq : P.info? elem with
    | none => simp [hq] at hs
    | some i =>
      have hi : i.size = K := by simpa [hq] using hs
      have hfc : (Builtin.firstCells K sLen (.slice A sLen sCap)).run P w = .ok news.toArray w := by
        rcases A with _ | a
        · have h0 : sLen = 0 := by
            rcases Nat.eq_zero_or_pos sLen with h0 | h0
            · exact h0
            · obtain ⟨b, off, h, _⟩ := hsrc.2 h0
              cases h
          have : news = [] := List.eq_nil_of_length_eq_zero (by rw [hsrc.1, h0, Nat.zero_mul])
          subst this
          simp [Builtin.firstCells]
        · rcases Nat.eq_zero_or_pos sLen with h0 | h0
          · have : news = [] := List.eq_nil_of_length_eq_zero (by rw [hsrc.1, h0, Nat.zero_mul])
            subst this
            have := run_loadCells_list (P := P) w a [] (fun j v h => by simp at h)
            simpa [Builtin.firstCells, h0] using this
          · obtain ⟨a', ha, hc⟩ := hsrc.load h0
            injection ha with ha
            subst ha
            have := run_loadCells_list (P := P) w a news hc
            rw [hsrc.1] at this
            simpa [Builtin.firstCells] using this
      simp only [Nat.add_zero] at hst
      simp [Builtin.copy_, run_underlying hu, Builtin.lenOf, sizeOf, typeInfo, hq, hi, hmin, hfc, hst]
  refine ⟨_, hrun, ⟨?_, .inr ⟨g, cap, _, rfl, hb, setRow_heap w g cur _ e _ hg, hle2, hm, ?_, ?_⟩⟩, ?_⟩
  · rw [length_splice _ _ _ (by rw [hl]; exact hfit), hl]
  · simp; rw [hsz] at hfit2; omega
  · rw [← ht]
    unfold splice
    simp only [List.append_assoc]
    rw [List.take_append, List.take_append, List.length_take, List.take_take, List.take_drop]
    have e1 : min o cur.toList.length = o := by rw [Array.length_toList]; omega
    rw [e1, List.take_of_length_le (show news.length ≤ n * K - o by omega), List.take_take, show min (n * K) o = o by omega, show o + news.length + (n * K - o - news.length) = n * K by omega, show min o (n * K) = o by omega]
  · exact ⟨rfl, rfl, rfl, by simp [World.setRow], fun k hk hne => setRow_other w g k _ (fun h => hne (by rw [h]))⟩
/-- zero elements at the end of a slice that has no room -/
theorem run_appZ_own (w : World) (t tn ty e : TypeId) (z : Value) (size bytes : Nat) (kq kn : IntKind) (ht : P.underlying t = some (.slice e)) (htn : P.underlying tn = some (.int kn)) (hi : (P.info? e).map (fun i => (i.zero, i.size, i.bytes)) = some (some z, size, bytes))
    (hzs : z.cells.size = size) (hsz : 0 < size) (A : Option Addr) (n cap : Nat) (olds : List Value) (hsrc : SrcAt w A n size olds) (k : Nat) (h0 : 0 < k) (hg : cap < n + k) (hn2 : n + k ≤ 9223372036854775807) (hb : (n + k) * bytes ≤ 140737488355328) :
    ∃ v' w', (Builtin.append_ #[t, tn] ty #[.slice A n cap, .int kq k]).run P w = .ok v' w' ∧ w'.ownsRow w.heap.size e size v' (n + k) (olds ++ (Builtin.zeroCells z.cells k).toList) ∧ w.grownBy w' none := by
  obtain ⟨i, hi', hz, hs, hby⟩ := info_parts hi
  subst hs
  subst hby
  have hold : (Builtin.firstCells i.size n (.slice A n cap)).run P w.drew = .ok olds.toArray w.drew := by
    rcases A with _ | a
    · have h0 : n = 0 := by
        rcases Nat.eq_zero_or_pos n with h0 | h0
        · exact h0
        · obtain ⟨b, off, h, _⟩ := hsrc.2 h0
          cases h
      have : olds = [] := List.eq_nil_of_length_eq_zero (by rw [hsrc.1, h0, Nat.zero_mul])
      subst this
      simp [Builtin.firstCells]
    · rcases Nat.eq_zero_or_pos n with h0 | h0
      · have : olds = [] := List.eq_nil_of_length_eq_zero (by rw [hsrc.1, h0, Nat.zero_mul])
        subst this
        have := run_loadCells_list (P := P) w.drew a [] (fun j v h => by simp at h)
        simpa [Builtin.firstCells, h0] using this
      · obtain ⟨a', ha, hc⟩ := hsrc.load h0
        injection ha with ha
        subst ha
        have := run_loadCells_list (P := P) w.drew a olds (fun j v h => by simpa using hc j v h)
        rw [hsrc.1] at this
        simpa [Builtin.firstCells] using this
  have hfit := growslice_fits hg hb
  have hkb : k * i.bytes ≤ 281474976710656 := by
    have : k * i.bytes ≤ (n + k) * i.bytes := Nat.mul_le_mul_right _ (by omega)
    omega
  have hr := Lib.run_append_grow_zeros (P := P) w t tn ty e i z kq kn ht htn hi' hz A n cap olds hold k h0 hsz hg (by omega) hkb hfit
  have hge := grownCap_ge w (n + k) cap e
  have hcm : grownCap w (n + k) cap e ≤ maxLen := grownCap_le_maxLen w (n + k) cap e (by unfold maxLen; exact hn2)
  have hzl : (Builtin.zeroCells z.cells k).size = k * i.size := by rw [size_zeroCells, hzs]
  refine ⟨_, _, hr, ⟨?_, .inr ⟨w.heap.size, _, _, rfl, Nat.le_refl _, heap_alloc_new w.drew _, hge, hcm, ?_, ?_⟩⟩, ⟨rfl, rfl, rfl, by simp, fun q hq _ => heap_alloc_old w.drew _ hq⟩⟩
  · rw [List.length_append, hsrc.1, Array.length_toList, hzl, Nat.add_mul]
  · simp only [Array.size_append, List.size_toArray, size_zeroCells, hzs, hsrc.1, ← Nat.add_mul]
    congr 1
    omega
  · simp only [Array.toList_append]
    have : (n + k) * i.size = (olds.toArray.toList ++ (Builtin.zeroCells z.cells k).toList).length := by
      simp only [List.length_append, Array.length_toList, hzl, hsrc.1, Nat.add_mul]
    rw [this, List.take_left]
/-- a builtin's call by its run -/
theorem wpList_copyR {ops : Array Oper} {rest : List Oper} {o : Oper} {a : Act} {Q : Exit → Act → World → Prop} (w : World) (hgd : o.guard = none) (s x : Operand) (t t' : TypeId)
    (ho : o.op = .call { callee := .builtin .copy, args := #[s, x], argTypes := #[t, t'] }) (v u : Value) (hs : a.eval s = v) (hx : a.eval x = u) (v' : Value) (w' : World)
    (hr : (Builtin.copy_ #[t, t'] o.type #[v, u]).run P w = .ok v' w') (h : wpList P ops Q rest (a.put o.dst v') w') : wpList P ops Q (o :: rest) a w := by
  refine wpList_plain hgd fun K hK => ?_
  unfold Oper.wp execOp
  simp only [ho, resolve, invoke, builtin, Sem.run_bind, Sem.run_pure, Result.andThen_ok, List.map_toArray, List.map_cons, List.map_nil, hs, hx, hr]
  exact hK _ _ h
theorem wpList_appR {ops : Array Oper} {rest : List Oper} {o : Oper} {a : Act} {Q : Exit → Act → World → Prop} (w : World) (hgd : o.guard = none) (s x : Operand) (t t' : TypeId)
    (ho : o.op = .call { callee := .builtin .append, args := #[s, x], argTypes := #[t, t'] }) (v u : Value) (hs : a.eval s = v) (hx : a.eval x = u) (v' : Value) (w' : World)
    (hr : (Builtin.append_ #[t, t'] o.type #[v, u]).run P w = .ok v' w') (h : wpList P ops Q rest (a.put o.dst v') w') : wpList P ops Q (o :: rest) a w := by
  refine wpList_plain hgd fun K hK => ?_
  unfold Oper.wp execOp
  simp only [ho, resolve, invoke, builtin, Sem.run_bind, Sem.run_pure, Result.andThen_ok, List.map_toArray, List.map_cons, List.map_nil, hs, hx, hr]
  exact hK _ _ h
theorem step_copyR {w : World} {ops : Array Oper} {o : Oper} {a : Act} {K : Act → World → Prop} {Q : Exit → Act → World → Prop} {E : Prop} (hgd : o.guard = none) (s x : Operand) (t t' : TypeId)
    (ho : o.op = .call { callee := .builtin .copy, args := #[s, x], argTypes := #[t, t'] }) (v u : Value) (hs : a.eval s = v) (hx : a.eval x = u) (v' : Value) (w' : World)
    (hr : (Builtin.copy_ #[t, t'] o.type #[v, u]).run P w = .ok v' w') (h : K (a.put o.dst v') w') :
    if Region.wanted o (yielded ops a.tmps) = true then Oper.wp P o a w K Q else E := by
  have hw : Region.wanted o (yielded ops a.tmps) = true := by simp [Region.wanted, hgd]
  rw [if_pos hw]
  unfold Oper.wp execOp
  simp only [ho, resolve, invoke, builtin, Sem.run_bind, Sem.run_pure, Result.andThen_ok, List.map_toArray, List.map_cons, List.map_nil, hs, hx, hr]
  exact h
end
end Go.Proofs.YtfhbnojhmeodiaaDoor
