/-
  Contract of tax.Corners. Conditions as named.
-/
import Derived.Test.YtankoappneglcaaTax2
import Derived.Test.YtankoappneglcaaBand3
namespace Go.Proofs.Ytankoappneglcaa
set_option linter.unusedVariables false
open Go.RowKit
/-- why no corners are told -/
def cornE (sch : List (List Bd)) (c : Cd) (n d : Int) : Int := if fitE sch c ≠ 0 then fitE sch c else if partB n d = false then 1 else 0
/-- the corners -/
def cornV (sch : List (List Bd)) (c : Cd) (n d : Int) : List Int :=
  if c.k = 4 then [] else if c.k = 3 then [0] else freeI c.k c.a n d :: (((scaleTo (sch.getD c.s.toNat []) n d (sch.getD c.s.toNat []).length).drop 1).map (·.f)).map (· + freeI c.k c.a n d)
theorem corn_snoc (l : List Int) (f : Int) (k : Nat) (hk : k < l.length) : (f :: (l.take (k + 1)).map (· + f)).map (Value.int .i64) = (f :: (l.take k).map (· + f)).map (Value.int .i64) ++ [.int .i64 (l.getD k 0 + f)] := by
  have h1 := map_take_snoc (fun x : Int => Value.int .i64 (x + f)) l k 0 hk
  simpa [List.map_map, Function.comp_def] using h1
theorem I64Sl.grown {w w' : World} {A : Option Addr} {n : Nat} {l : List Int} {row : Option Nat} (h : I64Sl w A n l) (hg : w.grownBy w' row) (hn : ∀ b off, A = some ⟨b, off, none⟩ → row ≠ some b) : I64Sl w' A n l := by
  obtain ⟨h1, h2, h3⟩ := h
  refine ⟨h1, h2, fun h0 => ?_⟩
  obtain ⟨b, off, hA, hlt, hc⟩ := h3 h0
  refine ⟨b, off, hA, Nat.lt_of_lt_of_le hlt hg.size, fun k hk => ?_⟩
  rw [← hc k hk]
  exact World.cell?_of_block (hg.block b hlt (fun e => hn b off hA e.symm))
section
variable {P : Program}
theorem wpList_app1B {ops : Array Oper} {rest : List Oper} {o : Oper} {a : Act} {Q : Exit → Act → World → Prop} (w : World) (hgd : o.guard = none) (s x : Operand) (t : TypeId)
    (ho : o.op = .call { callee := .builtin .append, args := #[s, x], argTypes := #[t, t] })
    (e : TypeId) (z : Value) (size bytes : Nat) (ht : P.underlying t = some (.slice e)) (hi : (P.info? e).map (fun i => (i.zero, i.size, i.bytes)) = some (some z, size, bytes))
    (hzs : z.cells.size = size) (hsz : 0 < size) {base : Nat} {v : Value} {n : Nat} {xs : List Value} (hs : a.eval s = v) (hown : w.ownsRow base e size v n xs) (cs : Array Value) {nb : Nat} (hx : a.eval x = .slice (some ⟨nb, 0, none⟩) 1 1) (hnb : nb = w.heap.size)
    (hl : cs.size = size) (h1 : ∀ u ∈ cs.toList, u.oneCell' = true) (hn : (n + 1) * bytes ≤ 140737488355328) (hn2 : n + 1 ≤ 9223372036854775807) (hbase : base ≤ w.heap.size)
    (h : ∀ v' w', w'.ownsRow base e size v' (n + 1) (xs ++ cs.toList) → w.grownBy w' v.ownBlock → (v'.ownBlock = v.ownBlock ∨ v'.ownBlock = some (w.heap.size + 1)) → wpList P ops Q rest (a.put o.dst v') w') : wpList P ops Q (o :: rest) a (w.alloc (.cells cs e)) := by
  subst hnb
  refine wpList_plain hgd fun K hK => ?_
  obtain ⟨i, hi', hz, hsi, hb⟩ := info_parts hi
  obtain ⟨v', w', hr, h2, hg, _, h4⟩ := run_append_own_at (P := P) (w := w.alloc (.cells cs e)) base t o.type e i z size bytes ht hi' hz hsi hb hzs hsz v n xs (hown.alloc _) ⟨w.heap.size, 0, none⟩ 1 1 cs.toList (by simpa using hl)
    (fun j u hu => by
      rw [add_plain, cell_of_row _ _ _ cs e (0, 0) (heap_alloc_new w _)]
      simpa using hu) h1 (by unfold maxLen; exact hn2) hn (by simp; omega)
  rw [World.size_alloc] at h4
  unfold Oper.wp execOp
  simp only [ho, resolve, invoke, builtin, Sem.run_bind, Sem.run_pure, Result.andThen_ok, List.map_toArray, List.map_cons, List.map_nil, hs, hx, hr]
  exact hK _ _ (h v' w' h2 ((World.grownBy_alloc w _ _).trans hg) h4)
end
--%%
end Go.Proofs.Ytankoappneglcaa
