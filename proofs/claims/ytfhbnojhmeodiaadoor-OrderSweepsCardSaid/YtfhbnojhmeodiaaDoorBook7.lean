/-
  Contracts of a book's Sweep: the library's DeleteFunc with a function that keeps numbers. Conditions as named.
-/
import Derived.Test.YtfhbnojhmeodiaaDoorBook6
import Derived.Test.YtfhbnojhmeodiaaDoorBookP2
import Derived.Test.YtfhbnojhmeodiaaDoorI64
import Derived.Laws.CopyRow
namespace Go.Proofs.YtfhbnojhmeodiaaDoor
set_option linter.unusedVariables false
open Go.RowKit
/-- as it was below N, but for the places X -/
structure Kp (N : Nat) (X : Nat → Prop) (w w' : World) : Prop where
  os : w'.os = w.os
  tape : w'.tape = w.tape
  output : w'.output = w.output
  size : w.heap.size ≤ w'.heap.size
  block : ∀ k, k < N → ¬ X k → w'.heap[k]? = w.heap[k]?
theorem Kp.refl (N : Nat) (X : Nat → Prop) (w : World) : Kp N X w w := ⟨rfl, rfl, rfl, Nat.le_refl _, fun _ _ _ => rfl⟩
theorem Kp.trans {N : Nat} {X : Nat → Prop} {a b c : World} (h : Kp N X a b) (k : Kp N X b c) : Kp N X a c :=
  ⟨k.os.trans h.os, k.tape.trans h.tape, k.output.trans h.output, Nat.le_trans h.size k.size, fun i hi hx => (k.block i hi hx).trans (h.block i hi hx)⟩
theorem Kp.mono {N : Nat} {X Y : Nat → Prop} {a b : World} (h : Kp N X a b) (hxy : ∀ k, X k → Y k) : Kp N Y a b :=
  ⟨h.os, h.tape, h.output, h.size, fun i hi hx => h.block i hi (fun hX => hx (hxy i hX))⟩
theorem Kp.below {N B : Nat} {X : Nat → Prop} {a b : World} (h : Below B a b) (hN : N ≤ B) : Kp N X a b := ⟨h.os, h.tape, h.output, h.size, fun i hi _ => h.block i (by omega)⟩
theorem Kp.grown {N : Nat} {X : Nat → Prop} {a b : World} {row : Option Nat} (h : a.grownBy b row) (hN : N ≤ a.heap.size) (hr : ∀ k, row = some k → N ≤ k ∨ X k) : Kp N X a b :=
  ⟨h.os, h.tape, h.output, h.size, fun i hi hx => h.block i (by omega) (fun he => by
    rcases hr i he.symm with h1 | h1
    · omega
    · exact hx h1)⟩
theorem Kp.set {N : Nat} {X : Nat → Prop} {a b : World} (h : Kp N X a b) {p : Addr} (hp : N ≤ p.block ∨ X p.block) (v : Value) : Kp N X a (b.setCell p v) := by
  refine ⟨h.os, h.tape, h.output, by simpa using h.size, fun i hi hx => ?_⟩
  rw [heap_setCell_other b p i v (fun he => by
    rcases hp with h1 | h1
    · omega
    · rw [← he] at h1; exact hx h1)]
  exact h.block i hi hx
theorem Kp.alloc {N : Nat} {X : Nat → Prop} {a b : World} (h : Kp N X a b) (hN : N ≤ a.heap.size) (o : Obj) : Kp N X a (b.alloc o) :=
  h.trans (Kp.below ((Below.refl b.heap.size b).alloc (Nat.le_refl _) o) (Nat.le_trans hN h.size))
theorem own_kp {N : Nat} {X : Nat → Prop} {a b : World} {base size n : Nat} {e : TypeId} {v : Value} {xs : List Value} (h : a.ownsRow base e size v n xs) (hk : Kp N X a b) (hv : ∀ g, v.ownBlock = some g → g < N ∧ ¬ X g) : b.ownsRow base e size v n xs := by
  refine ⟨h.1, ?_⟩
  rcases h.2 with hl | ⟨g, cap, cur, rfl, h1, hr, hrest⟩
  · exact Or.inl hl
  · obtain ⟨h2, h3⟩ := hv g rfl
    exact Or.inr ⟨g, cap, cur, rfl, h1, (hk.block g h2 h3).trans hr, hrest⟩
theorem Blk.kp {N : Nat} {X : Nat → Prop} {a b : World} {g : Nat} {t : TypeId} {cs : Array Value} (h : Blk a g t cs) (hk : Kp N X a b) (h1 : g < N) (h2 : ¬ X g) : Blk b g t cs := (hk.block g h1 h2).trans h
theorem Blk.set_other {w : World} {g g0 : Nat} {t : TypeId} {cs : Array Value} (h : Blk w g t cs) (hne : g0 ≠ g) (u : Value) : Blk (w.setCell ⟨g0, 0, none⟩ u) g t cs := (heap_setCell_other w ⟨g0, 0, none⟩ g u (fun he => hne he.symm)).trans h
theorem own_cutb {w : World} {base size n cap g : Nat} {e : TypeId} {xs : List Value} (h : w.ownsRow base e size (.slice (some ⟨g, 0, none⟩) n cap) n xs) (m : Nat) (hm : m ≤ n) : w.ownsRow base e size (.slice (some ⟨g, 0, none⟩) m cap) m (xs.take (m * size)) := by
  obtain ⟨hl, h2⟩ := h
  rcases h2 with ⟨h', _⟩ | ⟨g', cap', cur, h', hb, hg, hnc, hcm, hcs, htake⟩
  · simp at h'
  · simp only [Value.slice.injEq, Option.some.injEq, Addr.mk.injEq, and_true, true_and] at h'
    obtain ⟨rfl, rfl⟩ := h'
    have hle : m * size ≤ n * size := Nat.mul_le_mul_right _ hm
    refine ⟨by rw [List.length_take]; omega, Or.inr ⟨g, cap, cur, rfl, hb, hg, by omega, hcm, hcs, ?_⟩⟩
    rw [← htake, List.take_take, Nat.min_eq_left hle]
/-- the end of a row of the call's own made zeros -/
theorem run_clear_own {P : Program} (w : World) (t e ty : TypeId) (z : Value) (size bytes : Nat) (ht : P.underlying t = some (.slice e)) (hi : (P.info? e).map (fun i => (i.zero, i.size, i.bytes)) = some (some z, size, bytes)) (hzs : z.cells.size = size) (h1 : ∀ u ∈ z.cells.toList, u.oneCell' = true)
    {base g n cap : Nat} {xs : List Value} (h : w.ownsRow base e size (.slice (some ⟨g, 0, none⟩) n cap) n xs) (i c' : Nat) (hin : i ≤ n) :
    ∃ w', (Builtin.clear_ #[t] ty #[.slice (some ⟨g, i * size, none⟩) (n - i) c']).run P w = .ok (.tuple #[]) w' ∧ w'.ownsRow base e size (.slice (some ⟨g, 0, none⟩) i cap) i (xs.take (i * size)) ∧ w.grownBy w' (some g) := by
  by_cases h0 : n - i = 0
  · refine ⟨w, ?_, own_cutb h i hin, World.grownBy.refl _ _⟩
    rw [h0]
    simp [Builtin.clear_, run_underlying ht]
  · obtain ⟨m, hm⟩ : ∃ m, n - i = m + 1 := ⟨n - i - 1, by omega⟩
    obtain ⟨I, hI, hz, hs, hb⟩ := info_parts hi
    obtain ⟨hl, h2⟩ := h
    rcases h2 with ⟨h', _⟩ | ⟨g', cap', cur, h', hbs, hg, hnc, hcm, hcs, htake⟩
    · simp at h'
    · simp only [Value.slice.injEq, Option.some.injEq, Addr.mk.injEq, and_true, true_and] at h'
      obtain ⟨rfl, rfl⟩ := h'
      have hlen : (Builtin.zeroCells z.cells (n - i)).toList.length = (n - i) * size := by simp [Builtin.zeroCells, hzs]
      have hle : i * size + (n - i) * size ≤ cap * size := by rw [← Nat.add_mul]; exact Nat.mul_le_mul_right _ (by omega)
      have hz1 : ∀ v ∈ (Builtin.zeroCells z.cells (n - i)).toList, v.oneCell' = true := fun v hv => by
        rw [Array.mem_toList_iff] at hv
        unfold Builtin.zeroCells at hv
        rw [Array.mem_map] at hv
        obtain ⟨q, hq, rfl⟩ := hv
        have hq2 : q < (n - i) * z.cells.size := by simpa using hq
        have hpos : 0 < z.cells.size := by
          rcases Nat.eq_zero_or_pos z.cells.size with h0 | h0
          · rw [h0] at hq2; simp at hq2
          · exact h0
        have hlt := Nat.mod_lt q hpos
        rw [getElem!_pos z.cells (q % z.cells.size) hlt]
        exact h1 _ (by simp)
      have hst := run_storeCells_at (P := P) g (i * size) e (Builtin.zeroCells z.cells (n - i)).toList 0 cur w hg (by rw [hlen, hcs]; simpa using hle) hz1
      rw [hm] at hst hlen hle
      have hlen2 : (Builtin.zeroCells z.cells (m + 1)).size = (m + 1) * size := by simpa using hlen
      refine ⟨_, by
        rw [hm]
        simp [Builtin.clear_, run_underlying ht, zeroValue, typeInfo, hI, hz, hst]
        rfl, ⟨by rw [List.length_take, hl]; exact Nat.min_eq_left (Nat.mul_le_mul_right _ hin), Or.inr ⟨g, cap, _, rfl, hbs, setRow_heap w g cur _ e (0, 0) hg, by omega, hcm, ?_, ?_⟩⟩, ⟨rfl, rfl, rfl, by simp, fun k _ hne => setRow_other w g k _ (fun he => hne (by rw [he]))⟩⟩
      · have : cur.toList.length = cap * size := by simpa using hcs
        simp only [List.size_toArray, List.length_append, List.length_take, List.length_drop, Array.length_toList, hlen2, hcs]
        omega
      · have : cur.toList.length = cap * size := by simpa using hcs
        have hle2 : i * size ≤ n * size := Nat.mul_le_mul_right _ hin
        dsimp only
        rw [List.take_append_of_le_length (by rw [List.length_take, this]; omega), List.take_take, Nat.min_self, ← htake, List.take_take, Nat.min_eq_left hle2]
/-! ### The numbers that are kept -/
structure OutI (w : World) (g0 N : Nat) (xs : List Int) : Prop where
  lt : g0 < N
  v : ∃ v, Blk w g0 63 #[v] ∧ w.ownsRow N 3 1 v xs.length (xs.map (.int .i64))
theorem info_int : (Tryd.prog.info? 3).map (fun i => (i.zero, i.size, i.bytes)) = some (some (.int .i64 0), 1, 8) := by kernel_rfl
theorem over_c (id pr am ra tt tk ar : Int) (w : World) (r : Bool) (hr : Hid (r = overO ⟨id, pr, am, ra, tt, tk, ar⟩)) : Calls Tryd.prog 40 #[.agg #[.int .i64 id, .int .i64 pr, .int .i64 am, .int .i64 ra, .int .i64 tt, .int .i64 tk, .int .i64 ar]] w fun e w' => e = .returned (.bool r) ∧ Below w.heap.size w w' := by
  have hb0 := below1 w (.cells #[.int .i64 id, .int .i64 pr, .int .i64 am, .int .i64 ra, .int .i64 tt, .int .i64 tk, .int .i64 ar] 39)
  have hr' : r = (decide (0 < tt) && decide (tt ≤ tk)) := hr
  have y := Blk.mk w 39 #[.int .i64 id, .int .i64 pr, .int .i64 am, .int .i64 ra, .int .i64 tt, .int .i64 tk, .int .i64 ar]
  have h4 := y.cell 4
  have h5 := y.cell 5
  by_cases h1 : 0 < tt
  · have v : decide (tt > 0) = true := by simpa using h1
    have HR : Hid (decide (tt ≤ tk) = r) := by unfold Hid; rw [hr']; simp [h1]
    clear hr hr' h1
    go_enter Tryd.func40, Tryd.ntmps40
    go_wp2_with fail
    go_ret
    exact ⟨ret_bool HR.out, hb0⟩
  · have v : decide (tt > 0) = false := by simpa using h1
    have HR : Hid (r = false) := by unfold Hid; rw [hr']; simp [h1]
    clear hr hr' h1
    go_enter Tryd.func40, Tryd.ntmps40
    go_wp2_with fail
    go_ret
    exact ⟨ret_bool HR.out.symm, hb0⟩
--%%
theorem OutI.t {w w' : World} {g0 N : Nat} {xs : List Int} (h : OutI w g0 N xs) (hb : Below w.heap.size w w') : OutI w' g0 N xs := by
  obtain ⟨v, h1, h2⟩ := h.v
  exact ⟨h.lt, v, h1.t hb, own_below h2 hb⟩
theorem OutI.put {w : World} {g0 N : Nat} {v v' : Value} {xs : List Int} (h : Blk w g0 63 #[v]) (hlt : g0 < N) (ho : w.ownsRow N 3 1 v' xs.length (xs.map (.int .i64))) : OutI (w.setCell ⟨g0, 0, none⟩ v') g0 N xs :=
  ⟨hlt, v', h.set1 v', ho.kept (row := some g0) (grown_set (b0 _) g0 v') (Or.inr fun he => by have := (ho.lt g0 he).1; omega)⟩
theorem OutI.kp {w : World} {g0 N : Nat} {xs : List Int} (h : OutI w g0 N xs) (p : Addr) (hp : p.block < N) (hne : p.block ≠ g0) (u : Value) : OutI (w.setCell p u) g0 N xs := by
  obtain ⟨v, h1, h2⟩ := h.v
  have hg : w.grownBy (w.setCell p u) (some p.block) := ⟨rfl, rfl, rfl, by simp, fun k hk hne => heap_setCell_other w p k u (fun h => hne (by rw [h]))⟩
  refine ⟨h.lt, v, h1.grown hg (by simpa using Ne.symm hne), h2.kept hg (Or.inr fun he => ?_)⟩
  have := (h2.lt _ he).1
  omega
--%%
def GoneR (z : Od) (g0 N : Nat) (xs : List Int) (W : World) (e : Ending) (w' : World) : Prop := e = .returned (.bool (goneO z)) ∧ OutI w' g0 N (xs ++ if goneO z = true then [z.id] else []) ∧ Kp N (fun k => k = g0) W w' ∧ ∀ g cs, Blk W g 39 cs → Blk w' g 39 cs
set_option maxHeartbeats 1600000 in
theorem sgone_c (id pr am ra tt tk ar : Int) (g0 N : Nat) (xs : List Int) (W : World) (ho : OutI W g0 N xs) (hN : N ≤ W.heap.size) (hx : xs.length ≤ 1000) : Calls Tryd.prog 55 #[.agg #[.int .i64 id, .int .i64 pr, .int .i64 am, .int .i64 ra, .int .i64 tt, .int .i64 tk, .int .i64 ar], .pointer (some ⟨g0, 0, none⟩)] W (GoneR ⟨id, pr, am, ra, tt, tk, ar⟩ g0 N xs W) := by
  have hb0 := below1 W (.cells #[.int .i64 id, .int .i64 pr, .int .i64 am, .int .i64 ra, .int .i64 tt, .int .i64 tk, .int .i64 ar] 39)
  obtain ⟨r, hr⟩ : ∃ r, r = overO ⟨id, pr, am, ra, tt, tk, ar⟩ := ⟨_, rfl⟩
  have KO := Lib.hid (fun W => over_c id pr am ra tt tk ar W r hr)
  have y := Blk.mk W 39 #[.int .i64 id, .int .i64 pr, .int .i64 am, .int .i64 ra, .int .i64 tt, .int .i64 tk, .int .i64 ar]
  have HY := Lib.hid y
  obtain ⟨y0, y1, y2, y3, y4, y5, y6⟩ := y.a7
  have HO := Lib.hid ho
  have HG : Hid (goneO ⟨id, pr, am, ra, tt, tk, ar⟩ = (r && decide (ar = 0))) := by rw [hr]; rfl
  clear ho hr y
  by_cases h1 : r = true ∧ ar = 0
  case neg =>
    have HG2 : Hid (goneO ⟨id, pr, am, ra, tt, tk, ar⟩ = false) := by
      unfold Hid
      rw [HG.out]
      cases hr : r
      · rfl
      · have : ¬ ar = 0 := fun h => h1 ⟨hr, h⟩
        simp [this]
    cases hr : r
    · subst hr
      clear h1
      go_enter Tryd.func55, Tryd.ntmps55
      go_wp2_with fail
      refine (KO.out _).mono ?_
      rintro e w2 ⟨rfl, hb2⟩
      have hb3 := bT hb0 hb2
      go_wp2_with fail
      go_ret
      refine ⟨by rw [HG2.out]; rfl, ?_, Kp.below hb3 hN, fun g cs h => h.t hb3⟩
      rw [HG2.out]
      simpa using HO.out.t hb3
    · have h0 : ¬ ar = 0 := fun h => h1 ⟨hr, h⟩
      subst hr
      have v0 : (ar == 0) = false := by simpa using h0
      clear h1 h0
      go_enter Tryd.func55, Tryd.ntmps55
      go_wp2_with fail
      refine (KO.out _).mono ?_
      rintro e w2 ⟨rfl, hb2⟩
      have hb3 := bT hb0 hb2
      have z6 := (HY.out.t hb2).cell 6
      go_wp2_with fail
      go_ret
      refine ⟨by rw [HG2.out]; rfl, ?_, Kp.below hb3 hN, fun g cs h => h.t hb3⟩
      rw [HG2.out]
      simpa using HO.out.t hb3
  obtain ⟨rfl, rfl⟩ := h1
  go_enter Tryd.func55, Tryd.ntmps55
  go_wp2_with fail
  refine (KO.out _).mono ?_
  rintro e w2 ⟨rfl, hb2⟩
  have hb3 := bT hb0 hb2
  have z6 := (HY.out.t hb2).cell 6
  have z0 := (HY.out.t hb2).cell 0
  have o2 := HO.out.t hb3
  obtain ⟨v, o3, o4⟩ := o2.v
  have u0 := o3.cell 0
  have hlt := o3.lt
  have HV := Lib.hid o3
  have HW := Lib.hid o4
  have HB3 := Lib.hid hb3
  have hs3 := hb3.size
  clear o2 o3 o4
  go_wp2_with (at_builtin; refine wpList_app1 _ rfl _ _ 63 rfl 3 _ 1 8 Tryd.underlying63 info_int rfl (by decide) rfl HW.out _ rfl (by first | rfl | simp) rfl (by simp [Value.oneCell']) (by omega) (by omega) (by first | omega | (simp; omega)) ?_; intro v' w6 ho' hg; obtain ⟨A6, c6, rfl⟩ := own_slice ho'; have hB6 := HV.out.grown hg (own_low HW.out HO.out.lt); have q0 : w6.cell? ⟨g0, 0, none⟩ = some v := hB6.cell 0; have q1 : w6.frozen? ⟨g0, 0, none⟩ = false := hB6.free 0; have HG6 : Hid (w2.grownBy w6 v.ownBlock) := hg; have HO6 := Lib.hid ho'; have HB6 := Lib.hid hB6; clear hg ho' hB6)
  go_ret
  have hn : (xs ++ [id]).length = xs.length + 1 := by simp
  refine ⟨by rw [HG.out]; rfl, ?_, Kp.set (X := fun k => k = g0) (p := ⟨g0, 0, none⟩) ((Kp.below HB3.out hN).trans (Kp.grown HG6.out (Nat.le_trans hN hs3) (fun k hk => Or.inl ((HW.out.lt k hk).1)))) (Or.inr rfl) _, fun g cs h => Blk.set_other ((h.t HB3.out).grown HG6.out (own_blk HW.out (h.t HB3.out) (by decide))) (Blk.differ HB6.out ((h.t HB3.out).grown HG6.out (own_blk HW.out (h.t HB3.out) (by decide))) (by decide)) _⟩
  rw [HG.out]
  refine OutI.put HB6.out HO.out.lt ?_
  show w6.ownsRow N 3 1 (.slice A6 _ c6) (xs ++ [id]).length ((xs ++ [id]).map (.int .i64))
  rw [hn, List.map_append]
  exact HO6.out
--%%
end Go.Proofs.YtfhbnojhmeodiaaDoor
