/-
  The arguments of layer 6's laws, opened: slices of shares, of bands. No conditions.
-/
import Derived.Test.YtppkgfkhnnibcaaOpen
import Derived.Test.YtppkgfkhnnibcaaPair3
namespace Go.Proofs.Ytppkgfkhnnibcaa
set_option linter.unusedVariables false
open Go.ChangeShapes Go.WideShapes Go.Deep Go.RowKit
section
variable {H : Type} {enc : TypeId × Value → H} {w : World}
theorem getD_map_range {α : Type} (f : Nat → α) (n k : Nat) (hk : k < n) (d : α) : ((List.range n).map f).getD k d = f k := by
  simp [List.getD, hk]
--%%
theorem open_shares {r : Reach} {b0 : Nat} {v : Value} {d : DataW H} {p : List MemPlace} (hv : Value.okWide Try.prog w r b0 34 v) (h : DataW.Trod enc Try.prog w 0 (fun _ => true) true 34 v d p) :
    ∃ A n c l, v = .slice A n c ∧ ShareSl w A n l := by
  obtain ⟨A, n, c, rfl, hn, b, off, g, hA, hg⟩ := open_int_rows' (by decide) Try.underlying34 Try.underlying36 (fun j hj => by
    rcases (show j = 0 ∨ j = 1 from by simp at hj; omega) with rfl | rfl
    · exact ⟨_, rfl, rfl, by kernel_rfl, Try.underlying2⟩
    · exact ⟨_, rfl, rfl, by kernel_rfl, Try.underlying2⟩) (by kernel_rfl) hv h
  refine ⟨A, n, c, (List.range n).map fun i => ⟨g i 0, g i 1⟩, rfl, by simp, hn, fun h0 => ⟨b, off, (hA h0).1, (hA h0).2, fun k hk => ?_⟩⟩
  have hk' : k < n := by simpa using hk
  rw [getD_map_range _ _ _ hk']
  exact ⟨(hg k 0 hk' (by decide)).1, (hg k 1 hk' (by decide)).1⟩
--%%
theorem open_bands {r : Reach} {b0 : Nat} {v : Value} {d : DataW H} {p : List MemPlace} (hv : Value.okWide Try.prog w r b0 48 v) (h : DataW.Trod enc Try.prog w 0 (fun _ => true) true 48 v d p) :
    ∃ A n c l, v = .slice A n c ∧ BandSl w A n l := by
  obtain ⟨A, n, c, rfl, hn, b, off, g, hA, hg⟩ := open_int_rows' (by decide) Try.underlying48 Try.underlying60 (fun j hj => by
    rcases (show j = 0 ∨ j = 1 ∨ j = 2 from by simp at hj; omega) with rfl | rfl | rfl
    · exact ⟨_, rfl, rfl, by kernel_rfl, Try.underlying2⟩
    · exact ⟨_, rfl, rfl, by kernel_rfl, Try.underlying3⟩
    · exact ⟨_, rfl, rfl, by kernel_rfl, Try.underlying3⟩) (by kernel_rfl) hv h
  refine ⟨A, n, c, (List.range n).map fun i => ⟨g i 0, g i 1, g i 2⟩, rfl, by simp, hn, fun h0 => ⟨b, off, (hA h0).1, (hA h0).2, fun k hk => ?_⟩⟩
  have hk' : k < n := by simpa using hk
  rw [getD_map_range _ _ _ hk']
  exact ⟨(hg k 0 hk' (by decide)).1, (hg k 1 hk' (by decide)).1, (hg k 2 hk' (by decide)).1⟩
--%%
end
end Go.Proofs.Ytppkgfkhnnibcaa
