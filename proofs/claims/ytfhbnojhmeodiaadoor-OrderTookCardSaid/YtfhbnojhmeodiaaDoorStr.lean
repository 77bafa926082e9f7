/-
  Slices of strings: read, made, and as arguments. No conditions beyond those named.
-/
import Derived.Test.YtfhbnojhmeodiaaDoorOpen2
import Derived.Test.YtfhbnojhmeodiaaDoorVoc3
import Derived.Test.YtfhbnojhmeodiaaDoorChecked
namespace Go.Proofs.YtfhbnojhmeodiaaDoor
set_option linter.unusedVariables false
open Go.RowKit
def st0 : ByteArray := ⟨#[]⟩
def stC (s : ByteArray) : List Value := [.string s]
theorem stC_len (s : ByteArray) : (stC s).length = 1 := rfl
abbrev StSl := RowSl stC 1 st0
def OwnSt (w : World) (base : Nat) (v : Value) (n : Nat) (l : List ByteArray) : Prop := n = l.length ∧ w.ownsRow base 9 1 v n (l.flatMap stC)
theorem info_str : (Tryd.prog.info? 9).map (fun i => (i.zero, i.size, i.bytes)) = some (some (.string ⟨#[]⟩), 1, 16) := by kernel_rfl
theorem OwnSt.sl {w : World} {base : Nat} {v : Value} {n : Nat} {l : List ByteArray} (h : OwnSt w base v n l) : ∃ A c, v = .slice A n c ∧ StSl w A n l := by
  obtain ⟨A, c, rfl, _, hs⟩ := own_sl stC 1 st0 stC_len h.2 h.1 (by decide)
  exact ⟨A, c, rfl, hs⟩
theorem OwnSt.below {w w' : World} {base : Nat} {v : Value} {n : Nat} {l : List ByteArray} (h : OwnSt w base v n l) (hb : Below w.heap.size w w') : OwnSt w' base v n l := ⟨h.1, own_below h.2 hb⟩
section
open Go.ChangeShapes Go.WideShapes Go.Deep
variable {H : Type} {enc : TypeId × Value → H} {w : World}
set_option maxRecDepth 100000
def StAt (w : World) (b off : Nat) (s : ByteArray) : Prop := RowAt stC w b off s ∧ s.size ≤ 9223372036854775807
theorem open_sts {r : Reach} {b0 : Nat} {v : Value} {d : DataW H} {p : List MemPlace} (hv : Value.okWide Tryd.prog w r b0 59 v) (h : DataW.Trod enc Tryd.prog w 0 (fun _ => true) true 59 v d p) :
    ∃ A n c l, v = .slice A n c ∧ StSl w A n l ∧ ∀ k, k < n → (l.getD k st0).size ≤ 9223372036854775807 := by
  obtain ⟨m, hm⟩ := trod_slice_arg Tryd.underlying59 hv h
  obtain ⟨A, n, c, l, rfl, _, _, h1, h2, h3⟩ := open_sl StAt 1 st0 (by decide) Tryd.underlying59 (by kernel_rfl) (fun b off cs m x hb hl hc hx => by
    match cs, hl with
    | [a0], _ =>
      obtain ⟨s, rfl, hs⟩ := cell_string Tryd.underlying9 hx
      exact ⟨s, hc, hs⟩) hm
  refine ⟨A, n, c, l, rfl, ⟨h1, h2, fun hn => ?_⟩, fun k hk => ?_⟩
  · obtain ⟨b, off, hA, hlt, hat⟩ := h3 hn
    exact ⟨b, off, hA, hlt, fun k hk => (hat k hk).1⟩
  · obtain ⟨b, off, hA, hlt, hat⟩ := h3 (by omega)
    exact (hat k hk).2
theorem open_str {r : Reach} {b0 : Nat} {v : Value} {d : DataW H} {p : List MemPlace} (hv : Value.okWide Tryd.prog w r b0 9 v) (h : DataW.Trod enc Tryd.prog w 0 (fun _ => true) true 9 v d p) :
    ∃ s, v = .string s ∧ s.size ≤ 9223372036854775807 := by
  obtain ⟨s, rfl, _, _, hs⟩ := Go.ChangeMaps.open_string Tryd.underlying9 hv h
  exact ⟨s, rfl, by unfold maxLen at hs; exact hs⟩
end
end Go.Proofs.YtfhbnojhmeodiaaDoor
