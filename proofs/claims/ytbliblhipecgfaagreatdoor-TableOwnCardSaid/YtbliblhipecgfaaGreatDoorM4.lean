/-
  Contract of table.Put: the seven walks joined. Conditions as named.
-/
import Derived.Test.YtbliblhipecgfaaGreatDoorPut
namespace Go.Proofs.YtbliblhipecgfaaGreatDoor
set_option linter.unusedVariables false
open Go.RowKit
theorem tput_c (t : Tb) (As Ac Ak : Option Addr) (ns cs nc cc nk ck : Nat) (A : Option Addr) (n c : Nat) (L : List ByteArray) (w : World) (hS : ScSl w As ns t.sch) (hC : CtSl w Ac nc t.cts) (hK : KdSl w Ak nk t.kds) (hn : ns ≤ 100000 ∧ nc ≤ 100000 ∧ nk ≤ 100000) (hb : (∀ k, k < ns → (t.sch.getD k []).length ≤ 100000) ∧ (∀ k, k < nc → (t.cts.getD k ct0).bands.length ≤ 100000)) (hl : StSl w A n L) (hc : n ≤ c) (hs : ∀ k, k < n → (L.getD k st0).size ≤ 1000000) (hn2 : n ≤ 1000) (hm : ML w) (ht : TabS w) :
    Calls Tryz.prog 23 #[tbV As Ac Ak ns cs nc cc nk ck t.lim t.rnd, .slice A n c] w (PutR t As Ac Ak ns cs nc cc nk ck n L w) := by
  obtain ⟨sch, cts, kds, lim, rnd⟩ := t
  by_cases h2 : n < 2
  · exact tput_few sch cts kds As Ac Ak ns cs nc cc nk ck lim rnd A n c L w hS hC hK hn hb hl hc hs hn2 hm ht h2
  have h2 : 2 ≤ n := by omega
  by_cases e1 : L.getD 0 st0 = ⟨#[108, 105, 109, 105, 116]⟩
  · exact tput_limit sch cts kds As Ac Ak ns cs nc cc nk ck lim rnd A n c L w hS hC hK hn hb hl hc hs hn2 hm ht h2 e1
  by_cases e2 : L.getD 0 st0 = ⟨#[114, 111, 117, 110, 100]⟩
  · exact tput_round sch cts kds As Ac Ak ns cs nc cc nk ck lim rnd A n c L w hS hC hK hn hb hl hc hs hn2 hm ht h2 e1 e2
  by_cases e3 : L.getD 0 st0 = ⟨#[115, 99, 104, 101, 109, 101]⟩
  · exact tput_scheme sch cts kds As Ac Ak ns cs nc cc nk ck lim rnd A n c L w hS hC hK hn hb hl hc hs hn2 hm ht h2 e1 e2 e3
  by_cases e4 : L.getD 0 st0 = ⟨#[99, 111, 110, 116, 114, 105, 98]⟩
  · exact tput_contrib sch cts kds As Ac Ak ns cs nc cc nk ck lim rnd A n c L w hS hC hK hn hb hl hc hs hn2 hm ht h2 e1 e2 e3 e4
  by_cases e5 : L.getD 0 st0 = ⟨#[107, 105, 110, 100]⟩
  · exact tput_kind sch cts kds As Ac Ak ns cs nc cc nk ck lim rnd A n c L w hS hC hK hn hb hl hc hs hn2 hm ht h2 e1 e2 e3 e4 e5
  · exact tput_other sch cts kds As Ac Ak ns cs nc cc nk ck lim rnd A n c L w hS hC hK hn hb hl hc hs hn2 hm ht h2 e1 e2 e3 e4 e5
--%%
end Go.Proofs.YtbliblhipecgfaaGreatDoor
