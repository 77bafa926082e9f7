/-
 Contract of year.copied. Conditions as named.
-/
import Derived.Test.YtiaabmhjkoohmaaGreatM4
import Derived.Deep.RegionWith
namespace Go.Proofs.YtiaabmhjkoohmaaGreat
set_option maxRecDepth 100000
set_option maxHeartbeats 25600000
set_option linter.unusedVariables false
set_option linter.unusedSimpArgs false
open Go.RowKit Tryz
open Lib (hid)
def CopyR (z : Sp) (w : World) (e : Ending) (w' : World) : Prop := (∃ A c B d, e = .returned (.agg (spC z A z.rows.length c B z.tk.length d)) ∧ SpOwn w' w.heap.size ⟨z, A, c, B, d⟩) ∧ Below w.heap.size w w'
theorem ycopied_c (z : Sp) (A B : Option Addr) (n c m d : Nat) (w : World) (hr : Sh9 w A n z.rows) (ht : TkSl w B m z.tk) (hn : n ≤ 1000) (hm : m ≤ 1000) :
    Calls prog 44 #[.agg (spC z A n c B m d)] w (CopyR z w) := by
  have HF0 := hid (Fr.start w)
  have HN : Hid (n = z.rows.length) := hr.1
  have HM : Hid (m = z.tk.length) := ht.1
  have KA := hid (fun W (hW : Below w.heap.size w W) => (clone_ss A n c z.rows W ((sh_row hr).below hW) (by omega)).mono fun _ _ h => h.b hW)
  have KB := hid (fun W (hW : Below w.heap.size w W) => (clone_tk B m d z.tk W (ht.below hW) (by omega)).mono fun _ _ h => h.b hW)
  clear hr ht
  obtain ⟨p, ⟨bc, bt, bs⟩, tx, sh, rows, net, tk, py⟩ := z
  unfold spC CopyR
  dsimp only at HN HM KA KB ⊢
  have HF1 := al9 (((HF0.out.al 45 #[.int .i64 p, .int .i64 bc, .int .i64 bt, .int .i64 bs, .int .i64 tx, .int .i64 sh, .slice A n c, .int .i64 net, .slice B m d, .int .i64 py]).al 45 #[.int .i64 0, .int .i64 0, .int .i64 0, .int .i64 0, .int .i64 0, .int .i64 0, .slice none 0 0, .int .i64 0, .slice none 0 0, .int .i64 0]))
  clear HF0
  go_enter func44, ntmps44
  go_upto_region 1 with fail
  generalize hw0 : (w.alloc (.cells #[.int .i64 p, .int .i64 bc, .int .i64 bt, .int .i64 bs, .int .i64 tx, .int .i64 sh, .slice A n c, .int .i64 net, .slice B m d, .int .i64 py] 45)).alloc (.cells #[.int .i64 0, .int .i64 0, .int .i64 0, .int .i64 0, .int .i64 0, .int .i64 0, .slice none 0 0, .int .i64 0, .slice none 0 0, .int .i64 0] 45) = w0 at *
  clear hw0
  have hcur := (b0 w0).drew
  obtain ⟨⟨z0, z1, z2, z3, z4, z5, z6, z7, z8, z9⟩, f0, f1, f2, f3, f4, f5, f6, f7, f8, f9⟩ := ((HF1.out.ca hcur).b 0 rfl).a10f
  go_wp2_with fail
  go_region_with (first
    | (go_at_call 77; refine (KA.out _ (bT HF1.out.bl hcur)).mono ?_; rintro e wa ⟨⟨Aa, ca, rfl, hoa⟩, hba⟩; have HOA := hid hoa; have hcur := bT hcur hba; clear hoa; clear z0 z1 z2 z3 z4 z5 z6 z7 z8 z9 f0 f1 f2 f3 f4 f5 f6 f7 f8 f9; obtain ⟨⟨z0, z1, z2, z3, z4, z5, z6, z7, z8, z9⟩, f0, f1, f2, f3, f4, f5, f6, f7, f8, f9⟩ := ((HF1.out.ca hcur).b 0 rfl).a10f)
    | (go_at_call 78; refine (KB.out _ (bT HF1.out.bl hcur)).mono ?_; rintro e wb ⟨⟨Ab, cb, rfl, hob⟩, hbb⟩; have HOB := hid hob; have hcur := bT hcur hbb; clear hob; clear z0 z1 z2 z3 z4 z5 z6 z7 z8 z9 f0 f1 f2 f3 f4 f5 f6 f7 f8 f9; obtain ⟨⟨z0, z1, z2, z3, z4, z5, z6, z7, z8, z9⟩, f0, f1, f2, f3, f4, f5, f6, f7, f8, f9⟩ := ((HF1.out.ca hcur).b 0 rfl).a10f))
  clear KA KB
  all_goals
    have HFb := hid (HF1.out.ca hcur)
    replace HOA := hid (oB9 HOA.out hbb)
    clear z0 z1 z2 z3 z4 z5 z6 z7 z8 z9 f0 f1 f2 f3 f4 f5 f6 f7 f8 f9 hcur hba hbb
    replace HOA := hid (oS9 HOA.out (HFb.out.b 0 rfl) (by decide) 6 (.slice Aa n ca))
    replace HOB := hid (oS9 HOB.out (HFb.out.b 0 rfl) (by decide) 6 (.slice Aa n ca))
    have HF2 := hid (HFb.out.st 0 rfl 6 (.slice Aa n ca))
    clear HFb
    replace HOA := hid (oS9 HOA.out (HF2.out.b 0 rfl) (by decide) 8 (.slice Ab m cb))
    replace HOB := hid (oS9 HOB.out (HF2.out.b 0 rfl) (by decide) 8 (.slice Ab m cb))
    have HF3 := hid (HF2.out.st 0 rfl 8 (.slice Ab m cb))
    clear HF2
    obtain ⟨c0_0, c0_1, c0_2, c0_3, c0_4, c0_5, c0_6, c0_7, c0_8, c0_9⟩ := (HF3.out.b 0 rfl).q10
    obtain ⟨c1_0, c1_1, c1_2, c1_3, c1_4, c1_5, c1_6, c1_7, c1_8, c1_9⟩ := (HF3.out.b 1 rfl).q10
    obtain ⟨f1_0, f1_1, f1_2, f1_3, f1_4, f1_5, f1_6, f1_7, f1_8, f1_9⟩ := (HF3.out.b 1 rfl).r10
    go_wp2_with fail
    have hg := HF3.out.ge 1 rfl
    refine bodyPost_ret (v := .agg #[.int .i64 p, .int .i64 bc, .int .i64 bt, .int .i64 bs, .int .i64 tx, .int .i64 sh, .slice Aa n ca, .int .i64 net, .slice Ab m cb, .int .i64 py]) (by simp [results, results44, go_sem, c1_0, c1_1, c1_2, c1_3, c1_4, c1_5, c1_6, c1_7, c1_8, c1_9]) rfl ⟨⟨Aa, ca, Ab, cb, ?_, ?_, ?_⟩, ?_⟩
    · rw [← HN.out, ← HM.out]
      rfl
    · show World.ownsRow _ _ _ _ (.slice Aa rows.length ca) rows.length _
      rw [← HN.out]
      exact own_st10 HOA.out (HF3.out.b 1 rfl) (by decide) (.int .i64 p) (.int .i64 bc) (.int .i64 bt) (.int .i64 bs) (.int .i64 tx) (.int .i64 sh) (.slice Aa n ca) (.int .i64 net) (.slice Ab m cb) (.int .i64 py)
    · show World.ownsRow _ _ _ _ (.slice Ab tk.length cb) tk.length _
      rw [← HM.out]
      exact own_st10 HOB.out (HF3.out.b 1 rfl) (by decide) (.int .i64 p) (.int .i64 bc) (.int .i64 bt) (.int .i64 bs) (.int .i64 tx) (.int .i64 sh) (.slice Aa n ca) (.int .i64 net) (.slice Ab m cb) (.int .i64 py)
    · exact st10 HF3.out.bl hg (.int .i64 p) (.int .i64 bc) (.int .i64 bt) (.int .i64 bs) (.int .i64 tx) (.int .i64 sh) (.slice Aa n ca) (.int .i64 net) (.slice Ab m cb) (.int .i64 py)
end Go.Proofs.YtiaabmhjkoohmaaGreat
