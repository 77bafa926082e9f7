/-
 Contract of an employee's Clone. Conditions as named.
-/
import Derived.Test.YtiaabmhjkoohmaaGreatM7
namespace Go.Proofs.YtiaabmhjkoohmaaGreat
set_option maxRecDepth 100000
set_option maxHeartbeats 25600000
set_option linter.unusedVariables false
set_option linter.unusedSimpArgs false
open Go.RowKit Tryz
open Lib (hid)
def EmpCR (E : Em) (fq days : Int) (w : World) (e : Ending) (w' : World) : Prop := (∃ q y o, e = .returned (.pointer (some ⟨q, 0, none⟩)) ∧ Ea9 w' w.heap.size w.heap.size fq days q y o E) ∧ Below w.heap.size w w'
--%
theorem rclone_c (fq days : Int) (lo li p y o : Nat) (E : Em) (w : World) (h : Ea9 w lo li fq days p y o E) (hk : EmOK fq days E) (hs : ∀ k, k < E.tb.sch.length → (E.tb.sch.getD k []).length ≤ 100000) (hc : ∀ k, k < E.tb.cts.length → (E.tb.cts.getD k ct0).bands.length ≤ 100000) :
  Calls prog 56 #[.pointer (some ⟨p, 0, none⟩)] w (EmpCR E fq days w) := by
 have HF0 := hid (Fr.start w)
 obtain ⟨K, ns, nc, nk, nn, ni, hns, hnc, hnk, hnn, hni, hB, hR⟩ := h.letters
 have HB := hid hB
 have HRW := hid hR
 have HNS := hid hns
 have HNC := hid hnc
 have HNK := hid hnk
 have HNN := hid hnn
 have HNI := hid hni
 have HLT : Hid (p < w.heap.size) := hB.lt
 have h20 := hk.ts
 have h21 := hk.tc
 have h22 := hk.tk
 have KT := hid (fun W (hW : Below w.heap.size w W) => tclone_c E.tb.sch E.tb.cts E.tb.kds K.As K.Ac K.Ak ns K.cs nc K.cc nk K.ck E.tb.lim E.tb.rnd W (by rw [hns]; exact hR.tb.view.s.below hW) (by rw [hnc]; exact hR.tb.view.c.below hW) (by rw [hnk]; exact hR.tb.view.k.below hW) (by omega) ⟨fun k hk => hs k (by omega), fun k hk => hc k (by omega)⟩)
 have hnx := hk.nx
 have KE := hid (fun W (hW : Below w.heap.size w W) => clone_el K.An nn K.cn E.next W (by rw [hnn]; exact (el_row hR.nx rfl).below hW) (by rw [hnn]; omega))
 have KI := hid (fun W (hW : Below w.heap.size w W) => rcopied_c K.Ai ni K.ci E.ins W (by rw [hni]; exact hR.ins.view.below hW) (by have := hk.ins53; omega) hk.il)
 obtain ⟨Ay, cy, By, dy, hyr⟩ := hR.yr
 have KY := hid (fun W (hW : Below w.heap.size w W) => yclone_c y lo E.yr Ay cy By dy W (hyr.below hW) (by have := hk.yr; omega) (by have := hk.sl; have := hk.ins53; omega) (fun z hz => by have := hk.each z hz; omega))
 have KB := hid (fun W (hW : Below w.heap.size w W) => bclone_c o E.bk W (hR.bk.t hW) (by have := hk.bk.len; omega))
 have HGY : Hid (∀ W, Below w.heap.size w W → YrAt W K.gy fq days) := fun W hW => hR.gy.t hW
 unfold CloneR at KT
 unfold CloneV at KE
 unfold InsR at KI
 rw [← hni] at KI
 unfold YCloneR at KY
 unfold BkCloneR at KB
 unfold EmpCR
 clear hns hnc hnk hnn hni hB hR
 clear h hk hs hc h20 h21 h22 hnx hyr
 go_enter func56, ntmps56
 have qz := HB.out
 have d0 := qz.cv 0 (.slice K.As ns K.cs) rfl
 have d1 := qz.cv 1 (.slice K.Ac nc K.cc) rfl
 have d2 := qz.cv 2 (.slice K.Ak nk K.ck) rfl
 have d3 := qz.cv 3 (.int .i64 E.tb.lim) rfl
 have d4 := qz.cv 4 (.int .i64 E.tb.rnd) rfl
 have d5 := qz.cv 5 (.pointer (some ⟨K.gy, 0, none⟩)) rfl
 have d6 := qz.cv 6 (.int .i64 E.c.s) rfl
 have d7 := qz.cv 7 (.int .i64 E.c.k) rfl
 have d8 := qz.cv 8 (.int .i64 E.c.a) rfl
 have d9 := qz.cv 9 (.int .i64 E.c.f) rfl
 have d10 := qz.cv 10 (.bool E.c.al) rfl
 have d11 := qz.cv 11 (.int .i64 E.prot) rfl
 have d12 := qz.cv 12 (.slice K.An nn K.cn) rfl
 have d13 := qz.cv 13 (.slice K.Ai ni K.ci) rfl
 have d14 := qz.cv 14 (.pointer (some ⟨y, 0, none⟩)) rfl
 have d15 := qz.cv 15 (.pointer (some ⟨o, 0, none⟩)) rfl
 clear qz
 go_upto_region 2 with fail
 clear d0 d1 d2 d3 d4 d5 d6 d7 d8 d9 d10 d11 d12 d13 d14 d15
 have HF1 := al9 ((HF0.out.al 109 #[.slice K.As ns K.cs, .slice K.Ac nc K.cc, .slice K.Ak nk K.ck, .int .i64 E.tb.lim, .int .i64 E.tb.rnd, .pointer (some ⟨K.gy, 0, none⟩), .int .i64 E.c.s, .int .i64 E.c.k, .int .i64 E.c.a, .int .i64 E.c.f, .bool E.c.al, .int .i64 E.prot, .slice K.An nn K.cn, .slice K.Ai ni K.ci, .pointer (some ⟨y, 0, none⟩), .pointer (some ⟨o, 0, none⟩)]))
 clear HF0
 go_wp2_with fail
 have GG : Hid (∀ W l, Fr w W l → Below w.heap.size w W ∧ (W.cell? ⟨p, 0, none⟩ = some (.slice K.As ns K.cs) ∧ W.cell? ⟨p, 1, none⟩ = some (.slice K.Ac nc K.cc) ∧ W.cell? ⟨p, 2, none⟩ = some (.slice K.Ak nk K.ck) ∧ W.cell? ⟨p, 3, none⟩ = some (.int .i64 E.tb.lim) ∧ W.cell? ⟨p, 4, none⟩ = some (.int .i64 E.tb.rnd) ∧ W.cell? ⟨p, 12, none⟩ = some (.slice K.An nn K.cn) ∧ W.cell? ⟨p, 13, none⟩ = some (.slice K.Ai ni K.ci))) := fun W l hW => ⟨hW.bl, (HB.out.t hW.bl).cv 0 _ rfl, (HB.out.t hW.bl).cv 1 _ rfl, (HB.out.t hW.bl).cv 2 _ rfl, (HB.out.t hW.bl).cv 3 _ rfl, (HB.out.t hW.bl).cv 4 _ rfl, (HB.out.t hW.bl).cv 12 _ rfl, (HB.out.t hW.bl).cv 13 _ rfl⟩
 replace GG := hid (fun W {l} h => GG.out W l h)
 generalize hwn : w.alloc (.cells #[.slice K.As ns K.cs, .slice K.Ac nc K.cc, .slice K.Ak nk K.ck, .int .i64 E.tb.lim, .int .i64 E.tb.rnd, .pointer (some ⟨K.gy, 0, none⟩), .int .i64 E.c.s, .int .i64 E.c.k, .int .i64 E.c.a, .int .i64 E.c.f, .bool E.c.al, .int .i64 E.prot, .slice K.An nn K.cn, .slice K.Ai ni K.ci, .pointer (some ⟨y, 0, none⟩), .pointer (some ⟨o, 0, none⟩)] 109) = v1 at *
 try clear hwn
 have G : Hid (∀ W, Fr w W [(w.heap.size, 109, #[.slice K.As ns K.cs, .slice K.Ac nc K.cc, .slice K.Ak nk K.ck, .int .i64 E.tb.lim, .int .i64 E.tb.rnd, .pointer (some ⟨K.gy, 0, none⟩), .int .i64 E.c.s, .int .i64 E.c.k, .int .i64 E.c.a, .int .i64 E.c.f, .bool E.c.al, .int .i64 E.prot, .slice K.An nn K.cn, .slice K.Ai ni K.ci, .pointer (some ⟨y, 0, none⟩), .pointer (some ⟨o, 0, none⟩)])] → Below w.heap.size w W ∧ (W.cell? ⟨p, 0, none⟩ = some (.slice K.As ns K.cs) ∧ W.cell? ⟨p, 1, none⟩ = some (.slice K.Ac nc K.cc) ∧ W.cell? ⟨p, 2, none⟩ = some (.slice K.Ak nk K.ck) ∧ W.cell? ⟨p, 3, none⟩ = some (.int .i64 E.tb.lim) ∧ W.cell? ⟨p, 4, none⟩ = some (.int .i64 E.tb.rnd) ∧ W.cell? ⟨p, 12, none⟩ = some (.slice K.An nn K.cn) ∧ W.cell? ⟨p, 13, none⟩ = some (.slice K.Ai ni K.ci))) := fun W hW => ⟨hW.bl, (HB.out.t hW.bl).cv 0 _ rfl, (HB.out.t hW.bl).cv 1 _ rfl, (HB.out.t hW.bl).cv 2 _ rfl, (HB.out.t hW.bl).cv 3 _ rfl, (HB.out.t hW.bl).cv 4 _ rfl, (HB.out.t hW.bl).cv 12 _ rfl, (HB.out.t hW.bl).cv 13 _ rfl⟩
 have HF2 := hid (HF1.out.dr)
 refine wG9 G 21 (by kernel_rfl) HF2.out (fun hH9 => ?_)
 refine tkG 0 (h := ?_)
 refine tkG 1 (h := ?_)
 refine tkG 2 (h := ?_)
 refine tkG 3 (h := ?_)
 refine tkG 5 (h := ?_)
 refine tkG 6 (h := ?_)
 refine tkG 7 (h := ?_)
 refine tkG 8 (h := ?_)
 refine tkG 10 (h := ?_)
 refine tkG 11 (h := ?_)
 refine tkG 12 (h := ?_)
 refine tkG 13 (h := ?_)
 refine tkO 4 (h := fun Kx hK => ?_)
 go_simp
 go_at_call 67
 refine (KT.out _ HF2.out.bl).mono ?_
 rintro e W2 ⟨⟨A5, c5, A6, c6, A7, c7, rfl, hot⟩, hb⟩
 have HF3 := hid (HF2.out.ca hb)
 have HTB := hid (hot.lower HF2.out.bl.size)
 clear hot
 clear hb
 refine shG hK (G.out _ HF3.out) (h := fun hH9 => ?_)
 clear hK Kx
 refine tkO 9 (h := fun Kx hK => ?_)
 go_simp
 go_at_call 47
 refine (KE.out _ HF3.out.bl).mono ?_
 rintro e W3 ⟨⟨A8, c8, rfl, hoe⟩, hb⟩
 replace HTB := hid (HTB.out.below hb)
 have HF4 := hid (HF3.out.ca hb)
 have HNX := hid (oM9 hoe HF3.out.bl.size)
 clear hoe
 clear hb
 refine shG hK (G.out _ HF4.out) (h := fun hH9 => ?_)
 clear hK Kx
 refine tkO 14 (h := fun Kx hK => ?_)
 go_simp
 go_at_call 50
 refine (KI.out _ HF4.out.bl).mono ?_
 rintro e W4 ⟨⟨A9, c9, rfl, hoi⟩, hb⟩
 replace HNX := hid (oB9 HNX.out hb)
 replace HTB := hid (HTB.out.below hb)
 have HF5 := hid (HF4.out.ca hb)
 have HIN := hid (hoi.more HF4.out.bl.size HF4.out.bl.size)
 clear hoi
 clear hb
 refine shG hK (G.out _ HF5.out) (h := fun hH9 => ?_)
 clear hK Kx
 refine tkG 15 (h := ?_)
 refine tkO 16 (h := fun Kx hK => ?_)
 have qz := HF5.out.b 0 rfl
 have sk0 := qz.cv 0 (.slice K.As ns K.cs) rfl
 have sf0 := qz.free 0
 have sk1 := qz.cv 1 (.slice K.Ac nc K.cc) rfl
 have sf1 := qz.free 1
 have sk2 := qz.cv 2 (.slice K.Ak nk K.ck) rfl
 have sf2 := qz.free 2
 have sk3 := qz.cv 3 (.int .i64 E.tb.lim) rfl
 have sf3 := qz.free 3
 have sk4 := qz.cv 4 (.int .i64 E.tb.rnd) rfl
 have sf4 := qz.free 4
 clear qz
 go_simp
 clear sk0 sf0 sk1 sf1 sk2 sf2 sk3 sf3 sk4 sf4
 replace HTB := hid (HTB.out.fx (Ty.one (HF5.out.b 0 rfl) (by decide)) (Kp.grown (X := fun g => g = w.heap.size) (gJ9 _ w.heap.size 0 (.slice A5 ns c5)) (Nat.le_refl _) (fun k hk => by injection hk with hk; exact Or.inr hk.symm)))
 replace HNX := hid (oS9 HNX.out (HF5.out.b 0 rfl) (by decide) 0 (.slice A5 ns c5))
 replace HIN := hid (HIN.out.fx (Ty.one (HF5.out.b 0 rfl) (by decide)) (Kp.grown (X := fun g => g = w.heap.size) (gJ9 _ w.heap.size 0 (.slice A5 ns c5)) (Nat.le_refl _) (fun k hk => by injection hk with hk; exact Or.inr hk.symm)))
 have HF6 : Hid (Fr w _ [(w.heap.size, 109, #[.slice A5 ns c5, .slice K.Ac nc K.cc, .slice K.Ak nk K.ck, .int .i64 E.tb.lim, .int .i64 E.tb.rnd, .pointer (some ⟨K.gy, 0, none⟩), .int .i64 E.c.s, .int .i64 E.c.k, .int .i64 E.c.a, .int .i64 E.c.f, .bool E.c.al, .int .i64 E.prot, .slice K.An nn K.cn, .slice K.Ai ni K.ci, .pointer (some ⟨y, 0, none⟩), .pointer (some ⟨o, 0, none⟩)])]) := hid (HF5.out.st 0 rfl 0 (.slice A5 ns c5))
 clear HF5
 replace HTB := hid (HTB.out.fx (Ty.one (HF6.out.b 0 rfl) (by decide)) (Kp.grown (X := fun g => g = w.heap.size) (gJ9 _ w.heap.size 1 (.slice A6 nc c6)) (Nat.le_refl _) (fun k hk => by injection hk with hk; exact Or.inr hk.symm)))
 replace HNX := hid (oS9 HNX.out (HF6.out.b 0 rfl) (by decide) 1 (.slice A6 nc c6))
 replace HIN := hid (HIN.out.fx (Ty.one (HF6.out.b 0 rfl) (by decide)) (Kp.grown (X := fun g => g = w.heap.size) (gJ9 _ w.heap.size 1 (.slice A6 nc c6)) (Nat.le_refl _) (fun k hk => by injection hk with hk; exact Or.inr hk.symm)))
 have HF7 : Hid (Fr w _ [(w.heap.size, 109, #[.slice A5 ns c5, .slice A6 nc c6, .slice K.Ak nk K.ck, .int .i64 E.tb.lim, .int .i64 E.tb.rnd, .pointer (some ⟨K.gy, 0, none⟩), .int .i64 E.c.s, .int .i64 E.c.k, .int .i64 E.c.a, .int .i64 E.c.f, .bool E.c.al, .int .i64 E.prot, .slice K.An nn K.cn, .slice K.Ai ni K.ci, .pointer (some ⟨y, 0, none⟩), .pointer (some ⟨o, 0, none⟩)])]) := hid (HF6.out.st 0 rfl 1 (.slice A6 nc c6))
 clear HF6
 replace HTB := hid (HTB.out.fx (Ty.one (HF7.out.b 0 rfl) (by decide)) (Kp.grown (X := fun g => g = w.heap.size) (gJ9 _ w.heap.size 2 (.slice A7 nk c7)) (Nat.le_refl _) (fun k hk => by injection hk with hk; exact Or.inr hk.symm)))
 replace HNX := hid (oS9 HNX.out (HF7.out.b 0 rfl) (by decide) 2 (.slice A7 nk c7))
 replace HIN := hid (HIN.out.fx (Ty.one (HF7.out.b 0 rfl) (by decide)) (Kp.grown (X := fun g => g = w.heap.size) (gJ9 _ w.heap.size 2 (.slice A7 nk c7)) (Nat.le_refl _) (fun k hk => by injection hk with hk; exact Or.inr hk.symm)))
 have HF8 : Hid (Fr w _ [(w.heap.size, 109, #[.slice A5 ns c5, .slice A6 nc c6, .slice A7 nk c7, .int .i64 E.tb.lim, .int .i64 E.tb.rnd, .pointer (some ⟨K.gy, 0, none⟩), .int .i64 E.c.s, .int .i64 E.c.k, .int .i64 E.c.a, .int .i64 E.c.f, .bool E.c.al, .int .i64 E.prot, .slice K.An nn K.cn, .slice K.Ai ni K.ci, .pointer (some ⟨y, 0, none⟩), .pointer (some ⟨o, 0, none⟩)])]) := hid (HF7.out.st 0 rfl 2 (.slice A7 nk c7))
 clear HF7
 replace HTB := hid (HTB.out.fx (Ty.one (HF8.out.b 0 rfl) (by decide)) (Kp.grown (X := fun g => g = w.heap.size) (gJ9 _ w.heap.size 3 (.int .i64 E.tb.lim)) (Nat.le_refl _) (fun k hk => by injection hk with hk; exact Or.inr hk.symm)))
 replace HNX := hid (oS9 HNX.out (HF8.out.b 0 rfl) (by decide) 3 (.int .i64 E.tb.lim))
 replace HIN := hid (HIN.out.fx (Ty.one (HF8.out.b 0 rfl) (by decide)) (Kp.grown (X := fun g => g = w.heap.size) (gJ9 _ w.heap.size 3 (.int .i64 E.tb.lim)) (Nat.le_refl _) (fun k hk => by injection hk with hk; exact Or.inr hk.symm)))
 have HF9 : Hid (Fr w _ [(w.heap.size, 109, #[.slice A5 ns c5, .slice A6 nc c6, .slice A7 nk c7, .int .i64 E.tb.lim, .int .i64 E.tb.rnd, .pointer (some ⟨K.gy, 0, none⟩), .int .i64 E.c.s, .int .i64 E.c.k, .int .i64 E.c.a, .int .i64 E.c.f, .bool E.c.al, .int .i64 E.prot, .slice K.An nn K.cn, .slice K.Ai ni K.ci, .pointer (some ⟨y, 0, none⟩), .pointer (some ⟨o, 0, none⟩)])]) := hid (HF8.out.st 0 rfl 3 (.int .i64 E.tb.lim))
 clear HF8
 replace HTB := hid (HTB.out.fx (Ty.one (HF9.out.b 0 rfl) (by decide)) (Kp.grown (X := fun g => g = w.heap.size) (gJ9 _ w.heap.size 4 (.int .i64 E.tb.rnd)) (Nat.le_refl _) (fun k hk => by injection hk with hk; exact Or.inr hk.symm)))
 replace HNX := hid (oS9 HNX.out (HF9.out.b 0 rfl) (by decide) 4 (.int .i64 E.tb.rnd))
 replace HIN := hid (HIN.out.fx (Ty.one (HF9.out.b 0 rfl) (by decide)) (Kp.grown (X := fun g => g = w.heap.size) (gJ9 _ w.heap.size 4 (.int .i64 E.tb.rnd)) (Nat.le_refl _) (fun k hk => by injection hk with hk; exact Or.inr hk.symm)))
 have HF10 : Hid (Fr w _ [(w.heap.size, 109, #[.slice A5 ns c5, .slice A6 nc c6, .slice A7 nk c7, .int .i64 E.tb.lim, .int .i64 E.tb.rnd, .pointer (some ⟨K.gy, 0, none⟩), .int .i64 E.c.s, .int .i64 E.c.k, .int .i64 E.c.a, .int .i64 E.c.f, .bool E.c.al, .int .i64 E.prot, .slice K.An nn K.cn, .slice K.Ai ni K.ci, .pointer (some ⟨y, 0, none⟩), .pointer (some ⟨o, 0, none⟩)])]) := hid (HF9.out.st 0 rfl 4 (.int .i64 E.tb.rnd))
 clear HF9
 refine shG hK (GG.out _ HF10.out) (h := fun hH9 => ?_)
 clear hK Kx
 refine tkG 17 (h := ?_)
 refine tkO 18 (h := fun Kx hK => ?_)
 have sk12 := (HF10.out.b 0 rfl).cv 12 (.slice K.An nn K.cn) rfl
 have sf12 := (HF10.out.b 0 rfl).free 12
 go_simp
 clear sk12 sf12
 replace HTB := hid (HTB.out.fx (Ty.one (HF10.out.b 0 rfl) (by decide)) (Kp.grown (X := fun g => g = w.heap.size) (gJ9 _ w.heap.size 12 (.slice A8 nn c8)) (Nat.le_refl _) (fun k hk => by injection hk with hk; exact Or.inr hk.symm)))
 replace HNX := hid (oS9 HNX.out (HF10.out.b 0 rfl) (by decide) 12 (.slice A8 nn c8))
 replace HIN := hid (HIN.out.fx (Ty.one (HF10.out.b 0 rfl) (by decide)) (Kp.grown (X := fun g => g = w.heap.size) (gJ9 _ w.heap.size 12 (.slice A8 nn c8)) (Nat.le_refl _) (fun k hk => by injection hk with hk; exact Or.inr hk.symm)))
 have HF11 : Hid (Fr w _ [(w.heap.size, 109, #[.slice A5 ns c5, .slice A6 nc c6, .slice A7 nk c7, .int .i64 E.tb.lim, .int .i64 E.tb.rnd, .pointer (some ⟨K.gy, 0, none⟩), .int .i64 E.c.s, .int .i64 E.c.k, .int .i64 E.c.a, .int .i64 E.c.f, .bool E.c.al, .int .i64 E.prot, .slice A8 nn c8, .slice K.Ai ni K.ci, .pointer (some ⟨y, 0, none⟩), .pointer (some ⟨o, 0, none⟩)])]) := hid (HF10.out.st 0 rfl 12 (.slice A8 nn c8))
 clear HF10
 refine shG hK (GG.out _ HF11.out) (h := fun hH9 => ?_)
 clear hK Kx
 refine tkG 19 (h := ?_)
 refine tkO 20 (h := fun Kx hK => ?_)
 have sk13 := (HF11.out.b 0 rfl).cv 13 (.slice K.Ai ni K.ci) rfl
 have sf13 := (HF11.out.b 0 rfl).free 13
 go_simp
 clear sk13 sf13
 replace HTB := hid (HTB.out.fx (Ty.one (HF11.out.b 0 rfl) (by decide)) (Kp.grown (X := fun g => g = w.heap.size) (gJ9 _ w.heap.size 13 (.slice A9 ni c9)) (Nat.le_refl _) (fun k hk => by injection hk with hk; exact Or.inr hk.symm)))
 replace HNX := hid (oS9 HNX.out (HF11.out.b 0 rfl) (by decide) 13 (.slice A9 ni c9))
 replace HIN := hid (HIN.out.fx (Ty.one (HF11.out.b 0 rfl) (by decide)) (Kp.grown (X := fun g => g = w.heap.size) (gJ9 _ w.heap.size 13 (.slice A9 ni c9)) (Nat.le_refl _) (fun k hk => by injection hk with hk; exact Or.inr hk.symm)))
 have HF12 : Hid (Fr w _ [(w.heap.size, 109, #[.slice A5 ns c5, .slice A6 nc c6, .slice A7 nk c7, .int .i64 E.tb.lim, .int .i64 E.tb.rnd, .pointer (some ⟨K.gy, 0, none⟩), .int .i64 E.c.s, .int .i64 E.c.k, .int .i64 E.c.a, .int .i64 E.c.f, .bool E.c.al, .int .i64 E.prot, .slice A8 nn c8, .slice A9 ni c9, .pointer (some ⟨y, 0, none⟩), .pointer (some ⟨o, 0, none⟩)])]) := hid (HF11.out.st 0 rfl 13 (.slice A9 ni c9))
 clear HF11
 refine shG hK (GG.out _ HF12.out) (h := fun hH9 => ?_)
 clear hK Kx
 refine wD9 (by kernel_rfl) ?_ _
 clear G hH9
 try simp only [Exit.then]
 try simp only [gA, gB, gC, pN, pU, pL, pZ, pS]
 clear GG
 go_upto_region 3 with fail
 have GG : Hid (∀ W l, Fr w W l → Below w.heap.size w W ∧ (W.cell? ⟨p, 14, none⟩ = some (.pointer (some ⟨y, 0, none⟩)) ∧ W.cell? ⟨p, 15, none⟩ = some (.pointer (some ⟨o, 0, none⟩)))) := fun W l hW => ⟨hW.bl, (HB.out.t hW.bl).cv 14 _ rfl, (HB.out.t hW.bl).cv 15 _ rfl⟩
 replace GG := hid (fun W {l} h => GG.out W l h)
 go_wp2_with fail
 generalize hwn : (((((((W4).setCell ⟨w.heap.size, 0, none⟩ (.slice A5 ns c5)).setCell ⟨w.heap.size, 1, none⟩ (.slice A6 nc c6)).setCell ⟨w.heap.size, 2, none⟩ (.slice A7 nk c7)).setCell ⟨w.heap.size, 3, none⟩ (.int .i64 E.tb.lim)).setCell ⟨w.heap.size, 4, none⟩ (.int .i64 E.tb.rnd)).setCell ⟨w.heap.size, 12, none⟩ (.slice A8 nn c8)).setCell ⟨w.heap.size, 13, none⟩ (.slice A9 ni c9) = v5 at *
 try clear hwn
 have G : Hid (∀ W, Fr w W [(w.heap.size, 109, #[.slice A5 ns c5, .slice A6 nc c6, .slice A7 nk c7, .int .i64 E.tb.lim, .int .i64 E.tb.rnd, .pointer (some ⟨K.gy, 0, none⟩), .int .i64 E.c.s, .int .i64 E.c.k, .int .i64 E.c.a, .int .i64 E.c.f, .bool E.c.al, .int .i64 E.prot, .slice A8 nn c8, .slice A9 ni c9, .pointer (some ⟨y, 0, none⟩), .pointer (some ⟨o, 0, none⟩)])] → Below w.heap.size w W ∧ (W.cell? ⟨p, 14, none⟩ = some (.pointer (some ⟨y, 0, none⟩)) ∧ W.cell? ⟨p, 15, none⟩ = some (.pointer (some ⟨o, 0, none⟩)))) := fun W hW => ⟨hW.bl, (HB.out.t hW.bl).cv 14 _ rfl, (HB.out.t hW.bl).cv 15 _ rfl⟩
 replace HNX := hid (own_drew0 HNX.out)
 replace HTB := hid (HTB.out.below (b0 _).drew)
 replace HIN := hid (HIN.out.below (b0 _).drew)
 have HF13 := hid (HF12.out.dr)
 refine wG9 G 14 (by kernel_rfl) HF13.out (fun hH9 => ?_)
 refine tkG 0 (h := ?_)
 refine tkG 1 (h := ?_)
 refine tkG 2 (h := ?_)
 refine tkG 3 (h := ?_)
 refine tkG 5 (h := ?_)
 refine tkG 6 (h := ?_)
 refine tkG 7 (h := ?_)
 refine tkG 8 (h := ?_)
 refine tkO 4 (h := fun Kx hK => ?_)
 go_simp
 go_at_call 43
 refine (KY.out _ HF13.out.bl).mono ?_
 rintro e W6 ⟨⟨q2, A3, c3, B3, d3, rfl, hq2, hya⟩, hb⟩
 replace HNX := hid (oB9 HNX.out hb)
 replace HTB := hid (HTB.out.below hb)
 replace HIN := hid (HIN.out.below hb)
 have HF14 := hid (HF13.out.ca hb)
 have HYA := hid (hya.more HF13.out.bl.size)
 have HYQ : Hid (w.heap.size + 1 ≤ q2) := Nat.le_trans (show w.heap.size + 1 ≤ _ from (HF13.out.b 0 rfl).lt) hq2
 clear hya hq2
 clear hb
 refine shG hK (G.out _ HF14.out) (h := fun hH9 => ?_)
 clear hK Kx
 refine tkO 9 (h := fun Kx hK => ?_)
 go_simp
 go_at_call 91
 refine (KB.out _ HF14.out.bl).mono ?_
 rintro e W7 ⟨⟨q3, rfl, hq3, hba⟩, hb⟩
 replace HNX := hid (oB9 HNX.out hb)
 replace HTB := hid (HTB.out.below hb)
 replace HIN := hid (HIN.out.below hb)
 replace HYA := hid (HYA.out.below hb)
 have HF15 := hid (HF14.out.ca hb)
 have HBA := hid hba
 have HOQ : Hid (w.heap.size + 1 ≤ q3) := Nat.le_trans (show w.heap.size + 1 ≤ _ from (HF14.out.b 0 rfl).lt) hq3
 clear hba hq3
 clear hb
 refine shG hK (G.out _ HF15.out) (h := fun hH9 => ?_)
 clear hK Kx
 refine tkG 10 (h := ?_)
 refine tkO 11 (h := fun Kx hK => ?_)
 have sk14 := (HF15.out.b 0 rfl).cv 14 (.pointer (some ⟨y, 0, none⟩)) rfl
 have sf14 := (HF15.out.b 0 rfl).free 14
 go_simp
 clear sk14 sf14
 replace HTB := hid (HTB.out.fx (Ty.one (HF15.out.b 0 rfl) (by decide)) (Kp.grown (X := fun g => g = w.heap.size) (gJ9 _ w.heap.size 14 (.pointer (some ⟨q2, 0, none⟩))) (Nat.le_refl _) (fun k hk => by injection hk with hk; exact Or.inr hk.symm)))
 replace HNX := hid (oS9 HNX.out (HF15.out.b 0 rfl) (by decide) 14 (.pointer (some ⟨q2, 0, none⟩)))
 replace HIN := hid (HIN.out.fx (Ty.one (HF15.out.b 0 rfl) (by decide)) (Kp.grown (X := fun g => g = w.heap.size) (gJ9 _ w.heap.size 14 (.pointer (some ⟨q2, 0, none⟩))) (Nat.le_refl _) (fun k hk => by injection hk with hk; exact Or.inr hk.symm)))
 replace HYA := hid (HYA.out.fx (Ty.one (HF15.out.b 0 rfl) (by decide)) (Kp.grown (X := fun g => g = w.heap.size) (gJ9 _ w.heap.size 14 (.pointer (some ⟨q2, 0, none⟩))) (Nat.le_refl _) (fun k hk => by injection hk with hk; exact Or.inr hk.symm)) (by have h1 := HYQ.out; omega))
 replace HBA := hid (HBA.out.fx (Ty.one (HF15.out.b 0 rfl) (by decide)) (Kp.grown (X := fun g => g = w.heap.size) (gJ9 _ w.heap.size 14 (.pointer (some ⟨q2, 0, none⟩))) (Nat.le_refl _) (fun k hk => by injection hk with hk; exact Or.inr hk.symm)) (by have h1 := HOQ.out; omega))
 have HF16 : Hid (Fr w _ [(w.heap.size, 109, #[.slice A5 ns c5, .slice A6 nc c6, .slice A7 nk c7, .int .i64 E.tb.lim, .int .i64 E.tb.rnd, .pointer (some ⟨K.gy, 0, none⟩), .int .i64 E.c.s, .int .i64 E.c.k, .int .i64 E.c.a, .int .i64 E.c.f, .bool E.c.al, .int .i64 E.prot, .slice A8 nn c8, .slice A9 ni c9, .pointer (some ⟨q2, 0, none⟩), .pointer (some ⟨o, 0, none⟩)])]) := hid (HF15.out.st 0 rfl 14 (.pointer (some ⟨q2, 0, none⟩)))
 clear HF15
 refine shG hK (GG.out _ HF16.out) (h := fun hH9 => ?_)
 clear hK Kx
 refine tkG 12 (h := ?_)
 refine tkO 13 (h := fun Kx hK => ?_)
 have sk15 := (HF16.out.b 0 rfl).cv 15 (.pointer (some ⟨o, 0, none⟩)) rfl
 have sf15 := (HF16.out.b 0 rfl).free 15
 go_simp
 clear sk15 sf15
 replace HTB := hid (HTB.out.fx (Ty.one (HF16.out.b 0 rfl) (by decide)) (Kp.grown (X := fun g => g = w.heap.size) (gJ9 _ w.heap.size 15 (.pointer (some ⟨q3, 0, none⟩))) (Nat.le_refl _) (fun k hk => by injection hk with hk; exact Or.inr hk.symm)))
 replace HNX := hid (oS9 HNX.out (HF16.out.b 0 rfl) (by decide) 15 (.pointer (some ⟨q3, 0, none⟩)))
 replace HIN := hid (HIN.out.fx (Ty.one (HF16.out.b 0 rfl) (by decide)) (Kp.grown (X := fun g => g = w.heap.size) (gJ9 _ w.heap.size 15 (.pointer (some ⟨q3, 0, none⟩))) (Nat.le_refl _) (fun k hk => by injection hk with hk; exact Or.inr hk.symm)))
 replace HYA := hid (HYA.out.fx (Ty.one (HF16.out.b 0 rfl) (by decide)) (Kp.grown (X := fun g => g = w.heap.size) (gJ9 _ w.heap.size 15 (.pointer (some ⟨q3, 0, none⟩))) (Nat.le_refl _) (fun k hk => by injection hk with hk; exact Or.inr hk.symm)) (by have h1 := HYQ.out; omega))
 replace HBA := hid (HBA.out.fx (Ty.one (HF16.out.b 0 rfl) (by decide)) (Kp.grown (X := fun g => g = w.heap.size) (gJ9 _ w.heap.size 15 (.pointer (some ⟨q3, 0, none⟩))) (Nat.le_refl _) (fun k hk => by injection hk with hk; exact Or.inr hk.symm)) (by have h1 := HOQ.out; omega))
 have HF17 : Hid (Fr w _ [(w.heap.size, 109, #[.slice A5 ns c5, .slice A6 nc c6, .slice A7 nk c7, .int .i64 E.tb.lim, .int .i64 E.tb.rnd, .pointer (some ⟨K.gy, 0, none⟩), .int .i64 E.c.s, .int .i64 E.c.k, .int .i64 E.c.a, .int .i64 E.c.f, .bool E.c.al, .int .i64 E.prot, .slice A8 nn c8, .slice A9 ni c9, .pointer (some ⟨q2, 0, none⟩), .pointer (some ⟨q3, 0, none⟩)])]) := hid (HF16.out.st 0 rfl 15 (.pointer (some ⟨q3, 0, none⟩)))
 clear HF16
 refine shG hK (GG.out _ HF17.out) (h := fun hH9 => ?_)
 clear hK Kx
 refine wD9 (by kernel_rfl) ?_ _
 clear G hH9
 try simp only [Exit.then]
 try simp only [gA, gB, gC, pN, pU, pL, pZ, pS]
 go_wp2_with fail
 refine bodyPost_ret (v := .pointer (some ⟨w.heap.size, 0, none⟩)) (by simp [results, results56, go_sem]) rfl ⟨⟨_, q2, q3, rfl, ⟨⟨⟨A5, c5, A6, c6, A7, c7, K.gy, A8, c8, A9, c9⟩, ?_, ?_⟩, Nat.le_refl _, by have := HYQ.out; omega, by have := HOQ.out; omega, Nat.le_refl _⟩⟩, HF17.out.bl⟩
 ·
  have h := HF17.out.b 0 rfl
  unfold emC
  dsimp only
  rw [← HNS.out, ← HNC.out, ← HNK.out, ← HNN.out, ← HNI.out]
  exact h
 ·
  refine ⟨?_, HGY.out _ HF17.out.bl, ?_, ?_, ⟨A3, c3, B3, d3, HYA.out⟩, HBA.out⟩
  ·
   dsimp only
   rw [← HNS.out, ← HNC.out, ← HNK.out]
   exact HTB.out
  ·
   dsimp only
   rw [← HNN.out]
   have h := HNX.out
   exact h
  ·
   dsimp only
   rw [← HNI.out]
   exact HIN.out
end Go.Proofs.YtiaabmhjkoohmaaGreat
