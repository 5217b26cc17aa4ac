/- Texts of this claim, joined; the first one's sentence stands below. -/
import Derived.Test.YtmhpcjncngonbaaZLBundSecA
/- What the law BundSections comes to: true. -/
namespace Go.Proofs.Ytmhpcjncngonbaa.Q
open Go.RowKit Go.Proofs.Ytmhpcjncngonbaa.Mine Go.Proofs.YtmhpcjncngonbaaW.PrintWords Go.Proofs.YtmhpcjncngonbaaW.PrintLast Go.Proofs.YtmhpcjncngonbaaW.PrintMore
set_option linter.unusedVariables false
set_option linter.unusedSimpArgs false
set_option maxHeartbeats 16000000 in
set_option maxRecDepth 100000 in
theorem sec_yes (L : Loc) (a : Lat) (q : Int) (w : World) (hL : LocC L a w) (hT : LocT L) (hq : (Lit.int .u8 q).wf = true) (hs : smallB L = true) (he : encE L = 0) :
    Calls Try.prog 4 #[locV L a, .int .u8 q] w fun e w' => e = .returned (.bool true) ∧ Below w.heap.size w w' := by
  obtain ⟨A3, c3, A4, c4, A5, c5⟩ := a
  obtain ⟨w1, hw1, hb1, hx1⟩ := new_box L A3 c3 A4 c4 A5 c5 w
  have HO1 := Aside0.mk (show One L ⟨A3, c3, A4, c4, A5, c5⟩ w w1 from ⟨hL.below hb1, hx1, hb1⟩)
  have HE1 := Aside0.mk hw1
  have HT := Aside0.mk hT
  have HQ := Aside0.mk hq
  have HS := Aside0.mk hs
  have HLB := Aside0.mk (small_b hs)
  have HE := Aside0.mk he
  clear hs he
  clear hL hT hw1 hb1 hx1 hq
  go_enter Try.func4, Try.ntmps4
  go_wp2_with fail
  rw [← HE1.out]
  refine (shown.calls w1).mono ?_
  rintro e w2 ⟨rfl, hb⟩
  have HO2 := Aside0.mk (HO1.out.below hb)
  obtain ⟨hx0, hx1, hx2, hx3, hx4, hx5, hx6, hx7, hx8, hx9, hx10, hx11, hx12, hx13, hx14⟩ := boxCells HO2.out.2.1
  clear hb
  dsimp only
  go_wp2_with fail
  refine (small.calls L ⟨A3, c3, A4, c4, A5, c5⟩ w2 HO2.out.1 HT.out).mono ?_
  rintro e w3 ⟨rfl, hb⟩
  have HO3 := Aside0.mk (HO2.out.below hb)
  clear hb hx0 hx1 hx2 hx3 hx4 hx5 hx6 hx7 hx8 hx9 hx10 hx11 hx12 hx13 hx14
  rw [HS.out]
  dsimp only
  obtain ⟨hx0, hx1, hx2, hx3, hx4, hx5, hx6, hx7, hx8, hx9, hx10, hx11, hx12, hx13, hx14⟩ := boxCells HO3.out.2.1
  go_wp2_with fail
  obtain ⟨x, hx, hR⟩ := enc_zero HE.out
  have hln := enc_len HLB.out hx
  obtain ⟨rest, hrest, hrl⟩ := enc_head HLB.out hx
  have hx60 : 100 ≤ x.length := by rw [hrest]; simp only [List.length_cons]; omega
  have HLN := Aside0.mk (show 100 ≤ x.length ∧ x.length < 5000000 from ⟨hx60, hln.2.1⟩)
  have hqb : bytesOk [q] := wf8 (l := [q]) (fun y hy => by rw [List.mem_singleton.1 hy]; exact HQ.out)
  obtain ⟨z, hz⟩ : ∃ z, z = x ++ [q] := ⟨_, rfl⟩
  have hzb : bytesOk z := by rw [hz]; exact fun y hy => (List.mem_append.1 hy).elim (hln.2.2 y) (hqb y)
  have hzl : z.length = x.length + 1 := by rw [hz, List.length_append]; rfl
  have HDZ := Aside0.mk (fun A c W (h : (Kd.int .u8).C W A (putC z).length (putC z)) hc => dec_no.calls (b := putC z) (z := 2) (by rw [dec_other HLB.out hx hzb (by rw [hz, List.take_append_of_le_length (by omega)]) (by omega)]) (by decide) (putC_ok z) (by rw [putC_len]; omega) A c W h hc)
  have HPZ := Aside0.mk (rPut_c (k := z.length + 13) hzb (by omega) (by omega))
  obtain ⟨y, hy⟩ : ∃ y, y = x.take (x.length - 1) := ⟨_, rfl⟩
  have hyb : bytesOk y := by rw [hy]; exact fun u hu => hln.2.2 u (List.mem_of_mem_take hu)
  have hyl : y.length = x.length - 1 := by rw [hy, List.length_take]; omega
  have HDY := Aside0.mk (fun A c W (h : (Kd.int .u8).C W A (putC y).length (putC y)) hc => dec_no.calls (b := putC y) (z := 2) (by rw [dec_other HLB.out hx hyb (by rw [hy, List.take_take, Nat.min_eq_left (by omega)]) (by omega)]) (by decide) (putC_ok y) (by rw [putC_len]; omega) A c W h hc)
  have HPY := Aside0.mk (rPut_c (k := y.length + 13) hyb (by omega) (by omega))
  have HZ := Aside0.mk hz
  obtain ⟨qs, hqs⟩ : ∃ qs, qs = [q] := ⟨_, rfl⟩
  have HQS := Aside0.mk hqs
  have HQL := Aside0.mk (show qs.length = 1 by rw [hqs]; rfl)
  have HY := Aside0.mk hy
  have HYL := Aside0.mk hyl
  have HZL := Aside0.mk hzl
  have HPA := Aside0.mk (show (encR L).length = x.length + 4 ∧ (encR L).take x.length = x by
    rw [hR, putC_len, putC_app hln.2.2, List.take_append_of_le_length (Nat.le_refl _), List.take_of_length_le (Nat.le_refl _)]
    exact ⟨rfl, rfl⟩)
  clear hqs hx hR hln hrest hrl hx60 hqb hz hzb hzl hy hyb hyl
  refine (enc_yes.calls HLB.out HE.out ⟨A3, c3, A4, c4, A5, c5⟩ w3 HO3.out.1).mono ?_
  rintro e w4 ⟨X, cx, rfl, hcx, hlx, hb⟩
  have HO4 := Aside0.mk (HO3.out.below hb)
  have hci := Kd.C_take (m := x.length) hcx (by have := HPA.out; omega)
  rw [HPA.out.2] at hci
  rw [HPA.out.1] at hlx ⊢
  have HCI := Aside0.mk hci
  have HLX := Aside0.mk hlx
  have HB := Aside0.mk (Below.refl w4.heap.size w4)
  clear hb hcx hci hlx hx0 hx1 hx2 hx3 hx4 hx5 hx6 hx7 hx8 hx9 hx10 hx11 hx12 hx13 hx14
  have h60 : decide (((x.length + 4 : Nat) : Int) < 60) = false := decide_eq_false (by have := HLN.out; omega)
  have hw4 : wrap64 (((x.length + 4 : Nat) : Int) - 4) = (x.length : Int) := by have := HLN.out; unfold wrap64; omega
  have hw4c : wrap64 ((x.length : Int)) = (x.length : Int) := by have := HLN.out; unfold wrap64; omega
  have h60b : decide ((x.length : Int) + 4 < 60) = false := decide_eq_false (by have := HLN.out; omega)
  have hw4b : wrap64 ((x.length : Int) + 4 - 4) = (x.length : Int) := by have := HLN.out; unfold wrap64; omega
  have hcut : ∀ W, (Instr.slice 32 (.slice X (x.length + 4) cx) none (some (.int .i64 (x.length : Int))) none).run Try.prog W = .ok (.slice X x.length cx) W := cut_to (P := Try.prog) 32 5 .i64 Try.underlying32 (show Try.prog.info? 5 = some _ from rfl) X (x.length + 4) cx (x.length : Int) (by omega) (by omega) HLX.out
  dsimp only
  go_wp2_with (first | ((with_reducible refine gate_dst (N := 41) rfl ?_); refine Kd.R_lit (Kd.int .u8) _ 5 ?hg (N := 41) ?hd (xs := ([] : List Int)) (inner := []) (ok := fun _ => True) (okp := fun _ => True) ?hr ?hp (fun _ hk => hk) trivial (Below.refl _ _) (Nat.le_refl _) (by simp) ?_; (case hd => rfl); (case hg => rfl); (case hr => first | (go_simp; done) | (go_simp; rfl)); (case hp => exact (Reps.none _ _)); intro v41 w5 ho hb hg_ hnew_; clear hg_ hnew_; have HO41 := Aside0.mk (Kd.R_lower ho HB.out.size); have n1_ := Aside0.mk (HB.out.trans (hb.mono HB.out.size)); clear HB; have HB := n1_; clear n1_ ho hb) | ((with_reducible refine gate_builtin (b := .append) (xs := #[.tmp 41, .tmp 42]) rfl ?_); at_builtin; refine Kd.R_append_rows (Kd.int .u8) (w0 := w4) w4.heap.size rfl (.tmp 41) (.tmp 42) 32 5 (.int .u8 0) 1 rfl Try.underlying32 info5 rfl (by decide) (by omega) v41 [] x _ _ _ (fun _ => True) (fun _ => False) rfl rfl ?aO ?aR (fun _ _ h => h) (fun _ h => h.elim) ?aF ?aB ?aS ?aL ?_; (case aR => exact (Kd.C_below HCI.out HB.out)); (case aB => exact HB.out); (case aF => exact (fun _ _ => trivial)); (case aO => exact HO41.out); (case aS => exact HB.out.size); (case aL => exact (by have := HLN.out; simp only [List.length_nil]; omega)); intro v43 w6 ho hb hg hat; rw [List.nil_append] at ho; have HO43 := Aside0.mk ho; clear HB; have HB := Aside0.mk hb; clear ho hb hg hat) | ((with_reducible refine gate_dst (N := 45) rfl ?_); refine Kd.R_lit (Kd.int .u8) _ 5 ?hg (N := 45) ?hd (xs := ([q] : List Int)) (inner := [.int .u8 q]) (ok := fun _ => True) (okp := fun _ => True) ?hr ?hp (fun _ hk => hk) trivial (Below.refl _ _) (Nat.le_refl _) (by simp) ?_; (case hd => rfl); (case hg => rfl); (case hr => first | (go_simp; done) | (go_simp; rfl)); (case hp => exact (Reps.one (show Kd.M (Kd.int .u8) _ _ _ q [.int .u8 q] from rfl) (Reps.none _ _))); intro v45 w7 ho hb hg_ hnew_; clear hg_ hnew_; rw [← HQS.out] at ho; have n0_ := Aside0.mk (Kd.R_elder' HO43.out (Kd.R_base ho) hb); have n1_ := Aside0.mk (Kd.R_lower (Kd.R_new' ho (Kd.R_lt HO43.out)) HB.out.size); have n2_ := Aside0.mk (HB.out.trans (hb.mono HB.out.size)); clear HO43 HB; have HO43 := n0_; have HO45 := n1_; have HB := n2_; clear n0_ n1_ n2_ ho hb; obtain ⟨A45, c45, e45⟩ := Kd.R_slice HO45.out; subst e45) | ((with_reducible refine gate_builtin (b := .append) (xs := #[.tmp 43, .tmp 45]) rfl ?_); at_builtin; refine Kd.R_append_rows (Kd.int .u8) (w0 := w4) w4.heap.size rfl (.tmp 43) (.tmp 45) 32 5 (.int .u8 0) 1 rfl Try.underlying32 info5 rfl (by decide) (by omega) v43 x qs _ _ _ (fun k_ => some k_ ≠ (.slice A45 qs.length c45 : Value).ownBlock) (fun _ => False) rfl rfl ?aO ?aR (fun _ _ h => h) (fun _ h => h.elim) ?aF ?aB ?aS ?aL ?_; (case aR => exact (Kd.R_reads' HO45.out).2.2); (case aB => exact HB.out); (case aF => exact (fun k_ hk => Kd.fresh' (Kd.R_lt HO45.out) k_ hk)); (case aO => exact (Kd.R_mono HO43.out (fun _ hk => hk.2))); (case aS => exact HB.out.size); (case aL => exact (by have := HLN.out; have := HQL.out; omega)); intro v46 w8 ho hb hg hat; have e47 : x ++ qs = z := (by rw [HQS.out, HZ.out]); rw [e47] at ho; have HO46 := Aside0.mk ho; clear HB; have HB := Aside0.mk hb; clear ho hb hg hat; obtain ⟨A46, c46, e46⟩ := Kd.R_slice HO46.out; subst e46))
  refine (exergueref08_Put.calls (z.length + 13) A46 c46 z (putC z) w8 (Kd.R_reads' HO46.out).2.2 (Kd.R_reads' HO46.out).2.1 HPZ.out).mono ?_
  rintro e w9 ⟨v9, rfl, ho, hb⟩
  obtain ⟨A9, c9, hv9⟩ := Kd.R_slice ho
  subst hv9
  have HR9 := Aside0.mk (Kd.R_reads' ho)
  have n1_ := Aside0.mk (HB.out.trans (hb.mono HB.out.size))
  clear HB
  have HB := n1_
  clear n1_ ho hb
  generalize putC z = pz at HDZ HR9
  dsimp only
  go_wp2_with fail
  refine (HDZ.out A9 c9 w9 HR9.out.2.2 HR9.out.2.1).mono ?_
  rintro e w10 ⟨B3, d3, B4, d4, B5, d5, rfl, hM, hb⟩
  have hB10 := HB.out.trans (hb.mono HB.out.size)
  obtain ⟨w11, hw11, hb11, hy11⟩ := new_box zeroL B3 d3 B4 d4 B5 d5 w10
  have HE11 := Aside0.mk (show w11 = w10.alloc (.cells #[.string ⟨#[]⟩, .int .i32 0, .int .i32 0, .int .i32 0, .int .i32 0, .int .i32 0, .int .i32 0, .int .i32 0, .string ⟨#[]⟩, .string ⟨#[]⟩, .string ⟨#[]⟩, .string ⟨#[]⟩, .slice B3 0 d3, .slice B4 0 d4, .slice B5 0 d5] 29) from hw11)
  have HB11 := Aside0.mk (hB10.trans (hb11.mono hB10.size))
  have HM11 := Aside0.mk (hM.below hb11)
  have HY11 : Aside0 (w11.heap[w10.heap.size]? = some (.cells (boxF ⟨#[]⟩ (fun _ => 0) (fun _ => ⟨#[]⟩) (.slice B3 0 d3) (.slice B4 0 d4) (.slice B5 0 d5)) 29 (0, 0))) := Aside0.mk hy11
  clear HB hb hM hB10 hw11 hb11 hy11
  dsimp only
  go_upto_region 9 with fail
  simp only [zeroL, List.length_nil]
  rw [← HE11.out]
  have hw1 : wrap64 ((x.length : Int) - 1) = (y.length : Int) := by have := HLN.out; have := HYL.out; unfold wrap64; omega
  have hcut2 : ∀ W, (Instr.slice 32 (.slice X x.length cx) none (some (.int .i64 (y.length : Int))) none).run Try.prog W = .ok (.slice X y.length cx) W := cut_to (P := Try.prog) 32 5 .i64 Try.underlying32 (show Try.prog.info? 5 = some _ from rfl) X x.length cx (y.length : Int) (by omega) (by have := HLN.out; have := HYL.out; omega) (by have := HLX.out; omega)
  have HCY := Aside0.mk (show (Kd.int .u8).C w11 X y.length y by
    have h := Kd.C_take (m := x.length - 1) (Kd.C_below HCI.out HB11.out) (by omega)
    rw [← HY.out] at h
    exact h)
  go_wp2_with fail
  refine (exergueref08_Put.calls (y.length + 13) X cx y (putC y) w11 HCY.out (by have := HLX.out; have := HYL.out; omega) HPY.out).mono ?_
  rintro e w12 ⟨v12, rfl, ho, hb⟩
  obtain ⟨A12, c12, hv12⟩ := Kd.R_slice ho
  subst hv12
  have HR12 := Aside0.mk (Kd.R_reads' ho)
  have HB12 := Aside0.mk (HB11.out.trans (hb.mono HB11.out.size))
  have HM12 := Aside0.mk (HM11.out.below hb)
  have HY12 := Aside0.mk (blk_below HY11.out hb)
  clear ho hb hcut hcut2 hw1 hw4 hw4b hw4c h60 h60b
  generalize putC y = py at HDY HR12
  dsimp only
  go_wp2_with fail
  refine (HDY.out A12 c12 w12 HR12.out.2.2 HR12.out.2.1).mono ?_
  rintro e w13 ⟨D3, f3, D4, f4, D5, f5, rfl, hM, hb⟩
  have hB13 := HB12.out.trans (hb.mono HB12.out.size)
  obtain ⟨w14, hw14, hb14, hy14⟩ := new_box zeroL D3 f3 D4 f4 D5 f5 w13
  have HE14 := Aside0.mk (show w14 = w13.alloc (.cells #[.string ⟨#[]⟩, .int .i32 0, .int .i32 0, .int .i32 0, .int .i32 0, .int .i32 0, .int .i32 0, .int .i32 0, .string ⟨#[]⟩, .string ⟨#[]⟩, .string ⟨#[]⟩, .string ⟨#[]⟩, .slice D3 0 f3, .slice D4 0 f4, .slice D5 0 f5] 29) from hw14)
  have HB14 := Aside0.mk (hB13.trans (hb14.mono hB13.size))
  have HM14 := Aside0.mk ((HM12.out.below hb).below hb14)
  have HN14 := Aside0.mk (hM.below hb14)
  have HY14 := Aside0.mk (blk_below (blk_below HY12.out hb) hb14)
  have HZ14 : Aside0 (w14.heap[w13.heap.size]? = some (.cells (boxF ⟨#[]⟩ (fun _ => 0) (fun _ => ⟨#[]⟩) (.slice D3 0 f3) (.slice D4 0 f4) (.slice D5 0 f5)) 29 (0, 0))) := Aside0.mk hy14
  clear hb hM hB13 hw14 hb14 hy14
  dsimp only
  go_upto_region 10 with fail
  simp only [zeroL, List.length_nil]
  rw [← HE14.out]
  have HSA : Aside0 (Calls Try.prog 17 #[locV zeroL ⟨B3, d3, B4, d4, B5, d5⟩, locV zeroL zeroA] w14 fun e w' => e = .returned (.bool true) ∧ Below w14.heap.size w14 w') := Aside0.mk (same_yes.calls zeroL zeroL_b ⟨B3, d3, B4, d4, B5, d5⟩ zeroA w14 HM14.out (zeroL_c w14))
  have HSB : Aside0 (∀ W, Below w14.heap.size w14 W → Calls Try.prog 17 #[locV zeroL ⟨D3, f3, D4, f4, D5, f5⟩, locV zeroL zeroA] W fun e w' => e = .returned (.bool true) ∧ Below W.heap.size W w') := Aside0.mk (fun W h => same_yes.calls zeroL zeroL_b ⟨D3, f3, D4, f4, D5, f5⟩ zeroA W (HN14.out.below h) (zeroL_c W))
  obtain ⟨gy0, gy1, gy2, gy3, gy4, gy5, gy6, gy7, gy8, gy9, gy10, gy11, gy12, gy13, gy14⟩ := boxFCells HY14.out
  obtain ⟨gz0, gz1, gz2, gz3, gz4, gz5, gz6, gz7, gz8, gz9, gz10, gz11, gz12, gz13, gz14⟩ := boxFCells HZ14.out
  go_wp2_with fail
  refine HSA.out.mono ?_
  rintro e w15 ⟨rfl, hb⟩
  have HB15 := Aside0.mk (HB14.out.trans (hb.mono HB14.out.size))
  have HSC := Aside0.mk (HSB.out w15 hb)
  clear gy0 gy1 gy2 gy3 gy4 gy5 gy6 gy7 gy8 gy9 gy10 gy11 gy12 gy13 gy14 gz0 gz1 gz2 gz3 gz4 gz5 gz6 gz7 gz8 gz9 gz10 gz11 gz12 gz13 gz14
  obtain ⟨gz0, gz1, gz2, gz3, gz4, gz5, gz6, gz7, gz8, gz9, gz10, gz11, gz12, gz13, gz14⟩ := boxFCells (blk_below HZ14.out hb)
  clear hb
  dsimp only
  go_wp2_with fail
  refine HSC.out.mono ?_
  rintro e w16 ⟨rfl, hb⟩
  have HB16 := Aside0.mk (HB15.out.trans (hb.mono HB15.out.size))
  clear hb
  dsimp only
  go_wp2
  go_ret
  exact ⟨rfl, HO4.out.2.2.trans (HB16.out.mono HO4.out.2.2.size)⟩
theorem bundSections.calls (L : Loc) (a : Lat) (q : Int) (w : World) (hL : LocC L a w) (hT : LocT L) (hq : (Lit.int .u8 q).wf = true) :
    Calls Try.prog 4 #[locV L a, .int .u8 q] w fun e w' => e = .returned (.bool true) ∧ Below w.heap.size w w' := by
  cases hs : smallB L with
  | false => exact sec_s0 L a q w hL hT hq hs
  | true =>
    by_cases he : encE L = 0
    · exact sec_yes L a q w hL hT hq hs he
    · exact sec_e1 L a q w hL hT hq hs he
end Go.Proofs.Ytmhpcjncngonbaa.Q
