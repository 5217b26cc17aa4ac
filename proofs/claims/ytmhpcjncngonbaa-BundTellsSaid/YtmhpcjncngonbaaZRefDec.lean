/- Texts of this claim, joined; the first one's sentence stands below. -/
import Derived.Test.YtmhpcjncngonbaaZRefEnc
import Derived.Test.YtmhpcjncngonbaaZRefLoc
import Derived.Test.YtmhpcjncngonbaaZM8
import Derived.Test.YtmhpcjncngonbaaZM6
/- What the reference's Decode comes to; rows of bytes. -/
namespace Go.Proofs.Ytmhpcjncngonbaa.Q
open Go.RowKit Go.Proofs.Ytmhpcjncngonbaa.Mine Go.Proofs.YtmhpcjncngonbaaW.PrintWords Go.Proofs.YtmhpcjncngonbaaW.PrintLast Go.Proofs.YtmhpcjncngonbaaW.PrintMore
set_option linter.unusedVariables false
set_option linter.unusedSimpArgs false
theorem rCut_b {k : Nat} {b : List Int} (hb : bytesOk b) (hl : b.length < 140737488000000) (hk : b.length + 8 < k) : exergueref08_Cut.f k b = some ((cutC b).1, (cutC b).2) := by
  have := Spec.rCut_f (k := k) (toY b) (by rw [toY_len]; exact hl) (by rw [toY_len]; exact hk)
  rw [toY_I hb] at this
  exact this
theorem refCut.calls (A : Option Addr) (c : Nat) (b : List Int) (w : World) (hr : (Kd.int .u8).C w A b.length b) (hc : b.length ≤ c) (hok : bytesOk b) (hl : b.length < 140737488000000) :
    Calls Try.prog 13 #[.slice A b.length c] w fun e w' => ∃ (A2 : Option Addr) (c2 : Nat), e = .returned (.tuple #[.slice A2 (cutC b).1.length c2, .int .i64 (cutC b).2]) ∧ (Kd.int .u8).C w' A2 (cutC b).1.length (cutC b).1 ∧ (cutC b).1.length ≤ c2 ∧ Below w.heap.size w w' := by
  refine (exergueref08_Cut.calls (b.length + 9) (fun k => k < w.heap.size) A c b (cutC b).1 (cutC b).2 w (Kd.V_mk hc (Kd.C_F (Kd.heap_int .u8) hr)) (rCut_b hok hl (by omega))).mono ?_
  rintro e w' ⟨v, rfl, ho, hb⟩
  obtain ⟨A2, c2, hv⟩ := Kd.V_slice ho
  subst hv
  exact ⟨A2, c2, rfl, (Kd.V_reads' ho).2.2, (Kd.V_reads' ho).2.1, hb⟩
theorem refRow.calls (A : Option Addr) (c : Nat) (A' : Option Addr) (c' : Nat) (x b : List Int) (w : World) (hl : x.length < 140737488355328) (h : (Kd.int .u8).C w A x.length x) (hc : x.length ≤ c) (h' : (Kd.int .u8).C w A' b.length b) (hc' : b.length ≤ c') : Calls Try.prog 14 #[.slice A x.length c, .slice A' b.length c'] w fun e w' => e = .returned (.bool (decide (x = b))) ∧ Below w.heap.size w w' := by
  refine (exergueref01_Row.calls (x.length + 1) A c x A' c' b (decide (x = b)) w h hc h' hc' (Spec.row_f hl (Nat.lt_succ_self _))).mono ?_
  rintro e w' ⟨rfl, ⟨m, rfl⟩⟩
  exact ⟨rfl, pw_below_drewN (Below.refl _ _) m⟩
/-- what the reference's Decode comes to -/
noncomputable def decPost2 (b : List Int) (w : World) (e : Ending) (w' : World) : Prop :=
  ∃ a, e = .returned (.tuple #[locV (decR b).1 a, .int .i64 (decR b).2]) ∧ LocC (decR b).1 a w' ∧ Below w.heap.size w w'
theorem decPost2.zero {b : List Int} {w w' : World} {n : Int} (h : decR b = (zeroL, n)) (hb : Below w.heap.size w w') : decPost2 b w (.returned (.tuple #[locV zeroL zeroA, .int .i64 n])) w' := by
  refine ⟨zeroA, ?_, ?_, hb⟩
  · rw [h]
  · rw [h]; exact (zeroL_r w' 0).c
set_option maxHeartbeats 16000000 in
set_option maxRecDepth 100000 in
theorem refDecode.calls (A : Option Addr) (c : Nat) (b : List Int) (w : World) (hr : (Kd.int .u8).C w A b.length b) (hc : b.length ≤ c) (hok : bytesOk b) (hl : b.length < 140737488000000) :
    Calls Try.prog 19 #[.slice A b.length c] w fun e w' => decPost2 b w e w' := by
  obtain ⟨w1, hw1⟩ : ∃ w1, w1 = w.alloc (.cells box0 29) := ⟨_, rfl⟩
  have hb1 : Below w.heap.size w w1 := by rw [hw1]; exact (Below.refl w.heap.size w).alloc (Nat.le_refl _) _
  have HX1 := Aside0.mk (show w1.heap[w.heap.size]? = some (.cells box0 29 (0, 0)) by rw [hw1]; exact blk_new w _)
  have HR1 := Aside0.mk (Kd.C_below hr hb1)
  have HC := Aside0.mk (refCut.calls A c b w1 HR1.out hc hok hl)
  have HLC := Aside0.mk hc
  have HB1 := Aside0.mk hb1
  have HE1 := Aside0.mk hw1
  have HD := Aside0.mk (show decR b = if (cutC b).2 = 0 then (match readL (cutC b).1 with | none => (zeroL, 2) | some L => if encE L = 0 ∧ encR L = b then (L, 0) else (zeroL, 2)) else (zeroL, (cutC b).2) from rfl)
  have hin := cutC_ok b
  have hil := cutC_len b
  generalize (cutC b).1 = x at HC HD hin hil
  generalize (cutC b).2 = z at HC HD
  have HIN := Aside0.mk hin
  have HIL := Aside0.mk (show x.length < 140737488355328 by omega)
  clear hb1 hw1 hr hc hok hl hin hil
  by_cases hz : z = 0
  case neg =>
    have HN := Aside0.mk (HD.out.trans (if_neg hz))
    have hb3 : (z == 0) = false := beq_eq_false_iff_ne.2 hz
    have hb4 : (z != 0) = true := bne_iff_ne.2 hz
    clear hz HD
    go_enter Try.func19, Try.ntmps19
    go_wp2_with fail
    rw [← HE1.out]
    refine HC.out.mono ?_
    rintro e w2 ⟨A2, c2, rfl, _, _, hb⟩
    have HX2 := Aside0.mk (blk_below HX1.out hb)
    have HB2 := Aside0.mk (HB1.out.trans (hb.mono HB1.out.size))
    obtain ⟨hx0, hx1, hx2, hx3, hx4, hx5, hx6, hx7, hx8, hx9, hx10, hx11, hx12, hx13, hx14⟩ := boxFCells HX2.out
    have hfz := fun i => blk_frozen HX2.out i
    clear hb
    dsimp only
    go_wp2_with fail
    clear hx0 hx1 hx2 hx3 hx4 hx5 hx6 hx7 hx8 hx9 hx10 hx11 hx12 hx13 hx14 hfz
    show bodyPost Try.prog Try.f19 (fun e w' => decPost2 b w e w') Exit.ret _ (fill w.heap.size w2 (cellsL zeroL zeroA) 0)
    refine bodyPost_ret (results_ct rfl _ _ w.heap.size 29 _ (0, 0) _ rfl (fillL HX2.out zeroL zeroA) Try.underlying29 rfl (by kernel_rfl)) rfl ?_
    exact decPost2.zero HN.out (fill_below (Nat.le_refl _) _ _ _ HB2.out)
  subst hz
  have HD2 := Aside0.mk (HD.out.trans (if_pos rfl))
  clear HD
  go_enter Try.func19, Try.ntmps19
  go_wp2_with fail
  rw [← HE1.out]
  refine HC.out.mono ?_
  rintro e w2 ⟨A2, c2, rfl, hcx, hlx, hb⟩
  have HX2 := Aside0.mk (blk_below HX1.out hb)
  have HB2 := Aside0.mk (HB1.out.trans (hb.mono HB1.out.size))
  have HR2 := Aside0.mk (Kd.C_below HR1.out hb)
  have HRD := Aside0.mk (rlocI.calls A2 c2 x w2 hcx hlx HIN.out HIL.out)
  clear hb hcx hlx
  dsimp only
  go_wp2_with fail
  refine HRD.out.mono ?_
  rintro e w3 ⟨L, a, ok, rfl, hR, hLB, hrd, hb⟩
  have HX3 := Aside0.mk (blk_below HX2.out hb)
  have HB3 := Aside0.mk (HB2.out.trans (hb.mono HB2.out.size))
  have HR3 := Aside0.mk (Kd.C_below HR2.out hb)
  have HD3 := Aside0.mk (show decR b = if ok = true ∧ encE L = 0 ∧ encR L = b then (L, 0) else (zeroL, 2) by
    rw [HD2.out]
    rcases hrd with ⟨rfl, h⟩ | ⟨rfl, h⟩
    · rw [h]; dsimp only; congr 1; simp
    · rw [h, if_neg (by simp)])
  have HR := Aside0.mk hR
  have HLB := Aside0.mk hLB
  clear hb hR hLB HD2 hrd
  obtain ⟨A3, c3, A4, c4, A5, c5⟩ := a
  dsimp only
  go_wp2_with fail
  obtain ⟨w4, hw4⟩ : ∃ w4, w4 = w3.alloc (.cells #[.string L.tag, .int .i32 L.s0, .int .i32 L.s1, .int .i32 L.s2, .int .i32 L.s3, .int .i32 L.s4, .int .i32 L.s5, .int .i32 L.s6, .string L.p0, .string L.p1, .string L.p2, .string L.p3, .slice A3 L.rules.length c3, .slice A4 L.curs.length c4, .slice A5 L.comps.length c5] 29) := ⟨_, rfl⟩
  rw [← hw4]
  have hb4 : Below w3.heap.size w3 w4 := by rw [hw4]; exact (Below.refl w3.heap.size w3).alloc (Nat.le_refl _) _
  have hR4 := HR.out.below hb4
  have hX4 := blk_below HX3.out hb4
  have hY4 : w4.heap[w3.heap.size]? = some (.cells #[.string L.tag, .int .i32 L.s0, .int .i32 L.s1, .int .i32 L.s2, .int .i32 L.s3, .int .i32 L.s4, .int .i32 L.s5, .int .i32 L.s6, .string L.p0, .string L.p1, .string L.p2, .string L.p3, .slice A3 L.rules.length c3, .slice A4 L.curs.length c4, .slice A5 L.comps.length c5] 29 (0, 0)) := by rw [hw4]; exact blk_new w3 _
  refine (refEncode.calls L ⟨A3, c3, A4, c4, A5, c5⟩ w4 hR4.c HLB.out).mono ?_
  rintro e w5 ⟨v5, rfl, ho5, hb5⟩
  have hb6 := hb4.trans (hb5.mono hb4.size)
  have HX5 := Aside0.mk (blk_below hX4 hb5)
  have HY5 := Aside0.mk (blk_below hY4 hb5)
  have HR5 := Aside0.mk (hR4.below hb5)
  have HB5 := Aside0.mk (HB3.out.trans (hb6.mono HB3.out.size))
  have HC5 := Aside0.mk (Kd.C_below HR3.out hb6)
  obtain ⟨A5', c5', hv5⟩ := Kd.R_slice ho5
  subst hv5
  have HEQ := Aside0.mk (refRow.calls A5' c5' A c (encR L) b w5 (by have := encR_len HLB.out; omega) (Kd.R_reads' ho5).2.2 (Kd.R_reads' ho5).2.1 HC5.out HLC.out)
  have HSZ := Aside0.mk (show w2.heap.size ≥ w.heap.size from HB2.out.size)
  clear hw4 hb4 hR4 hX4 hY4 hb5 hb6 ho5
  dsimp only
  generalize hrl : encR L = rl at *
  go_wp2_with fail
  refine HEQ.out.mono ?_
  rintro e w6 ⟨rfl, hb⟩
  have HX6 := Aside0.mk (blk_below HX5.out hb)
  have HR6 := Aside0.mk (HR5.out.below hb)
  have HB6 := Aside0.mk (HB5.out.trans (hb.mono HB5.out.size))
  obtain ⟨hx0, hx1, hx2, hx3, hx4, hx5, hx6, hx7, hx8, hx9, hx10, hx11, hx12, hx13, hx14⟩ := boxFCells HX6.out
  obtain ⟨hy0, hy1, hy2, hy3, hy4, hy5, hy6, hy7, hy8, hy9, hy10, hy11, hy12, hy13, hy14⟩ := boxCells (L := L) (a := ⟨A3, c3, A4, c4, A5, c5⟩) (blk_below HY5.out hb)
  have hfz := fun i => blk_frozen HX6.out i
  clear hb
  dsimp only
  by_cases hall : ok = true ∧ encE L = 0 ∧ rl = b
  case pos =>
    obtain ⟨rfl, h0, h1⟩ := hall
    have HN := Aside0.mk (HD3.out.trans (if_pos ⟨rfl, h0, h1⟩))
    have hd : decide (rl = b) = true := decide_eq_true h1
    rw [h0, hd]
    clear h0 h1 hd HD3 HEQ hrl
    go_wp2_with fail
    clear hx0 hx1 hx2 hx3 hx4 hx5 hx6 hx7 hx8 hx9 hx10 hx11 hx12 hx13 hx14 hy0 hy1 hy2 hy3 hy4 hy5 hy6 hy7 hy8 hy9 hy10 hy11 hy12 hy13 hy14 hfz
    show bodyPost Try.prog Try.f19 (fun e w' => decPost2 b w e w') Exit.ret _ (fill w.heap.size w6 (cellsL L ⟨A3, c3, A4, c4, A5, c5⟩) 0)
    have hR7 := HR6.out.fill (cellsL L ⟨A3, c3, A4, c4, A5, c5⟩) 0 _ HX6.out
    refine bodyPost_ret (results_ct rfl _ _ w.heap.size 29 _ (0, 0) _ rfl (fillL HX6.out L ⟨A3, c3, A4, c4, A5, c5⟩) Try.underlying29 rfl (by kernel_rfl)) rfl ?_
    exact ⟨⟨A3, c3, A4, c4, A5, c5⟩, by rw [HN.out]; rfl, by rw [HN.out]; exact hR7.c, fill_below (Nat.le_refl _) _ _ _ HB6.out⟩
  case neg =>
    have HN := Aside0.mk (HD3.out.trans (if_neg hall))
    cases hk : ok with
    | false =>
      clear HD3 hall HEQ hrl
      generalize encE L = f at *
      generalize decide (rl = b) = dd at *
      go_wp2_with fail
      clear hx0 hx1 hx2 hx3 hx4 hx5 hx6 hx7 hx8 hx9 hx10 hx11 hx12 hx13 hx14 hy0 hy1 hy2 hy3 hy4 hy5 hy6 hy7 hy8 hy9 hy10 hy11 hy12 hy13 hy14 hfz
      show bodyPost Try.prog Try.f19 (fun e w' => decPost2 b w e w') Exit.ret _ (fill w.heap.size w6 (cellsL zeroL zeroA) 0)
      refine bodyPost_ret (results_ct rfl _ _ w.heap.size 29 _ (0, 0) _ rfl (fillL HX6.out zeroL zeroA) Try.underlying29 rfl (by kernel_rfl)) rfl ?_
      exact decPost2.zero HN.out (fill_below (Nat.le_refl _) _ _ _ HB6.out)
    | true =>
      by_cases hf : encE L = 0
      · have hd : decide (rl = b) = false := decide_eq_false (fun h => hall ⟨hk, hf, h⟩)
        rw [hf, hd]
        clear hf hd HD3 hall hk HEQ hrl
        go_wp2_with fail
        clear hx0 hx1 hx2 hx3 hx4 hx5 hx6 hx7 hx8 hx9 hx10 hx11 hx12 hx13 hx14 hy0 hy1 hy2 hy3 hy4 hy5 hy6 hy7 hy8 hy9 hy10 hy11 hy12 hy13 hy14 hfz
        show bodyPost Try.prog Try.f19 (fun e w' => decPost2 b w e w') Exit.ret _ (fill w.heap.size w6 (cellsL zeroL zeroA) 0)
        refine bodyPost_ret (results_ct rfl _ _ w.heap.size 29 _ (0, 0) _ rfl (fillL HX6.out zeroL zeroA) Try.underlying29 rfl (by kernel_rfl)) rfl ?_
        exact decPost2.zero HN.out (fill_below (Nat.le_refl _) _ _ _ HB6.out)
      · have hb3 : (encE L == 0) = false := beq_eq_false_iff_ne.2 hf
        have hb4 : (encE L != 0) = true := bne_iff_ne.2 hf
        clear hf HD3 hall hk HEQ hrl
        generalize encE L = f at *
        generalize decide (rl = b) = dd at *
        go_wp2_with fail
        clear hx0 hx1 hx2 hx3 hx4 hx5 hx6 hx7 hx8 hx9 hx10 hx11 hx12 hx13 hx14 hy0 hy1 hy2 hy3 hy4 hy5 hy6 hy7 hy8 hy9 hy10 hy11 hy12 hy13 hy14 hfz
        show bodyPost Try.prog Try.f19 (fun e w' => decPost2 b w e w') Exit.ret _ (fill w.heap.size w6 (cellsL zeroL zeroA) 0)
        refine bodyPost_ret (results_ct rfl _ _ w.heap.size 29 _ (0, 0) _ rfl (fillL HX6.out zeroL zeroA) Try.underlying29 rfl (by kernel_rfl)) rfl ?_
        exact decPost2.zero HN.out (fill_below (Nat.le_refl _) _ _ _ HB6.out)
end Go.Proofs.Ytmhpcjncngonbaa.Q
