/- Texts of this claim, joined; the first one's sentence stands below. -/
import Derived.Test.YtmhpcjncngonbaaZLBundApartA
import Derived.Deep.RegionHeld3
/- What the law BundApart comes to where there are two bundles of two locales: true. -/
namespace Go.Proofs.Ytmhpcjncngonbaa.Q
open Go.RowKit Go.Proofs.Ytmhpcjncngonbaa.Mine Go.Proofs.YtmhpcjncngonbaaW.PrintWords Go.Proofs.YtmhpcjncngonbaaW.PrintLast Go.Proofs.YtmhpcjncngonbaaW.PrintMore
set_option linter.unusedVariables false
set_option linter.unusedSimpArgs false
set_option maxHeartbeats 16000000 in
set_option maxRecDepth 100000 in
theorem apart_yesfalse (L : Loc) (a : Lat) (M : Loc) (b : Lat) (w : World) (hL : LocC L a w) (hT : LocT L) (hM : LocC M b w) (hU : LocT M) (hs : smallB L = true) (hs2 : smallB M = true) (he : encE L = 0) (hf : encE M = 0) (hq : decide (L = M) = false) :
    Calls Try.prog 8 #[locV L a, locV M b] w fun e w' => e = .returned (.bool true) ∧ Below w.heap.size w w' := by
  obtain ⟨w1, hw1⟩ : ∃ w1, w1 = (w.alloc (.cells (boxL L a) 29)).alloc (.cells (boxL M b) 29) := ⟨_, rfl⟩
  have HT1 := Aside0.mk (show Two L M a b w w1 by rw [hw1]; exact Two.start hL hM)
  have HE1 := Aside0.mk hw1
  have HTL := Aside0.mk hT
  have HTM := Aside0.mk hU
  have HLS := Aside0.mk hL.2.2.2
  have HMS := Aside0.mk hM.2.2.2
  have HS := Aside0.mk hs
  have HS2 := Aside0.mk hs2
  have HLB := Aside0.mk (small_b hs)
  have HMB := Aside0.mk (small_b hs2)
  have HE := Aside0.mk he
  have HF := Aside0.mk hf
  have HDQ := Aside0.mk hq
  clear hs hs2 he hf hq
  clear hL hT hM hU hw1
  go_enter Try.func8, Try.ntmps8
  go_wp2_with fail
  rw [← HE1.out]
  refine (shown.calls w1).mono ?_
  rintro e w2 ⟨rfl, hb⟩
  have HT2 := Aside0.mk (HT1.out.below hb)
  obtain ⟨hx0, hx1, hx2, hx3, hx4, hx5, hx6, hx7, hx8, hx9, hx10, hx11, hx12, hx13, hx14⟩ := boxCells HT2.out.2.2.1
  obtain ⟨hy0, hy1, hy2, hy3, hy4, hy5, hy6, hy7, hy8, hy9, hy10, hy11, hy12, hy13, hy14⟩ := boxCells HT2.out.2.2.2.1
  clear hb
  dsimp only
  go_wp2_with fail
  refine (small.calls L a w2 HT2.out.1 HTL.out).mono ?_
  rintro e w3 ⟨rfl, hb⟩
  have HT3 := Aside0.mk (HT2.out.below hb)
  clear hb hx0 hx1 hx2 hx3 hx4 hx5 hx6 hx7 hx8 hx9 hx10 hx11 hx12 hx13 hx14 hy0 hy1 hy2 hy3 hy4 hy5 hy6 hy7 hy8 hy9 hy10 hy11 hy12 hy13 hy14
  rw [HS.out]
  dsimp only
  obtain ⟨hx0, hx1, hx2, hx3, hx4, hx5, hx6, hx7, hx8, hx9, hx10, hx11, hx12, hx13, hx14⟩ := boxCells HT3.out.2.2.1
  obtain ⟨hy0, hy1, hy2, hy3, hy4, hy5, hy6, hy7, hy8, hy9, hy10, hy11, hy12, hy13, hy14⟩ := boxCells HT3.out.2.2.2.1
  go_wp2_with fail
  refine (small.calls M b w3 HT3.out.2.1 HTM.out).mono ?_
  rintro e w4 ⟨rfl, hb⟩
  have HT4 := Aside0.mk (HT3.out.below hb)
  clear hb hx0 hx1 hx2 hx3 hx4 hx5 hx6 hx7 hx8 hx9 hx10 hx11 hx12 hx13 hx14 hy0 hy1 hy2 hy3 hy4 hy5 hy6 hy7 hy8 hy9 hy10 hy11 hy12 hy13 hy14
  rw [HS2.out]
  dsimp only
  obtain ⟨hx0, hx1, hx2, hx3, hx4, hx5, hx6, hx7, hx8, hx9, hx10, hx11, hx12, hx13, hx14⟩ := boxCells HT4.out.2.2.1
  obtain ⟨hy0, hy1, hy2, hy3, hy4, hy5, hy6, hy7, hy8, hy9, hy10, hy11, hy12, hy13, hy14⟩ := boxCells HT4.out.2.2.2.1
  go_wp2_with fail
  refine (enc_yes.calls HLB.out HE.out a w4 HT4.out.1).mono ?_
  rintro e w5 ⟨X, cx, rfl, hcx, hlx, hb⟩
  have HT5 := Aside0.mk (HT4.out.below hb)
  have HCX := Aside0.mk hcx
  have HLX := Aside0.mk hlx
  clear hb hcx hlx hx0 hx1 hx2 hx3 hx4 hx5 hx6 hx7 hx8 hx9 hx10 hx11 hx12 hx13 hx14 hy0 hy1 hy2 hy3 hy4 hy5 hy6 hy7 hy8 hy9 hy10 hy11 hy12 hy13 hy14
  dsimp only
  obtain ⟨hx0, hx1, hx2, hx3, hx4, hx5, hx6, hx7, hx8, hx9, hx10, hx11, hx12, hx13, hx14⟩ := boxCells HT5.out.2.2.1
  obtain ⟨hy0, hy1, hy2, hy3, hy4, hy5, hy6, hy7, hy8, hy9, hy10, hy11, hy12, hy13, hy14⟩ := boxCells HT5.out.2.2.2.1
  go_wp2_with fail
  refine (enc_yes.calls HMB.out HF.out b w5 HT5.out.2.1).mono ?_
  rintro e w6 ⟨Y, cy, rfl, hcy, hly, hb⟩
  have HT6 := Aside0.mk (HT5.out.below hb)
  have HCX6 := Aside0.mk (Kd.C_below HCX.out hb)
  have HSA := Aside0.mk (fun (W : World) (h : Below w6.heap.size w6 W) => (same.calls L M a b W (HT6.out.1.below h) (HT6.out.2.1.below h) HLB.out HMB.out).mono (R' := fun e w' => e = .returned (.bool (decide (L = M))) ∧ Below w6.heap.size w6 w') (fun e w' hh => ⟨hh.1, h.trans (hh.2.mono h.size)⟩))
  have HRO := Aside0.mk (fun (W : World) (h : Below w6.heap.size w6 W) => (exergueref01_Row.calls ((encR L).length + 1) X cx (encR L) Y cy (encR M) _ W (Kd.C_below HCX6.out h) HLX.out (Kd.C_below hcy h) hly (Spec.row_f (by have := encR_len HLB.out; omega) (Nat.lt_succ_self _))).mono (R' := fun e w' => e = .returned (.bool (decide (encR L = encR M))) ∧ Below w6.heap.size w6 w') (fun e w' hh => ⟨hh.1, by obtain ⟨_, m, rfl⟩ := hh; exact pw_below_drewN h m⟩))
  have hdd : decide (encR L = encR M) = decide (L = M) := decide_eq_decide.2 (enc_apart HLB.out HLS.out HMB.out HMS.out HE.out HF.out)
  rw [hdd] at HRO
  have HB0 : Below w6.heap.size w6 w6.drew := (Below.refl _ _).drew
  have HBN := Aside0.mk (fun m => pw_below_drewN (Below.refl w6.heap.size w6) m)
  clear hb hcy hly hdd hx0 hx1 hx2 hx3 hx4 hx5 hx6 hx7 hx8 hx9 hx10 hx11 hx12 hx13 hx14 hy0 hy1 hy2 hy3 hy4 hy5 hy6 hy7 hy8 hy9 hy10 hy11 hy12 hy13 hy14
  obtain ⟨hx0, hx1, hx2, hx3, hx4, hx5, hx6, hx7, hx8, hx9, hx10, hx11, hx12, hx13, hx14⟩ := boxCells HT6.out.2.2.1
  obtain ⟨hy0, hy1, hy2, hy3, hy4, hy5, hy6, hy7, hy8, hy9, hy10, hy11, hy12, hy13, hy14⟩ := boxCells HT6.out.2.2.2.1
  rw [HDQ.out] at HSA HRO
  generalize encR L = rl at *
  generalize encR M = rm at *
  dsimp only
  go_wp2_with fail
  have HKP := Aside0.mk (show ∀ w', Below w6.heap.size w6 w' → (fun w' => Below w6.heap.size w6 w' ∧ w'.cell? ⟨w.heap.size, 0, none⟩ = some (.string L.tag) ∧ w'.cell? ⟨w.heap.size, 1, none⟩ = some (.int .i32 L.s0) ∧ w'.cell? ⟨w.heap.size, 2, none⟩ = some (.int .i32 L.s1) ∧ w'.cell? ⟨w.heap.size, 3, none⟩ = some (.int .i32 L.s2) ∧ w'.cell? ⟨w.heap.size, 4, none⟩ = some (.int .i32 L.s3) ∧ w'.cell? ⟨w.heap.size, 5, none⟩ = some (.int .i32 L.s4) ∧ w'.cell? ⟨w.heap.size, 6, none⟩ = some (.int .i32 L.s5) ∧ w'.cell? ⟨w.heap.size, 7, none⟩ = some (.int .i32 L.s6) ∧ w'.cell? ⟨w.heap.size, 8, none⟩ = some (.string L.p0) ∧ w'.cell? ⟨w.heap.size, 9, none⟩ = some (.string L.p1) ∧ w'.cell? ⟨w.heap.size, 10, none⟩ = some (.string L.p2) ∧ w'.cell? ⟨w.heap.size, 11, none⟩ = some (.string L.p3) ∧ w'.cell? ⟨w.heap.size, 12, none⟩ = some (.slice a.A3 L.rules.length a.c3) ∧ w'.cell? ⟨w.heap.size, 13, none⟩ = some (.slice a.A4 L.curs.length a.c4) ∧ w'.cell? ⟨w.heap.size, 14, none⟩ = some (.slice a.A5 L.comps.length a.c5) ∧ w'.cell? ⟨w.heap.size + 1, 0, none⟩ = some (.string M.tag) ∧ w'.cell? ⟨w.heap.size + 1, 1, none⟩ = some (.int .i32 M.s0) ∧ w'.cell? ⟨w.heap.size + 1, 2, none⟩ = some (.int .i32 M.s1) ∧ w'.cell? ⟨w.heap.size + 1, 3, none⟩ = some (.int .i32 M.s2) ∧ w'.cell? ⟨w.heap.size + 1, 4, none⟩ = some (.int .i32 M.s3) ∧ w'.cell? ⟨w.heap.size + 1, 5, none⟩ = some (.int .i32 M.s4) ∧ w'.cell? ⟨w.heap.size + 1, 6, none⟩ = some (.int .i32 M.s5) ∧ w'.cell? ⟨w.heap.size + 1, 7, none⟩ = some (.int .i32 M.s6) ∧ w'.cell? ⟨w.heap.size + 1, 8, none⟩ = some (.string M.p0) ∧ w'.cell? ⟨w.heap.size + 1, 9, none⟩ = some (.string M.p1) ∧ w'.cell? ⟨w.heap.size + 1, 10, none⟩ = some (.string M.p2) ∧ w'.cell? ⟨w.heap.size + 1, 11, none⟩ = some (.string M.p3) ∧ w'.cell? ⟨w.heap.size + 1, 12, none⟩ = some (.slice b.A3 M.rules.length b.c3) ∧ w'.cell? ⟨w.heap.size + 1, 13, none⟩ = some (.slice b.A4 M.curs.length b.c4) ∧ w'.cell? ⟨w.heap.size + 1, 14, none⟩ = some (.slice b.A5 M.comps.length b.c5)) w' from fun w' h => by
    obtain ⟨jx0, jx1, jx2, jx3, jx4, jx5, jx6, jx7, jx8, jx9, jx10, jx11, jx12, jx13, jx14⟩ := boxCells (blk_below HT6.out.2.2.1 h)
    obtain ⟨jy0, jy1, jy2, jy3, jy4, jy5, jy6, jy7, jy8, jy9, jy10, jy11, jy12, jy13, jy14⟩ := boxCells (blk_below HT6.out.2.2.2.1 h)
    exact ⟨h, jx0, jx1, jx2, jx3, jx4, jx5, jx6, jx7, jx8, jx9, jx10, jx11, jx12, jx13, jx14, jy0, jy1, jy2, jy3, jy4, jy5, jy6, jy7, jy8, jy9, jy10, jy11, jy12, jy13, jy14⟩)
  go_region_held3 (fun w' => Below w6.heap.size w6 w' ∧ w'.cell? ⟨w.heap.size, 0, none⟩ = some (.string L.tag) ∧ w'.cell? ⟨w.heap.size, 1, none⟩ = some (.int .i32 L.s0) ∧ w'.cell? ⟨w.heap.size, 2, none⟩ = some (.int .i32 L.s1) ∧ w'.cell? ⟨w.heap.size, 3, none⟩ = some (.int .i32 L.s2) ∧ w'.cell? ⟨w.heap.size, 4, none⟩ = some (.int .i32 L.s3) ∧ w'.cell? ⟨w.heap.size, 5, none⟩ = some (.int .i32 L.s4) ∧ w'.cell? ⟨w.heap.size, 6, none⟩ = some (.int .i32 L.s5) ∧ w'.cell? ⟨w.heap.size, 7, none⟩ = some (.int .i32 L.s6) ∧ w'.cell? ⟨w.heap.size, 8, none⟩ = some (.string L.p0) ∧ w'.cell? ⟨w.heap.size, 9, none⟩ = some (.string L.p1) ∧ w'.cell? ⟨w.heap.size, 10, none⟩ = some (.string L.p2) ∧ w'.cell? ⟨w.heap.size, 11, none⟩ = some (.string L.p3) ∧ w'.cell? ⟨w.heap.size, 12, none⟩ = some (.slice a.A3 L.rules.length a.c3) ∧ w'.cell? ⟨w.heap.size, 13, none⟩ = some (.slice a.A4 L.curs.length a.c4) ∧ w'.cell? ⟨w.heap.size, 14, none⟩ = some (.slice a.A5 L.comps.length a.c5) ∧ w'.cell? ⟨w.heap.size + 1, 0, none⟩ = some (.string M.tag) ∧ w'.cell? ⟨w.heap.size + 1, 1, none⟩ = some (.int .i32 M.s0) ∧ w'.cell? ⟨w.heap.size + 1, 2, none⟩ = some (.int .i32 M.s1) ∧ w'.cell? ⟨w.heap.size + 1, 3, none⟩ = some (.int .i32 M.s2) ∧ w'.cell? ⟨w.heap.size + 1, 4, none⟩ = some (.int .i32 M.s3) ∧ w'.cell? ⟨w.heap.size + 1, 5, none⟩ = some (.int .i32 M.s4) ∧ w'.cell? ⟨w.heap.size + 1, 6, none⟩ = some (.int .i32 M.s5) ∧ w'.cell? ⟨w.heap.size + 1, 7, none⟩ = some (.int .i32 M.s6) ∧ w'.cell? ⟨w.heap.size + 1, 8, none⟩ = some (.string M.p0) ∧ w'.cell? ⟨w.heap.size + 1, 9, none⟩ = some (.string M.p1) ∧ w'.cell? ⟨w.heap.size + 1, 10, none⟩ = some (.string M.p2) ∧ w'.cell? ⟨w.heap.size + 1, 11, none⟩ = some (.string M.p3) ∧ w'.cell? ⟨w.heap.size + 1, 12, none⟩ = some (.slice b.A3 M.rules.length b.c3) ∧ w'.cell? ⟨w.heap.size + 1, 13, none⟩ = some (.slice b.A4 M.curs.length b.c4) ∧ w'.cell? ⟨w.heap.size + 1, 14, none⟩ = some (.slice b.A5 M.comps.length b.c5)) (first | exact HKP.out _ (by first | assumption | exact HBN.out _)) (first | (go_at_call 14; refine (HRO.out _ (by first | assumption | exact HBN.out _ | exact And.left (by assumption))).mono ?_; rintro e wr ⟨rfl, HBr⟩) | (go_at_call 17; refine (HSA.out _ (by first | assumption | exact HBN.out _ | exact And.left (by assumption))).mono ?_; rintro e ws ⟨rfl, HBs⟩))
  all_goals
      go_wp2
      go_ret
      exact ⟨rfl, HT6.out.2.2.2.2.trans (Below.mono (show Below w6.heap.size w6 _ from by assumption) HT6.out.2.2.2.2.size)⟩
end Go.Proofs.Ytmhpcjncngonbaa.Q
