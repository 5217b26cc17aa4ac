/- Texts of this claim, joined; the first one's sentence stands below. -/
import Derived.Test.YtmhpcjncngonbaaZM8
/- What the law BundApart comes to, way for way: true. -/
namespace Go.Proofs.Ytmhpcjncngonbaa.Q
open Go.RowKit Go.Proofs.Ytmhpcjncngonbaa.Mine Go.Proofs.YtmhpcjncngonbaaW.PrintWords Go.Proofs.YtmhpcjncngonbaaW.PrintLast Go.Proofs.YtmhpcjncngonbaaW.PrintMore
set_option linter.unusedVariables false
set_option linter.unusedSimpArgs false
theorem Two.below {L M : Loc} {a b : Lat} {w w1 w2 : World} (h : Two L M a b w w1) (hb : Below w1.heap.size w1 w2) : Two L M a b w w2 :=
  ⟨h.1.below hb, h.2.1.below hb, blk_below h.2.2.1 hb, blk_below h.2.2.2.1 hb, h.2.2.2.2.trans (hb.mono h.2.2.2.2.size)⟩
set_option maxHeartbeats 16000000 in
set_option maxRecDepth 100000 in
theorem apart_s0 (L : Loc) (a : Lat) (M : Loc) (b : Lat) (w : World) (hL : LocC L a w) (hT : LocT L) (hM : LocC M b w) (hU : LocT M) (hs : smallB L = false) :
    Calls Try.prog 8 #[locV L a, locV M b] w fun e w' => e = .returned (.bool true) ∧ Below w.heap.size w w' := by
  obtain ⟨w1, hw1⟩ : ∃ w1, w1 = (w.alloc (.cells (boxL L a) 29)).alloc (.cells (boxL M b) 29) := ⟨_, rfl⟩
  have HT1 := Aside0.mk (show Two L M a b w w1 by rw [hw1]; exact Two.start hL hM)
  have HE1 := Aside0.mk hw1
  have HTL := Aside0.mk hT
  have HTM := Aside0.mk hU
  have HLS := Aside0.mk hL.2.2.2
  have HMS := Aside0.mk hM.2.2.2
  have HS := Aside0.mk hs
  clear hs
  clear hL hT hM hU hw1
  go_enter Try.func8, Try.ntmps8
  go_wp2_with fail
  rw [← HE1.out]
  refine (shown.calls w1).mono ?_
  rintro e w2 ⟨rfl, hb⟩
  have HT2 := Aside0.mk (HT1.out.below hb)
  obtain ⟨hx0, hx1, hx2, hx3, hx4, hx5, hx6, hx7, hx8, hx9, hx10, hx11, hx12, hx13, hx14⟩ := boxCells HT2.out.2.2.1
  obtain ⟨hy0, hy1, hy2, hy3, hy4, hy5, hy6, hy7, hy8, hy9, hy10, hy11, hy12, hy13, hy14⟩ := boxCells HT2.out.2.2.2.1
  clear hb
  dsimp only
  go_wp2_with fail
  refine (small.calls L a w2 HT2.out.1 HTL.out).mono ?_
  rintro e w3 ⟨rfl, hb⟩
  have HT3 := Aside0.mk (HT2.out.below hb)
  clear hb hx0 hx1 hx2 hx3 hx4 hx5 hx6 hx7 hx8 hx9 hx10 hx11 hx12 hx13 hx14 hy0 hy1 hy2 hy3 hy4 hy5 hy6 hy7 hy8 hy9 hy10 hy11 hy12 hy13 hy14
  rw [HS.out]
  dsimp only
  go_wp2_with fail
  go_ret
  exact ⟨rfl, HT3.out.2.2.2.2⟩
set_option maxHeartbeats 16000000 in
set_option maxRecDepth 100000 in
theorem apart_s1 (L : Loc) (a : Lat) (M : Loc) (b : Lat) (w : World) (hL : LocC L a w) (hT : LocT L) (hM : LocC M b w) (hU : LocT M) (hs : smallB L = true) (hs2 : smallB M = false) :
    Calls Try.prog 8 #[locV L a, locV M b] w fun e w' => e = .returned (.bool true) ∧ Below w.heap.size w w' := by
  obtain ⟨w1, hw1⟩ : ∃ w1, w1 = (w.alloc (.cells (boxL L a) 29)).alloc (.cells (boxL M b) 29) := ⟨_, rfl⟩
  have HT1 := Aside0.mk (show Two L M a b w w1 by rw [hw1]; exact Two.start hL hM)
  have HE1 := Aside0.mk hw1
  have HTL := Aside0.mk hT
  have HTM := Aside0.mk hU
  have HLS := Aside0.mk hL.2.2.2
  have HMS := Aside0.mk hM.2.2.2
  have HS := Aside0.mk hs
  have HS2 := Aside0.mk hs2
  clear hs hs2
  clear hL hT hM hU hw1
  go_enter Try.func8, Try.ntmps8
  go_wp2_with fail
  rw [← HE1.out]
  refine (shown.calls w1).mono ?_
  rintro e w2 ⟨rfl, hb⟩
  have HT2 := Aside0.mk (HT1.out.below hb)
  obtain ⟨hx0, hx1, hx2, hx3, hx4, hx5, hx6, hx7, hx8, hx9, hx10, hx11, hx12, hx13, hx14⟩ := boxCells HT2.out.2.2.1
  obtain ⟨hy0, hy1, hy2, hy3, hy4, hy5, hy6, hy7, hy8, hy9, hy10, hy11, hy12, hy13, hy14⟩ := boxCells HT2.out.2.2.2.1
  clear hb
  dsimp only
  go_wp2_with fail
  refine (small.calls L a w2 HT2.out.1 HTL.out).mono ?_
  rintro e w3 ⟨rfl, hb⟩
  have HT3 := Aside0.mk (HT2.out.below hb)
  clear hb hx0 hx1 hx2 hx3 hx4 hx5 hx6 hx7 hx8 hx9 hx10 hx11 hx12 hx13 hx14 hy0 hy1 hy2 hy3 hy4 hy5 hy6 hy7 hy8 hy9 hy10 hy11 hy12 hy13 hy14
  rw [HS.out]
  dsimp only
  obtain ⟨hx0, hx1, hx2, hx3, hx4, hx5, hx6, hx7, hx8, hx9, hx10, hx11, hx12, hx13, hx14⟩ := boxCells HT3.out.2.2.1
  obtain ⟨hy0, hy1, hy2, hy3, hy4, hy5, hy6, hy7, hy8, hy9, hy10, hy11, hy12, hy13, hy14⟩ := boxCells HT3.out.2.2.2.1
  go_wp2_with fail
  refine (small.calls M b w3 HT3.out.2.1 HTM.out).mono ?_
  rintro e w4 ⟨rfl, hb⟩
  have HT4 := Aside0.mk (HT3.out.below hb)
  clear hb hx0 hx1 hx2 hx3 hx4 hx5 hx6 hx7 hx8 hx9 hx10 hx11 hx12 hx13 hx14 hy0 hy1 hy2 hy3 hy4 hy5 hy6 hy7 hy8 hy9 hy10 hy11 hy12 hy13 hy14
  rw [HS2.out]
  dsimp only
  go_wp2_with fail
  go_ret
  exact ⟨rfl, HT4.out.2.2.2.2⟩
set_option maxHeartbeats 16000000 in
set_option maxRecDepth 100000 in
theorem apart_e1 (L : Loc) (a : Lat) (M : Loc) (b : Lat) (w : World) (hL : LocC L a w) (hT : LocT L) (hM : LocC M b w) (hU : LocT M) (hs : smallB L = true) (hs2 : smallB M = true) (he : ¬ encE L = 0) :
    Calls Try.prog 8 #[locV L a, locV M b] w fun e w' => e = .returned (.bool true) ∧ Below w.heap.size w w' := by
  obtain ⟨w1, hw1⟩ : ∃ w1, w1 = (w.alloc (.cells (boxL L a) 29)).alloc (.cells (boxL M b) 29) := ⟨_, rfl⟩
  have HT1 := Aside0.mk (show Two L M a b w w1 by rw [hw1]; exact Two.start hL hM)
  have HE1 := Aside0.mk hw1
  have HTL := Aside0.mk hT
  have HTM := Aside0.mk hU
  have HLS := Aside0.mk hL.2.2.2
  have HMS := Aside0.mk hM.2.2.2
  have HS := Aside0.mk hs
  have HS2 := Aside0.mk hs2
  have HLB := Aside0.mk (small_b hs)
  have HMB := Aside0.mk (small_b hs2)
  have HE := Aside0.mk he
  clear hs hs2 he
  clear hL hT hM hU hw1
  go_enter Try.func8, Try.ntmps8
  go_wp2_with fail
  rw [← HE1.out]
  refine (shown.calls w1).mono ?_
  rintro e w2 ⟨rfl, hb⟩
  have HT2 := Aside0.mk (HT1.out.below hb)
  obtain ⟨hx0, hx1, hx2, hx3, hx4, hx5, hx6, hx7, hx8, hx9, hx10, hx11, hx12, hx13, hx14⟩ := boxCells HT2.out.2.2.1
  obtain ⟨hy0, hy1, hy2, hy3, hy4, hy5, hy6, hy7, hy8, hy9, hy10, hy11, hy12, hy13, hy14⟩ := boxCells HT2.out.2.2.2.1
  clear hb
  dsimp only
  go_wp2_with fail
  refine (small.calls L a w2 HT2.out.1 HTL.out).mono ?_
  rintro e w3 ⟨rfl, hb⟩
  have HT3 := Aside0.mk (HT2.out.below hb)
  clear hb hx0 hx1 hx2 hx3 hx4 hx5 hx6 hx7 hx8 hx9 hx10 hx11 hx12 hx13 hx14 hy0 hy1 hy2 hy3 hy4 hy5 hy6 hy7 hy8 hy9 hy10 hy11 hy12 hy13 hy14
  rw [HS.out]
  dsimp only
  obtain ⟨hx0, hx1, hx2, hx3, hx4, hx5, hx6, hx7, hx8, hx9, hx10, hx11, hx12, hx13, hx14⟩ := boxCells HT3.out.2.2.1
  obtain ⟨hy0, hy1, hy2, hy3, hy4, hy5, hy6, hy7, hy8, hy9, hy10, hy11, hy12, hy13, hy14⟩ := boxCells HT3.out.2.2.2.1
  go_wp2_with fail
  refine (small.calls M b w3 HT3.out.2.1 HTM.out).mono ?_
  rintro e w4 ⟨rfl, hb⟩
  have HT4 := Aside0.mk (HT3.out.below hb)
  clear hb hx0 hx1 hx2 hx3 hx4 hx5 hx6 hx7 hx8 hx9 hx10 hx11 hx12 hx13 hx14 hy0 hy1 hy2 hy3 hy4 hy5 hy6 hy7 hy8 hy9 hy10 hy11 hy12 hy13 hy14
  rw [HS2.out]
  dsimp only
  obtain ⟨hx0, hx1, hx2, hx3, hx4, hx5, hx6, hx7, hx8, hx9, hx10, hx11, hx12, hx13, hx14⟩ := boxCells HT4.out.2.2.1
  obtain ⟨hy0, hy1, hy2, hy3, hy4, hy5, hy6, hy7, hy8, hy9, hy10, hy11, hy12, hy13, hy14⟩ := boxCells HT4.out.2.2.2.1
  go_wp2_with fail
  refine (enc_no.calls HLB.out HE.out a w4 HT4.out.1).mono ?_
  rintro e w5 ⟨X, cx, rfl, hb⟩
  have HT5 := Aside0.mk (HT4.out.below hb)
  clear hb hx0 hx1 hx2 hx3 hx4 hx5 hx6 hx7 hx8 hx9 hx10 hx11 hx12 hx13 hx14 hy0 hy1 hy2 hy3 hy4 hy5 hy6 hy7 hy8 hy9 hy10 hy11 hy12 hy13 hy14
  dsimp only
  obtain ⟨hx0, hx1, hx2, hx3, hx4, hx5, hx6, hx7, hx8, hx9, hx10, hx11, hx12, hx13, hx14⟩ := boxCells HT5.out.2.2.1
  obtain ⟨hy0, hy1, hy2, hy3, hy4, hy5, hy6, hy7, hy8, hy9, hy10, hy11, hy12, hy13, hy14⟩ := boxCells HT5.out.2.2.2.1
  go_wp2_with fail
  refine (bund_Encode.calls M b w5 HT5.out.2.1 HMB.out).mono ?_
  rintro e w6 ⟨v6, rfl, _, hb⟩
  have HT6 := Aside0.mk (HT5.out.below hb)
  clear hb hx0 hx1 hx2 hx3 hx4 hx5 hx6 hx7 hx8 hx9 hx10 hx11 hx12 hx13 hx14 hy0 hy1 hy2 hy3 hy4 hy5 hy6 hy7 hy8 hy9 hy10 hy11 hy12 hy13 hy14
  generalize encE M = f
  dsimp only
  go_wp2_with fail
  go_ret
  exact ⟨rfl, HT6.out.2.2.2.2⟩
set_option maxHeartbeats 16000000 in
set_option maxRecDepth 100000 in
theorem apart_f1 (L : Loc) (a : Lat) (M : Loc) (b : Lat) (w : World) (hL : LocC L a w) (hT : LocT L) (hM : LocC M b w) (hU : LocT M) (hs : smallB L = true) (hs2 : smallB M = true) (he : encE L = 0) (hf : ¬ encE M = 0) :
    Calls Try.prog 8 #[locV L a, locV M b] w fun e w' => e = .returned (.bool true) ∧ Below w.heap.size w w' := by
  obtain ⟨w1, hw1⟩ : ∃ w1, w1 = (w.alloc (.cells (boxL L a) 29)).alloc (.cells (boxL M b) 29) := ⟨_, rfl⟩
  have HT1 := Aside0.mk (show Two L M a b w w1 by rw [hw1]; exact Two.start hL hM)
  have HE1 := Aside0.mk hw1
  have HTL := Aside0.mk hT
  have HTM := Aside0.mk hU
  have HLS := Aside0.mk hL.2.2.2
  have HMS := Aside0.mk hM.2.2.2
  have HS := Aside0.mk hs
  have HS2 := Aside0.mk hs2
  have HLB := Aside0.mk (small_b hs)
  have HMB := Aside0.mk (small_b hs2)
  have HE := Aside0.mk he
  have HF := Aside0.mk hf
  clear hs hs2 he hf
  clear hL hT hM hU hw1
  go_enter Try.func8, Try.ntmps8
  go_wp2_with fail
  rw [← HE1.out]
  refine (shown.calls w1).mono ?_
  rintro e w2 ⟨rfl, hb⟩
  have HT2 := Aside0.mk (HT1.out.below hb)
  obtain ⟨hx0, hx1, hx2, hx3, hx4, hx5, hx6, hx7, hx8, hx9, hx10, hx11, hx12, hx13, hx14⟩ := boxCells HT2.out.2.2.1
  obtain ⟨hy0, hy1, hy2, hy3, hy4, hy5, hy6, hy7, hy8, hy9, hy10, hy11, hy12, hy13, hy14⟩ := boxCells HT2.out.2.2.2.1
  clear hb
  dsimp only
  go_wp2_with fail
  refine (small.calls L a w2 HT2.out.1 HTL.out).mono ?_
  rintro e w3 ⟨rfl, hb⟩
  have HT3 := Aside0.mk (HT2.out.below hb)
  clear hb hx0 hx1 hx2 hx3 hx4 hx5 hx6 hx7 hx8 hx9 hx10 hx11 hx12 hx13 hx14 hy0 hy1 hy2 hy3 hy4 hy5 hy6 hy7 hy8 hy9 hy10 hy11 hy12 hy13 hy14
  rw [HS.out]
  dsimp only
  obtain ⟨hx0, hx1, hx2, hx3, hx4, hx5, hx6, hx7, hx8, hx9, hx10, hx11, hx12, hx13, hx14⟩ := boxCells HT3.out.2.2.1
  obtain ⟨hy0, hy1, hy2, hy3, hy4, hy5, hy6, hy7, hy8, hy9, hy10, hy11, hy12, hy13, hy14⟩ := boxCells HT3.out.2.2.2.1
  go_wp2_with fail
  refine (small.calls M b w3 HT3.out.2.1 HTM.out).mono ?_
  rintro e w4 ⟨rfl, hb⟩
  have HT4 := Aside0.mk (HT3.out.below hb)
  clear hb hx0 hx1 hx2 hx3 hx4 hx5 hx6 hx7 hx8 hx9 hx10 hx11 hx12 hx13 hx14 hy0 hy1 hy2 hy3 hy4 hy5 hy6 hy7 hy8 hy9 hy10 hy11 hy12 hy13 hy14
  rw [HS2.out]
  dsimp only
  obtain ⟨hx0, hx1, hx2, hx3, hx4, hx5, hx6, hx7, hx8, hx9, hx10, hx11, hx12, hx13, hx14⟩ := boxCells HT4.out.2.2.1
  obtain ⟨hy0, hy1, hy2, hy3, hy4, hy5, hy6, hy7, hy8, hy9, hy10, hy11, hy12, hy13, hy14⟩ := boxCells HT4.out.2.2.2.1
  go_wp2_with fail
  refine (enc_yes.calls HLB.out HE.out a w4 HT4.out.1).mono ?_
  rintro e w5 ⟨X, cx, rfl, hcx, hlx, hb⟩
  have HT5 := Aside0.mk (HT4.out.below hb)
  have HCX := Aside0.mk hcx
  have HLX := Aside0.mk hlx
  clear hb hcx hlx hx0 hx1 hx2 hx3 hx4 hx5 hx6 hx7 hx8 hx9 hx10 hx11 hx12 hx13 hx14 hy0 hy1 hy2 hy3 hy4 hy5 hy6 hy7 hy8 hy9 hy10 hy11 hy12 hy13 hy14
  dsimp only
  obtain ⟨hx0, hx1, hx2, hx3, hx4, hx5, hx6, hx7, hx8, hx9, hx10, hx11, hx12, hx13, hx14⟩ := boxCells HT5.out.2.2.1
  obtain ⟨hy0, hy1, hy2, hy3, hy4, hy5, hy6, hy7, hy8, hy9, hy10, hy11, hy12, hy13, hy14⟩ := boxCells HT5.out.2.2.2.1
  go_wp2_with fail
  refine (enc_no.calls HMB.out HF.out b w5 HT5.out.2.1).mono ?_
  rintro e w6 ⟨Y, cy, rfl, hb⟩
  have HT6 := Aside0.mk (HT5.out.below hb)
  clear hb hx0 hx1 hx2 hx3 hx4 hx5 hx6 hx7 hx8 hx9 hx10 hx11 hx12 hx13 hx14 hy0 hy1 hy2 hy3 hy4 hy5 hy6 hy7 hy8 hy9 hy10 hy11 hy12 hy13 hy14
  generalize encR L = rl at *
  dsimp only
  go_wp2_with fail
  go_ret
  exact ⟨rfl, HT6.out.2.2.2.2⟩
end Go.Proofs.Ytmhpcjncngonbaa.Q
