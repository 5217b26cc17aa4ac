/- Texts of this claim, joined; the first one's sentence stands below. -/
import Derived.Test.YtmhpcjncngonbaaZM8
/- What the law BundBack comes to where there is no bundle: true. -/
namespace Go.Proofs.Ytmhpcjncngonbaa.Q
open Go.RowKit Go.Proofs.Ytmhpcjncngonbaa.Mine Go.Proofs.YtmhpcjncngonbaaW.PrintWords Go.Proofs.YtmhpcjncngonbaaW.PrintLast Go.Proofs.YtmhpcjncngonbaaW.PrintMore
set_option linter.unusedVariables false
set_option linter.unusedSimpArgs false
set_option maxHeartbeats 16000000 in
set_option maxRecDepth 100000 in
theorem back_C0 (L : Loc) (a : Lat) (A : Option Addr) (c : Nat) (b : List Int) (w : World) (hL : LocC L a w) (hT : LocT L) (hr : (Kd.int .u8).C w A b.length b) (hc : b.length ≤ c) (hok : bytesOk b) (hs : smallB L = true) (hbl : b.length ≤ 10000) (he : ¬ encE L = 0) (hg : (decR b).2 = 0) :
    Calls Try.prog 6 #[locV L a, .slice A b.length c] w fun e w' => e = .returned (.bool true) ∧ Below w.heap.size w w' := by
  obtain ⟨A3, c3, A4, c4, A5, c5⟩ := a
  obtain ⟨w1, hw1, hb1, hx1⟩ := new_box L A3 c3 A4 c4 A5 c5 w
  have HO1 := Aside0.mk (show One L ⟨A3, c3, A4, c4, A5, c5⟩ w w1 from ⟨hL.below hb1, hx1, hb1⟩)
  have HC1 := Aside0.mk (Kd.C_below hr hb1)
  have HE1 := Aside0.mk hw1
  have HT := Aside0.mk hT
  have HOK := Aside0.mk hok
  have HCC := Aside0.mk hc
  have HLS := Aside0.mk hL.2.2.2
  have HS := Aside0.mk hs
  have HLB := Aside0.mk (small_b hs)
  have HBL := Aside0.mk hbl
  have HE := Aside0.mk he
  have HG := Aside0.mk hg
  clear hs hbl he hg
  clear hL hT hr hc hok hw1 hb1 hx1
  go_enter Try.func6, Try.ntmps6
  go_wp2_with fail
  rw [← HE1.out]
  refine (shown.calls w1).mono ?_
  rintro e w2 ⟨rfl, hb⟩
  have HO2 := Aside0.mk (HO1.out.below hb)
  have HC2 := Aside0.mk (Kd.C_below HC1.out hb)
  obtain ⟨hx0, hx1, hx2, hx3, hx4, hx5, hx6, hx7, hx8, hx9, hx10, hx11, hx12, hx13, hx14⟩ := boxCells HO2.out.2.1
  clear hb
  dsimp only
  go_wp2_with fail
  refine (small.calls L ⟨A3, c3, A4, c4, A5, c5⟩ w2 HO2.out.1 HT.out).mono ?_
  rintro e w3 ⟨rfl, hb⟩
  have HO3 := Aside0.mk (HO2.out.below hb)
  have HC3 := Aside0.mk (Kd.C_below HC2.out hb)
  clear hb hx0 hx1 hx2 hx3 hx4 hx5 hx6 hx7 hx8 hx9 hx10 hx11 hx12 hx13 hx14
  have hd1 : decide ((b.length : Int) > 10000) = false := decide_eq_false (by have := HBL.out; omega)
  have hd2 : decide (10000 < (b.length : Int)) = false := decide_eq_false (by have := HBL.out; omega)
  have HDZ := Aside0.mk (show b.length < 140737488000000 by have := HBL.out; omega)
  rw [HS.out]
  obtain ⟨hx0, hx1, hx2, hx3, hx4, hx5, hx6, hx7, hx8, hx9, hx10, hx11, hx12, hx13, hx14⟩ := boxCells HO3.out.2.1
  dsimp only
  go_wp2_with fail
  refine (enc_no.calls HLB.out HE.out ⟨A3, c3, A4, c4, A5, c5⟩ w3 HO3.out.1).mono ?_
  rintro e w7 ⟨X, cx, rfl, hb⟩
  have HO7 := Aside0.mk (HO3.out.below hb)
  have HC7 := Aside0.mk (Kd.C_below HC3.out hb)
  clear hb hx0 hx1 hx2 hx3 hx4 hx5 hx6 hx7 hx8 hx9 hx10 hx11 hx12 hx13 hx14
  dsimp only
  go_wp2_with fail
  have HMB := Aside0.mk (dec_bs b)
  have HDB := Aside0.mk (dec_zero (b := b) HG.out)
  have hg : decR b = ((decR b).1, 0) := Prod.ext rfl HG.out
  generalize (decR b).1 = M at hg HMB HDB
  refine (dec_yes.calls hg HOK.out HDZ.out A c _ HC7.out HCC.out).mono ?_
  rintro e w8 ⟨B3, d3, B4, d4, B5, d5, rfl, hM, hb⟩
  obtain ⟨w9, hw9, hb9, hy9⟩ := new_box M B3 d3 B4 d4 B5 d5 w8
  have HE9 := Aside0.mk hw9
  have HO9 := Aside0.mk ((HO7.out.below hb).below hb9)
  have HC9 := Aside0.mk (Kd.C_below (Kd.C_below HC7.out hb) hb9)
  have HM9 := Aside0.mk (hM.below hb9)
  have HY9 := Aside0.mk hy9
  have HEM := Aside0.mk (enc_yes.calls HMB.out.1 HDB.out.1 ⟨B3, d3, B4, d4, B5, d5⟩ w9 HM9.out)
  rw [HDB.out.2] at HEM
  clear hM hb hw9 hb9 hy9 hg
  dsimp only
  go_upto_region 10 with fail
  rw [← HE9.out]
  obtain ⟨hy0, hy1, hy2, hy3, hy4, hy5, hy6, hy7, hy8, hy9a, hy10, hy11, hy12, hy13, hy14⟩ := boxCells HY9.out
  go_wp2_with fail
  refine HEM.out.mono ?_
  rintro e w10 ⟨Y, cy, rfl, hcy, hly, hb⟩
  have HO10 := Aside0.mk (HO9.out.below hb)
  have HROW := Aside0.mk (row_yes.calls Y cy A c b w10 (by have := HDZ.out; omega) hcy hly (Kd.C_below HC9.out hb) HCC.out)
  clear hcy hb hy0 hy1 hy2 hy3 hy4 hy5 hy6 hy7 hy8 hy9a hy10 hy11 hy12 hy13 hy14
  dsimp only
  go_wp2_with fail
  refine HROW.out.mono ?_
  rintro e w11 ⟨rfl, hb⟩
  have HO11 := Aside0.mk (HO10.out.below hb)
  clear hb
  dsimp only
  go_wp2
  go_ret
  exact ⟨rfl, HO11.out.2.2⟩
set_option maxHeartbeats 16000000 in
set_option maxRecDepth 100000 in
theorem back_C1 (L : Loc) (a : Lat) (A : Option Addr) (c : Nat) (b : List Int) (w : World) (hL : LocC L a w) (hT : LocT L) (hr : (Kd.int .u8).C w A b.length b) (hc : b.length ≤ c) (hok : bytesOk b) (hs : smallB L = true) (hbl : b.length ≤ 10000) (he : ¬ encE L = 0) (hg : (decR b).2 ≠ 0) :
    Calls Try.prog 6 #[locV L a, .slice A b.length c] w fun e w' => e = .returned (.bool true) ∧ Below w.heap.size w w' := by
  obtain ⟨A3, c3, A4, c4, A5, c5⟩ := a
  obtain ⟨w1, hw1, hb1, hx1⟩ := new_box L A3 c3 A4 c4 A5 c5 w
  have HO1 := Aside0.mk (show One L ⟨A3, c3, A4, c4, A5, c5⟩ w w1 from ⟨hL.below hb1, hx1, hb1⟩)
  have HC1 := Aside0.mk (Kd.C_below hr hb1)
  have HE1 := Aside0.mk hw1
  have HT := Aside0.mk hT
  have HOK := Aside0.mk hok
  have HCC := Aside0.mk hc
  have HLS := Aside0.mk hL.2.2.2
  have HS := Aside0.mk hs
  have HLB := Aside0.mk (small_b hs)
  have HBL := Aside0.mk hbl
  have HE := Aside0.mk he
  have HG := Aside0.mk hg
  clear hs hbl he hg
  clear hL hT hr hc hok hw1 hb1 hx1
  go_enter Try.func6, Try.ntmps6
  go_wp2_with fail
  rw [← HE1.out]
  refine (shown.calls w1).mono ?_
  rintro e w2 ⟨rfl, hb⟩
  have HO2 := Aside0.mk (HO1.out.below hb)
  have HC2 := Aside0.mk (Kd.C_below HC1.out hb)
  obtain ⟨hx0, hx1, hx2, hx3, hx4, hx5, hx6, hx7, hx8, hx9, hx10, hx11, hx12, hx13, hx14⟩ := boxCells HO2.out.2.1
  clear hb
  dsimp only
  go_wp2_with fail
  refine (small.calls L ⟨A3, c3, A4, c4, A5, c5⟩ w2 HO2.out.1 HT.out).mono ?_
  rintro e w3 ⟨rfl, hb⟩
  have HO3 := Aside0.mk (HO2.out.below hb)
  have HC3 := Aside0.mk (Kd.C_below HC2.out hb)
  clear hb hx0 hx1 hx2 hx3 hx4 hx5 hx6 hx7 hx8 hx9 hx10 hx11 hx12 hx13 hx14
  have hd1 : decide ((b.length : Int) > 10000) = false := decide_eq_false (by have := HBL.out; omega)
  have hd2 : decide (10000 < (b.length : Int)) = false := decide_eq_false (by have := HBL.out; omega)
  have HDZ := Aside0.mk (show b.length < 140737488000000 by have := HBL.out; omega)
  rw [HS.out]
  obtain ⟨hx0, hx1, hx2, hx3, hx4, hx5, hx6, hx7, hx8, hx9, hx10, hx11, hx12, hx13, hx14⟩ := boxCells HO3.out.2.1
  dsimp only
  go_wp2_with fail
  refine (enc_no.calls HLB.out HE.out ⟨A3, c3, A4, c4, A5, c5⟩ w3 HO3.out.1).mono ?_
  rintro e w7 ⟨X, cx, rfl, hb⟩
  have HO7 := Aside0.mk (HO3.out.below hb)
  have HC7 := Aside0.mk (Kd.C_below HC3.out hb)
  clear hb hx0 hx1 hx2 hx3 hx4 hx5 hx6 hx7 hx8 hx9 hx10 hx11 hx12 hx13 hx14
  dsimp only
  go_wp2_with fail
  have hz1 : ((decR b).2 == 0) = false := beq_eq_false_iff_ne.2 HG.out
  have hz2 : ((decR b).2 != 0) = true := bne_iff_ne.2 HG.out
  have HDN := Aside0.mk (fun W (h : (Kd.int .u8).C W A b.length b) => dec_no.calls (b := b) rfl HG.out HOK.out HDZ.out A c W h HCC.out)
  generalize (decR b).2 = g at hz1 hz2 HDN
  refine (HDN.out _ HC7.out).mono ?_
  rintro e w8 ⟨B3, d3, B4, d4, B5, d5, rfl, hM, hb⟩
  obtain ⟨w9, hw9, hb9, hy9⟩ := new_box zeroL B3 d3 B4 d4 B5 d5 w8
  have HE9 := Aside0.mk (show w9 = w8.alloc (.cells #[.string ⟨#[]⟩, .int .i32 0, .int .i32 0, .int .i32 0, .int .i32 0, .int .i32 0, .int .i32 0, .int .i32 0, .string ⟨#[]⟩, .string ⟨#[]⟩, .string ⟨#[]⟩, .string ⟨#[]⟩, .slice B3 0 d3, .slice B4 0 d4, .slice B5 0 d5] 29) from hw9)
  have HO9 := Aside0.mk ((HO7.out.below hb).below hb9)
  have HSZ : Aside0 (Calls Try.prog 17 #[locV zeroL ⟨B3, d3, B4, d4, B5, d5⟩, locV zeroL zeroA] w9 fun e w' => e = .returned (.bool true) ∧ Below w9.heap.size w9 w') := Aside0.mk (same_yes.calls zeroL zeroL_b ⟨B3, d3, B4, d4, B5, d5⟩ zeroA w9 (hM.below hb9) (zeroL_c w9))
  have hy9' : w9.heap[w8.heap.size]? = some (.cells (boxF ⟨#[]⟩ (fun _ => 0) (fun _ => ⟨#[]⟩) (.slice B3 0 d3) (.slice B4 0 d4) (.slice B5 0 d5)) 29 (0, 0)) := hy9
  obtain ⟨hy0, hy1, hy2, hy3, hy4, hy5, hy6, hy7, hy8, hy9a, hy10, hy11, hy12, hy13, hy14⟩ := boxFCells hy9'
  clear hM hb hw9 hb9 hy9 hy9'
  dsimp only
  go_upto_region 10 with fail
  simp only [zeroL, List.length_nil]
  rw [← HE9.out]
  go_wp2_with fail
  refine HSZ.out.mono ?_
  rintro e w10 ⟨rfl, hb⟩
  have HO10 := Aside0.mk (HO9.out.below hb)
  clear hb
  dsimp only
  go_wp2
  go_ret
  exact ⟨rfl, HO10.out.2.2⟩
end Go.Proofs.Ytmhpcjncngonbaa.Q
