/- Texts of this claim, joined; the first one's sentence stands below. -/
import Derived.Test.YtmhpcjncngonbaaZLBundTellsA
import Derived.Test.YtmhpcjncngonbaaZRefDec
import Derived.Test.YtmhpcjncngonbaaZRTexts
import Derived.Test.YtmhpcjncngonbaaZM4
import Derived.Deep.RegionHeldLaw
/- What the law BundTells comes to: true. -/
namespace Go.Proofs.Ytmhpcjncngonbaa.Q
open Go.RowKit Go.Proofs.Ytmhpcjncngonbaa.Mine Go.Proofs.YtmhpcjncngonbaaW.PrintWords Go.Proofs.YtmhpcjncngonbaaW.PrintLast Go.Proofs.YtmhpcjncngonbaaW.PrintMore
set_option linter.unusedVariables false
set_option linter.unusedSimpArgs false
theorem texts_row.calls (L : Loc) (hL : LocB L) (a : Lat) (w : World) (h : LocC L a w) : Calls Try.prog 21 #[locV L a] w fun e w' => ∃ (P : Option Addr) (q : Nat), e = .returned (.slice P (textsL L).length q) ∧ Kd.string.C w' P (textsL L).length (textsL L) ∧ (textsL L).length ≤ q ∧ Below w.heap.size w w' := by
  refine (bund_Texts.calls L a w h hL).mono ?_
  rintro e w' ⟨v, rfl, ho, hb⟩
  obtain ⟨P, q, hv⟩ := Kd.R_slice ho
  subst hv
  exact ⟨P, q, rfl, (Kd.R_reads' ho).2.2, (Kd.R_reads' ho).2.1, hb⟩
theorem rtexts_row.calls (L : Loc) (hL : LocB L) (a : Lat) (w : World) (h : LocC L a w) : Calls Try.prog 22 #[locV L a] w fun e w' => ∃ (P : Option Addr) (q : Nat), e = .returned (.slice P (textsL L).length q) ∧ Kd.string.C w' P (textsL L).length (textsL L) ∧ (textsL L).length ≤ q ∧ Below w.heap.size w w' := by
  refine (exergueref16_Texts.calls L a w h hL).mono ?_
  rintro e w' ⟨v, rfl, ho, hb⟩
  obtain ⟨P, q, hv⟩ := Kd.R_slice ho
  subst hv
  exact ⟨P, q, rfl, (Kd.R_reads' ho).2.2, (Kd.R_reads' ho).2.1, hb⟩
theorem texts_yes.calls (L : Loc) (hL : LocB L) (P : Option Addr) (q : Nat) (P' : Option Addr) (q' : Nat) (w : World) (h1 : Kd.string.C w P (textsL L).length (textsL L)) (h2 : (textsL L).length ≤ q) (h3 : Kd.string.C w P' (textsL L).length (textsL L)) (h4 : (textsL L).length ≤ q') : Calls Try.prog 20 #[.slice P (textsL L).length q, .slice P' (textsL L).length q'] w fun e w' => e = .returned (.bool true) ∧ Below w.heap.size w w' := by
  have hl : (textsL L).length < 140737488355328 := by have h1 := hL.1; have h2 := hL.2.1; have h3 := hL.2.2; have := textsL_len L; omega
  refine (exergueref09_Texts.calls ((textsL L).length + 1) P q (textsL L) P' q' (textsL L) true w h1 h2 h3 h4 (by rw [Texts_f _ _ hl (Nat.lt_succ_self _), decide_eq_true rfl])).mono ?_
  rintro e w' ⟨rfl, ⟨m, rfl⟩⟩
  exact ⟨rfl, pw_below_drewN (Below.refl _ _) m⟩
set_option maxHeartbeats 32000000 in
set_option maxRecDepth 100000 in
theorem tells_main (L : Loc) (a : Lat) (A : Option Addr) (c : Nat) (b : List Int) (w : World) (hL : LocC L a w) (hT : LocT L) (hr : (Kd.int .u8).C w A b.length b) (hc : b.length ≤ c) (hok : bytesOk b) (hs : smallB L = true) (hbl : b.length ≤ 10000) :
    Calls Try.prog 5 #[locV L a, .slice A b.length c] w fun e w' => e = .returned (.bool true) ∧ Below w.heap.size w w' := by
  obtain ⟨A3, c3, A4, c4, A5, c5⟩ := a
  obtain ⟨w1, hw1, hb1, hx1⟩ := new_box L A3 c3 A4 c4 A5 c5 w
  have HO1 := Aside0.mk (show One L ⟨A3, c3, A4, c4, A5, c5⟩ w w1 from ⟨hL.below hb1, hx1, hb1⟩)
  have HC1 := Aside0.mk (Kd.C_below hr hb1)
  have HE1 := Aside0.mk hw1
  have HT := Aside0.mk hT
  have HOK := Aside0.mk hok
  have HCC := Aside0.mk hc
  have HLS := Aside0.mk hL.2.2.2
  have HLB := Aside0.mk (small_b hs)
  have HS := Aside0.mk hs
  have HBL := Aside0.mk hbl
  clear hs hbl
  clear hL hT hr hc hok hw1 hb1 hx1
  go_enter Try.func5, Try.ntmps5
  go_wp2_with fail
  rw [← HE1.out]
  refine (shown.calls w1).mono ?_
  rintro e w2 ⟨rfl, hb⟩
  have HO2 := Aside0.mk (HO1.out.below hb)
  have HC2 := Aside0.mk (Kd.C_below HC1.out hb)
  obtain ⟨hx0, hx1, hx2, hx3, hx4, hx5, hx6, hx7, hx8, hx9, hx10, hx11, hx12, hx13, hx14⟩ := boxCells HO2.out.2.1
  clear hb
  dsimp only
  go_wp2_with fail
  refine (small.calls L ⟨A3, c3, A4, c4, A5, c5⟩ w2 HO2.out.1 HT.out).mono ?_
  rintro e w3 ⟨rfl, hb⟩
  have HO3 := Aside0.mk (HO2.out.below hb)
  have HC3 := Aside0.mk (Kd.C_below HC2.out hb)
  clear hb hx0 hx1 hx2 hx3 hx4 hx5 hx6 hx7 hx8 hx9 hx10 hx11 hx12 hx13 hx14
  have hd1 : decide ((b.length : Int) > 10000) = false := decide_eq_false (by have := HBL.out; omega)
  have hd2 : decide (10000 < (b.length : Int)) = false := decide_eq_false (by have := HBL.out; omega)
  have HDZ := Aside0.mk (show b.length < 140737488000000 by have := HBL.out; omega)
  have HEN := Aside0.mk (fun (W : World) (h : LocC L ⟨A3, c3, A4, c4, A5, c5⟩ W) => bund_Encode.calls L ⟨A3, c3, A4, c4, A5, c5⟩ W h HLB.out)
  have HRE := Aside0.mk (fun (W : World) (h : LocC L ⟨A3, c3, A4, c4, A5, c5⟩ W) => refEncode.calls L ⟨A3, c3, A4, c4, A5, c5⟩ W h HLB.out)
  have HDE := Aside0.mk (show ∀ (W : World), (Kd.int .u8).C W A b.length b → Calls Try.prog 15 #[.slice A b.length c] W fun e w' => ∃ a, e = .returned (.tuple #[locV (decR b).1 a, .int .i64 (decR b).2]) ∧ LocR (decR b).1 a w' W.heap.size ∧ LocB (decR b).1 ∧ Below W.heap.size W w' from fun W h => decode.calls A c b W h HCC.out HOK.out HDZ.out)
  have HRD := Aside0.mk (show ∀ (W : World), (Kd.int .u8).C W A b.length b → Calls Try.prog 19 #[.slice A b.length c] W fun e w' => ∃ a, e = .returned (.tuple #[locV (decR b).1 a, .int .i64 (decR b).2]) ∧ LocC (decR b).1 a w' ∧ Below W.heap.size W w' from fun W h => refDecode.calls A c b W h HCC.out HOK.out HDZ.out)
  have HRL := Aside0.mk (encR_len HLB.out)
  have HMB := Aside0.mk (dec_b b)
  generalize (decR b).1 = M at HDE HRD HMB
  generalize (decR b).2 = z at HDE HRD
  generalize encR L = rl at HEN HRE HRL
  generalize encE L = ze at HEN HRE
  rw [HS.out]
  obtain ⟨hx0, hx1, hx2, hx3, hx4, hx5, hx6, hx7, hx8, hx9, hx10, hx11, hx12, hx13, hx14⟩ := boxCells HO3.out.2.1
  dsimp only
  go_wp2_with fail
  refine (HEN.out w3 HO3.out.1).mono ?_
  rintro e w4 ⟨v4, rfl, ho, hb⟩
  obtain ⟨X, cx, hv⟩ := Kd.R_slice ho
  subst hv
  have HX4 := Aside0.mk (Kd.R_reads' ho)
  have HO4 := Aside0.mk (HO3.out.below hb)
  have HC4 := Aside0.mk (Kd.C_below HC3.out hb)
  clear hb ho hx0 hx1 hx2 hx3 hx4 hx5 hx6 hx7 hx8 hx9 hx10 hx11 hx12 hx13 hx14
  obtain ⟨hx0, hx1, hx2, hx3, hx4, hx5, hx6, hx7, hx8, hx9, hx10, hx11, hx12, hx13, hx14⟩ := boxCells HO4.out.2.1
  dsimp only
  go_wp2_with fail
  refine (HRE.out w4 HO4.out.1).mono ?_
  rintro e w5 ⟨v5, rfl, ho, hb⟩
  obtain ⟨Y, cy, hv⟩ := Kd.R_slice ho
  subst hv
  have HY5 := Aside0.mk (Kd.R_reads' ho)
  have HX5 := Aside0.mk (Kd.C_below HX4.out.2.2 hb)
  have HO5 := Aside0.mk (HO4.out.below hb)
  have HC5 := Aside0.mk (Kd.C_below HC4.out hb)
  clear hb ho hx0 hx1 hx2 hx3 hx4 hx5 hx6 hx7 hx8 hx9 hx10 hx11 hx12 hx13 hx14
  dsimp only
  go_wp2_with fail
  refine (HDE.out w5 HC5.out).mono ?_
  rintro e w6 ⟨⟨B3, d3, B4, d4, B5, d5⟩, rfl, hM, _, hb⟩
  obtain ⟨w7, hw7, hb7, hy7⟩ := new_box M B3 d3 B4 d4 B5 d5 w6
  have HE7 := Aside0.mk hw7
  have HO7 := Aside0.mk ((HO5.out.below hb).below hb7)
  have HC7 := Aside0.mk (Kd.C_below (Kd.C_below HC5.out hb) hb7)
  have HX7 := Aside0.mk (Kd.C_below (Kd.C_below HX5.out hb) hb7)
  have HY7 := Aside0.mk (Kd.C_below (Kd.C_below HY5.out.2.2 hb) hb7)
  have HM7 := Aside0.mk (hM.c.below hb7)
  have HBY7 := Aside0.mk hy7
  clear hb hM hw7 hb7 hy7
  dsimp only
  go_upto_region 7 with fail
  rw [← HE7.out]
  go_wp2_with fail
  refine (HRD.out w7 HC7.out).mono ?_
  rintro e w8 ⟨⟨D3, f3, D4, f4, D5, f5⟩, rfl, hN, hb⟩
  obtain ⟨w9, hw9, hb9, hz9⟩ := new_box M D3 f3 D4 f4 D5 f5 w8
  have HE9 := Aside0.mk hw9
  have HO9 := Aside0.mk ((HO7.out.below hb).below hb9)
  have HX9 := Aside0.mk (Kd.C_below (Kd.C_below HX7.out hb) hb9)
  have HY9 := Aside0.mk (Kd.C_below (Kd.C_below HY7.out hb) hb9)
  have HM9 := Aside0.mk ((HM7.out.below hb).below hb9)
  have HN9 := Aside0.mk (hN.below hb9)
  have HBY9 := Aside0.mk (blk_below (blk_below HBY7.out hb) hb9)
  have HBZ9 := Aside0.mk hz9
  have HRO := Aside0.mk (fun (W : World) (h : Below w9.heap.size w9 W) => (row_yes.calls X cx Y cy rl W (by have := HRL.out; omega) (Kd.C_below HX9.out h) HX4.out.2.1 (Kd.C_below HY9.out h) HY5.out.2.1).mono (R' := fun e w' => e = .returned (.bool true) ∧ Below w9.heap.size w9 w') (fun e w' hh => ⟨hh.1, h.trans (hh.2.mono h.size)⟩))
  have HSA := Aside0.mk (fun (W : World) (h : Below w9.heap.size w9 W) => (same_yes.calls M HMB.out ⟨B3, d3, B4, d4, B5, d5⟩ ⟨D3, f3, D4, f4, D5, f5⟩ W (HM9.out.below h) (HN9.out.below h)).mono (R' := fun e w' => e = .returned (.bool true) ∧ Below w9.heap.size w9 w') (fun e w' hh => ⟨hh.1, h.trans (hh.2.mono h.size)⟩))
  have HTX := Aside0.mk (fun (W : World) (h : Below w9.heap.size w9 W) => (texts_row.calls L HLB.out ⟨A3, c3, A4, c4, A5, c5⟩ W (HO9.out.1.below h)).mono (R' := fun e w' => ∃ (P : Option Addr) (q : Nat), e = .returned (.slice P (textsL L).length q) ∧ Kd.string.C w' P (textsL L).length (textsL L) ∧ (textsL L).length ≤ q ∧ Below w9.heap.size w9 w') (fun e w' hh => by obtain ⟨P, q, h1, h2, h3, h4⟩ := hh; exact ⟨P, q, h1, h2, h3, h.trans (h4.mono h.size)⟩))
  have HRT := Aside0.mk (fun (W : World) (h : Below w9.heap.size w9 W) => (rtexts_row.calls L HLB.out ⟨A3, c3, A4, c4, A5, c5⟩ W (HO9.out.1.below h)).mono (R' := fun e w' => ∃ (P : Option Addr) (q : Nat), e = .returned (.slice P (textsL L).length q) ∧ Kd.string.C w' P (textsL L).length (textsL L) ∧ (textsL L).length ≤ q ∧ Below W.heap.size W w' ∧ Below w9.heap.size w9 w') (fun e w' hh => by obtain ⟨P, q, h1, h2, h3, h4⟩ := hh; exact ⟨P, q, h1, h2, h3, h4, h.trans (h4.mono h.size)⟩))
  have HTE := Aside0.mk (fun (W : World) (h : Below w9.heap.size w9 W) (P : Option Addr) (q : Nat) (P' : Option Addr) (q' : Nat) (h1 : Kd.string.C W P (textsL L).length (textsL L)) (h2 : (textsL L).length ≤ q) (h3 : Kd.string.C W P' (textsL L).length (textsL L)) (h4 : (textsL L).length ≤ q') => (texts_yes.calls L HLB.out P q P' q' W h1 h2 h3 h4).mono (R' := fun e w' => e = .returned (.bool true) ∧ Below w9.heap.size w9 w') (fun e w' hh => ⟨hh.1, h.trans (hh.2.mono h.size)⟩))
  clear hb hN hw9 hb9 hz9
  generalize textsL L = tx at HTX HRT HTE
  dsimp only
  go_upto_region 8 with fail
  rw [← HE9.out]
  have HKP := Aside0.mk (show ∀ w', Below w9.heap.size w9 w' → (fun w' => Below w9.heap.size w9 w' ∧ w'.cell? ⟨w.heap.size, 0, none⟩ = some (.string L.tag) ∧ w'.cell? ⟨w.heap.size, 1, none⟩ = some (.int .i32 L.s0) ∧ w'.cell? ⟨w.heap.size, 2, none⟩ = some (.int .i32 L.s1) ∧ w'.cell? ⟨w.heap.size, 3, none⟩ = some (.int .i32 L.s2) ∧ w'.cell? ⟨w.heap.size, 4, none⟩ = some (.int .i32 L.s3) ∧ w'.cell? ⟨w.heap.size, 5, none⟩ = some (.int .i32 L.s4) ∧ w'.cell? ⟨w.heap.size, 6, none⟩ = some (.int .i32 L.s5) ∧ w'.cell? ⟨w.heap.size, 7, none⟩ = some (.int .i32 L.s6) ∧ w'.cell? ⟨w.heap.size, 8, none⟩ = some (.string L.p0) ∧ w'.cell? ⟨w.heap.size, 9, none⟩ = some (.string L.p1) ∧ w'.cell? ⟨w.heap.size, 10, none⟩ = some (.string L.p2) ∧ w'.cell? ⟨w.heap.size, 11, none⟩ = some (.string L.p3) ∧ w'.cell? ⟨w.heap.size, 12, none⟩ = some (.slice A3 L.rules.length c3) ∧ w'.cell? ⟨w.heap.size, 13, none⟩ = some (.slice A4 L.curs.length c4) ∧ w'.cell? ⟨w.heap.size, 14, none⟩ = some (.slice A5 L.comps.length c5) ∧ w'.cell? ⟨w6.heap.size, 0, none⟩ = some (.string M.tag) ∧ w'.cell? ⟨w6.heap.size, 1, none⟩ = some (.int .i32 M.s0) ∧ w'.cell? ⟨w6.heap.size, 2, none⟩ = some (.int .i32 M.s1) ∧ w'.cell? ⟨w6.heap.size, 3, none⟩ = some (.int .i32 M.s2) ∧ w'.cell? ⟨w6.heap.size, 4, none⟩ = some (.int .i32 M.s3) ∧ w'.cell? ⟨w6.heap.size, 5, none⟩ = some (.int .i32 M.s4) ∧ w'.cell? ⟨w6.heap.size, 6, none⟩ = some (.int .i32 M.s5) ∧ w'.cell? ⟨w6.heap.size, 7, none⟩ = some (.int .i32 M.s6) ∧ w'.cell? ⟨w6.heap.size, 8, none⟩ = some (.string M.p0) ∧ w'.cell? ⟨w6.heap.size, 9, none⟩ = some (.string M.p1) ∧ w'.cell? ⟨w6.heap.size, 10, none⟩ = some (.string M.p2) ∧ w'.cell? ⟨w6.heap.size, 11, none⟩ = some (.string M.p3) ∧ w'.cell? ⟨w6.heap.size, 12, none⟩ = some (.slice B3 M.rules.length d3) ∧ w'.cell? ⟨w6.heap.size, 13, none⟩ = some (.slice B4 M.curs.length d4) ∧ w'.cell? ⟨w6.heap.size, 14, none⟩ = some (.slice B5 M.comps.length d5) ∧ w'.cell? ⟨w8.heap.size, 0, none⟩ = some (.string M.tag) ∧ w'.cell? ⟨w8.heap.size, 1, none⟩ = some (.int .i32 M.s0) ∧ w'.cell? ⟨w8.heap.size, 2, none⟩ = some (.int .i32 M.s1) ∧ w'.cell? ⟨w8.heap.size, 3, none⟩ = some (.int .i32 M.s2) ∧ w'.cell? ⟨w8.heap.size, 4, none⟩ = some (.int .i32 M.s3) ∧ w'.cell? ⟨w8.heap.size, 5, none⟩ = some (.int .i32 M.s4) ∧ w'.cell? ⟨w8.heap.size, 6, none⟩ = some (.int .i32 M.s5) ∧ w'.cell? ⟨w8.heap.size, 7, none⟩ = some (.int .i32 M.s6) ∧ w'.cell? ⟨w8.heap.size, 8, none⟩ = some (.string M.p0) ∧ w'.cell? ⟨w8.heap.size, 9, none⟩ = some (.string M.p1) ∧ w'.cell? ⟨w8.heap.size, 10, none⟩ = some (.string M.p2) ∧ w'.cell? ⟨w8.heap.size, 11, none⟩ = some (.string M.p3) ∧ w'.cell? ⟨w8.heap.size, 12, none⟩ = some (.slice D3 M.rules.length f3) ∧ w'.cell? ⟨w8.heap.size, 13, none⟩ = some (.slice D4 M.curs.length f4) ∧ w'.cell? ⟨w8.heap.size, 14, none⟩ = some (.slice D5 M.comps.length f5)) w' from fun w' h => by
    obtain ⟨jx0, jx1, jx2, jx3, jx4, jx5, jx6, jx7, jx8, jx9, jx10, jx11, jx12, jx13, jx14⟩ := boxCells (blk_below HO9.out.2.1 h)
    obtain ⟨jy0, jy1, jy2, jy3, jy4, jy5, jy6, jy7, jy8, jy9, jy10, jy11, jy12, jy13, jy14⟩ := boxCells (blk_below HBY9.out h)
    obtain ⟨jz0, jz1, jz2, jz3, jz4, jz5, jz6, jz7, jz8, jz9, jz10, jz11, jz12, jz13, jz14⟩ := boxCells (blk_below HBZ9.out h)
    exact ⟨h, jx0, jx1, jx2, jx3, jx4, jx5, jx6, jx7, jx8, jx9, jx10, jx11, jx12, jx13, jx14, jy0, jy1, jy2, jy3, jy4, jy5, jy6, jy7, jy8, jy9, jy10, jy11, jy12, jy13, jy14, jz0, jz1, jz2, jz3, jz4, jz5, jz6, jz7, jz8, jz9, jz10, jz11, jz12, jz13, jz14⟩)
  have hB9 : Below w9.heap.size w9 w9 := Below.refl _ _
  obtain ⟨hx0, hx1, hx2, hx3, hx4, hx5, hx6, hx7, hx8, hx9, hx10, hx11, hx12, hx13, hx14⟩ := boxCells HO9.out.2.1
  obtain ⟨hy0, hy1, hy2, hy3, hy4, hy5, hy6, hy7, hy8, hy9, hy10, hy11, hy12, hy13, hy14⟩ := boxCells HBY9.out
  obtain ⟨hz0, hz1, hz2, hz3, hz4, hz5, hz6, hz7, hz8, hz9, hz10, hz11, hz12, hz13, hz14⟩ := boxCells HBZ9.out
  as_aux_lemma =>
    go_region_held_law (fun w' => Below w9.heap.size w9 w' ∧ w'.cell? ⟨w.heap.size, 0, none⟩ = some (.string L.tag) ∧ w'.cell? ⟨w.heap.size, 1, none⟩ = some (.int .i32 L.s0) ∧ w'.cell? ⟨w.heap.size, 2, none⟩ = some (.int .i32 L.s1) ∧ w'.cell? ⟨w.heap.size, 3, none⟩ = some (.int .i32 L.s2) ∧ w'.cell? ⟨w.heap.size, 4, none⟩ = some (.int .i32 L.s3) ∧ w'.cell? ⟨w.heap.size, 5, none⟩ = some (.int .i32 L.s4) ∧ w'.cell? ⟨w.heap.size, 6, none⟩ = some (.int .i32 L.s5) ∧ w'.cell? ⟨w.heap.size, 7, none⟩ = some (.int .i32 L.s6) ∧ w'.cell? ⟨w.heap.size, 8, none⟩ = some (.string L.p0) ∧ w'.cell? ⟨w.heap.size, 9, none⟩ = some (.string L.p1) ∧ w'.cell? ⟨w.heap.size, 10, none⟩ = some (.string L.p2) ∧ w'.cell? ⟨w.heap.size, 11, none⟩ = some (.string L.p3) ∧ w'.cell? ⟨w.heap.size, 12, none⟩ = some (.slice A3 L.rules.length c3) ∧ w'.cell? ⟨w.heap.size, 13, none⟩ = some (.slice A4 L.curs.length c4) ∧ w'.cell? ⟨w.heap.size, 14, none⟩ = some (.slice A5 L.comps.length c5) ∧ w'.cell? ⟨w6.heap.size, 0, none⟩ = some (.string M.tag) ∧ w'.cell? ⟨w6.heap.size, 1, none⟩ = some (.int .i32 M.s0) ∧ w'.cell? ⟨w6.heap.size, 2, none⟩ = some (.int .i32 M.s1) ∧ w'.cell? ⟨w6.heap.size, 3, none⟩ = some (.int .i32 M.s2) ∧ w'.cell? ⟨w6.heap.size, 4, none⟩ = some (.int .i32 M.s3) ∧ w'.cell? ⟨w6.heap.size, 5, none⟩ = some (.int .i32 M.s4) ∧ w'.cell? ⟨w6.heap.size, 6, none⟩ = some (.int .i32 M.s5) ∧ w'.cell? ⟨w6.heap.size, 7, none⟩ = some (.int .i32 M.s6) ∧ w'.cell? ⟨w6.heap.size, 8, none⟩ = some (.string M.p0) ∧ w'.cell? ⟨w6.heap.size, 9, none⟩ = some (.string M.p1) ∧ w'.cell? ⟨w6.heap.size, 10, none⟩ = some (.string M.p2) ∧ w'.cell? ⟨w6.heap.size, 11, none⟩ = some (.string M.p3) ∧ w'.cell? ⟨w6.heap.size, 12, none⟩ = some (.slice B3 M.rules.length d3) ∧ w'.cell? ⟨w6.heap.size, 13, none⟩ = some (.slice B4 M.curs.length d4) ∧ w'.cell? ⟨w6.heap.size, 14, none⟩ = some (.slice B5 M.comps.length d5) ∧ w'.cell? ⟨w8.heap.size, 0, none⟩ = some (.string M.tag) ∧ w'.cell? ⟨w8.heap.size, 1, none⟩ = some (.int .i32 M.s0) ∧ w'.cell? ⟨w8.heap.size, 2, none⟩ = some (.int .i32 M.s1) ∧ w'.cell? ⟨w8.heap.size, 3, none⟩ = some (.int .i32 M.s2) ∧ w'.cell? ⟨w8.heap.size, 4, none⟩ = some (.int .i32 M.s3) ∧ w'.cell? ⟨w8.heap.size, 5, none⟩ = some (.int .i32 M.s4) ∧ w'.cell? ⟨w8.heap.size, 6, none⟩ = some (.int .i32 M.s5) ∧ w'.cell? ⟨w8.heap.size, 7, none⟩ = some (.int .i32 M.s6) ∧ w'.cell? ⟨w8.heap.size, 8, none⟩ = some (.string M.p0) ∧ w'.cell? ⟨w8.heap.size, 9, none⟩ = some (.string M.p1) ∧ w'.cell? ⟨w8.heap.size, 10, none⟩ = some (.string M.p2) ∧ w'.cell? ⟨w8.heap.size, 11, none⟩ = some (.string M.p3) ∧ w'.cell? ⟨w8.heap.size, 12, none⟩ = some (.slice D3 M.rules.length f3) ∧ w'.cell? ⟨w8.heap.size, 13, none⟩ = some (.slice D4 M.curs.length f4) ∧ w'.cell? ⟨w8.heap.size, 14, none⟩ = some (.slice D5 M.comps.length f5)) (exact HKP.out _ (by first | assumption | exact below_drew1 (by assumption) | exact And.left (by assumption))) (first | (go_simp; go_at_call 14; refine (HRO.out _ (by first | assumption | exact below_drew1 (by assumption) | exact And.left (by assumption))).mono ?_; rintro e wr ⟨rfl, HBr⟩; dsimp only) | (go_simp; go_at_call 17; refine (HSA.out _ (by first | assumption | exact below_drew1 (by assumption) | exact And.left (by assumption))).mono ?_; rintro e ws ⟨rfl, HBs⟩; dsimp only) | (go_simp; go_at_call 21; refine (HTX.out _ (by first | assumption | exact below_drew1 (by assumption) | exact And.left (by assumption))).mono ?_; rintro e wt ⟨Pt, qt, rfl, HCt, HLt, HBt⟩; have HCT := Aside0.mk HCt; have HLT := Aside0.mk HLt; clear HCt HLt; dsimp only) | (go_simp; go_at_call 22; refine (HRT.out _ (by first | assumption | exact below_drew1 (by assumption) | exact And.left (by assumption))).mono ?_; rintro e wu ⟨Pu, qu, rfl, HCu, HLu, HWu, HBu⟩; have HCT2 := Aside0.mk (Kd.C_below (by first | exact HCT.out | exact Kd.C_drew HCT.out) HWu); have HCU := Aside0.mk HCu; have HLU := Aside0.mk HLu; clear HCu HLu HWu; dsimp only) | (go_simp; go_at_call 20; refine (HTE.out _ (by first | assumption | exact below_drew1 (by assumption) | exact And.left (by assumption)) _ _ _ _ (by first | exact HCT2.out | exact Kd.C_drew HCT2.out) HLT.out (by first | exact HCU.out | exact Kd.C_drew HCU.out) HLU.out).mono ?_; rintro e wv ⟨rfl, HBv⟩; dsimp only))
    all_goals
      go_wp2
      go_ret
      exact ⟨rfl, HO9.out.2.2.trans (Below.mono (show Below w9.heap.size w9 _ from by first | assumption | exact below_drew1 (by assumption)) HO9.out.2.2.size)⟩
theorem bundTells.calls (L : Loc) (a : Lat) (A : Option Addr) (c : Nat) (b : List Int) (w : World) (hL : LocC L a w) (hT : LocT L) (hr : (Kd.int .u8).C w A b.length b) (hc : b.length ≤ c) (hok : bytesOk b) :
    Calls Try.prog 5 #[locV L a, .slice A b.length c] w fun e w' => e = .returned (.bool true) ∧ Below w.heap.size w w' := by
  cases hs : smallB L with
  | false => exact tells_small L a A c b w hL hT hr hc hok hs
  | true =>
    by_cases hbl : b.length > 10000
    · exact tells_long L a A c b w hL hT hr hc hok hs hbl
    · exact tells_main L a A c b w hL hT hr hc hok hs (by omega)
end Go.Proofs.Ytmhpcjncngonbaa.Q
