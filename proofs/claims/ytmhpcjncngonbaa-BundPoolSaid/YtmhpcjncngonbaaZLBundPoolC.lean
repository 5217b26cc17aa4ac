/- Texts of this claim, joined; the first one's sentence stands below. -/
import Derived.Test.YtmhpcjncngonbaaZLBundPoolA
import Derived.Deep.QuietTactic
import Derived.BigQuiet
/- What the law BundPool comes to where a place is asked: true. -/
namespace Go.Proofs.Ytmhpcjncngonbaa.Q
open Go.RowKit Go.Proofs.Ytmhpcjncngonbaa.Mine Go.Proofs.YtmhpcjncngonbaaW.PrintWords Go.Proofs.YtmhpcjncngonbaaW.PrintLast Go.Proofs.YtmhpcjncngonbaaW.PrintMore
set_option linter.unusedVariables false
set_option linter.unusedSimpArgs false
set_option maxHeartbeats 16000000 in
set_option maxRecDepth 100000 in
theorem pool_yes1 (L : Loc) (a : Lat) (at_ : Int) (w : World) (hL : LocC L a w) (hT : LocT L) (hat : (Lit.int .i64 at_).wf = true) (hs : smallB L = true) (he : encE L = 0) (hK : 0 ≤ at_ ∧ at_ < ((textsL L).length : Int)) :
    Calls Try.prog 9 #[locV L a, .int .i64 at_] w fun e w' => e = .returned (.bool true) ∧ Below w.heap.size w w' := by
  obtain ⟨A3, c3, A4, c4, A5, c5⟩ := a
  obtain ⟨w1, hw1, hb1, hx1⟩ := new_box L A3 c3 A4 c4 A5 c5 w
  have HO1 := Aside0.mk (show One L ⟨A3, c3, A4, c4, A5, c5⟩ w w1 from ⟨hL.below hb1, hx1, hb1⟩)
  have HE1 := Aside0.mk hw1
  have HT := Aside0.mk hT
  have HS := Aside0.mk hs
  have HLB := Aside0.mk (small_b hs)
  have HE := Aside0.mk he
  have HK := Aside0.mk hK
  clear hs he hK
  clear hL hT hw1 hb1 hx1 hat
  go_enter Try.func9, Try.ntmps9
  go_wp2_with fail
  rw [← HE1.out]
  refine (shown.calls w1).mono ?_
  rintro e w2 ⟨rfl, hb⟩
  have HO2 := Aside0.mk (HO1.out.below hb)
  obtain ⟨hx0, hx1, hx2, hx3, hx4, hx5, hx6, hx7, hx8, hx9, hx10, hx11, hx12, hx13, hx14⟩ := boxCells HO2.out.2.1
  clear hb
  dsimp only
  go_wp2_with fail
  refine (small.calls L ⟨A3, c3, A4, c4, A5, c5⟩ w2 HO2.out.1 HT.out).mono ?_
  rintro e w3 ⟨rfl, hb⟩
  have HO3 := Aside0.mk (HO2.out.below hb)
  clear hb hx0 hx1 hx2 hx3 hx4 hx5 hx6 hx7 hx8 hx9 hx10 hx11 hx12 hx13 hx14
  rw [HS.out]
  dsimp only
  obtain ⟨hx0, hx1, hx2, hx3, hx4, hx5, hx6, hx7, hx8, hx9, hx10, hx11, hx12, hx13, hx14⟩ := boxCells HO3.out.2.1
  go_wp2_with fail
  have HTAG := Aside0.mk (tagL_pool HLB.out HE.out)
  refine (enc_yes.calls HLB.out HE.out ⟨A3, c3, A4, c4, A5, c5⟩ w3 HO3.out.1).mono ?_
  rintro e w4 ⟨X, cx, rfl, hcx, hlx, hb⟩
  have HO4 := Aside0.mk (HO3.out.below hb)
  have HCX := Aside0.mk hcx
  have HLX := Aside0.mk hlx
  have HRL := Aside0.mk (encR_len HLB.out)
  clear hcx hlx
  clear hb hx0 hx1 hx2 hx3 hx4 hx5 hx6 hx7 hx8 hx9 hx10 hx11 hx12 hx13 hx14
  obtain ⟨hx0, hx1, hx2, hx3, hx4, hx5, hx6, hx7, hx8, hx9, hx10, hx11, hx12, hx13, hx14⟩ := boxCells HO4.out.2.1
  have HTX := Aside0.mk (bund_Texts.calls L ⟨A3, c3, A4, c4, A5, c5⟩ w4 HO4.out.1 HLB.out)
  have hT0 : (textsL L)[0]? = some L.tag := rfl
  have hT1 : (textsL L)[1]? = some L.p0 := rfl
  have hT4 : (textsL L)[4]? = some L.p3 := rfl
  have hTl := textsL_len L
  have HTI := Aside0.mk (show ∀ s ∈ textsL L, encE L = 0 → ∃ P Q, encR L = P ++ (bytesOf s ++ Q) from fun s hs h => text_in HLB.out h hs)
  generalize textsL L = T at HK HTX hT0 hT1 hT4 hTl HTI
  have HT0 := Aside0.mk hT0
  have HT1 := Aside0.mk hT1
  have HT4 := Aside0.mk hT4
  have HTL := Aside0.mk hTl
  clear hT0 hT1 hT4 hTl
  dsimp only
  go_wp2_with fail
  refine HTX.out.mono ?_
  rintro e w5 ⟨v5, rfl, ho, hb⟩
  obtain ⟨A8, c8, hv5⟩ := Kd.R_slice ho
  subst hv5
  have HO5 := Aside0.mk (HO4.out.below hb)
  have HC8 := Aside0.mk (Kd.R_reads' ho).2.2
  have HCX5 := Aside0.mk (Kd.C_below HCX.out hb)
  clear ho hb hx0 hx1 hx2 hx3 hx4 hx5 hx6 hx7 hx8 hx9 hx10 hx11 hx12 hx13 hx14
  obtain ⟨hx0, hx1, hx2, hx3, hx4, hx5, hx6, hx7, hx8, hx9, hx10, hx11, hx12, hx13, hx14⟩ := boxCells HO5.out.2.1
  obtain ⟨ad, hA, f0⟩ := S_at HC8.out 0 _ HT0.out
  subst hA
  obtain ⟨ad', hA, f1⟩ := S_at1 HC8.out 1 (by decide) _ HT1.out
  obtain rfl := Option.some.inj hA
  obtain ⟨ad', hA, f4⟩ := S_at1 HC8.out 4 (by decide) _ HT4.out
  obtain rfl := Option.some.inj hA
  have f0 : w5.cell? ad = some (.string L.tag) := f0
  have i0 : ((0 : Int) < (T.length : Int)) = True := eq_true (by have := HTL.out; omega)
  have i0n : (0 < T.length) = True := eq_true (by have := HTL.out; omega)
  have i0m : T ≠ [] := fun h => by have := HTL.out; rw [h] at this; simp only [List.length_nil] at this; omega
  have i1n : (1 < T.length) = True := eq_true (by have := HTL.out; omega)
  have i4n : (4 < T.length) = True := eq_true (by have := HTL.out; omega)
  have i1 : ((1 : Int) < (T.length : Int)) = True := eq_true (by have := HTL.out; omega)
  have i4 : ((4 : Int) < (T.length : Int)) = True := eq_true (by have := HTL.out; omega)
  have j1 : IntKind.i64.wrap (5 + (L.rules.length : Int)) = 5 + (L.rules.length : Int) := by rw [IntKind.wrap_i64]; have := HLB.out.1; omega
  have j2 : IntKind.i64.wrap (2 * (L.curs.length : Int)) = 2 * (L.curs.length : Int) := by rw [IntKind.wrap_i64]; have := HLB.out.2.1; omega
  have j3 : IntKind.i64.wrap (5 + (L.rules.length : Int) + 2 * (L.curs.length : Int)) = 5 + (L.rules.length : Int) + 2 * (L.curs.length : Int) := by rw [IntKind.wrap_i64]; have := HLB.out.1; have := HLB.out.2.1; omega
  have j4 : IntKind.i64.wrap (5 + (L.rules.length : Int) + 2 * (L.curs.length : Int) + (L.comps.length : Int)) = (T.length : Int) := by rw [IntKind.wrap_i64]; have := HLB.out.1; have := HLB.out.2.1; have := HLB.out.2.2; have := HTL.out; omega
  have j5 : ((T.length : Int) != (T.length : Int)) = false := bne_self_eq_false _
  have e1 : (L.tag.toList != L.tag.toList) = false := bne_self_eq_false _
  have e2 : (L.p0.toList != L.p0.toList) = false := bne_self_eq_false _
  have e3 : (L.p3.toList != L.p3.toList) = false := bne_self_eq_false _
  clear hA
  generalize hrl : encR L = rl at HTAG HCX HLX HRL HTI HCX5
  clear hrl
  dsimp only
  go_upto_region 8 with fail
  go_quiet (fail)
  clear j1 j2 j3 j4 j5 i0 i1 i4 i0n i0m i1n i4n f1 f4 f0 e1 e2 e3 hx0 hx1 hx2 hx3 hx4 hx5 hx6 hx7 hx8 hx9 hx10 hx11 hx12 hx13 hx14
  have hbq : Below w5.heap.size w5 (w5.drewN nq) := pw_below_drewN (Below.refl _ _) nq
  obtain ⟨w6, hw6⟩ : ∃ w6, w6 = w5.drewN nq := ⟨_, rfl⟩
  rw [← hw6] at hbq
  have HO6 := Aside0.mk (HO5.out.below hbq)
  have HC86 := Aside0.mk (Kd.C_below HC8.out hbq)
  have HCX6 := Aside0.mk (Kd.C_below HCX5.out hbq)
  go_upto_region 10 with fail
  rw [← hw6]
  clear hw6 hbq
  obtain ⟨hx0, hx1, hx2, hx3, hx4, hx5, hx6, hx7, hx8, hx9, hx10, hx11, hx12, hx13, hx14⟩ := boxCells HO6.out.2.1
  obtain ⟨w7, hw7, hb7, hy7⟩ := new_box L A3 c3 A4 c4 A5 c5 w6
  obtain ⟨w8, hw8⟩ : ∃ w8, w8 = w7.setCell ⟨w6.heap.size, 0, none⟩ (.string L.p0) := ⟨_, rfl⟩
  have hb8 : Below w6.heap.size w6 w8 := by rw [hw8]; exact hb7.setCell (Nat.le_refl _) _
  have HY8 := Aside0.mk (show w8.heap[w6.heap.size]? = some (.cells (boxL (tagL L) ⟨A3, c3, A4, c4, A5, c5⟩) 29 (0, 0)) by rw [hw8]; exact blk_put hy7 0 (.string L.p0) rfl)
  have HE7 := Aside0.mk hw7
  have HE8 := Aside0.mk hw8
  have hz8 : w7.cell? ⟨w.heap.size, 8, none⟩ = some (.string L.p0) := (blk_cell (blk_below HO6.out.2.1 hb7) 8).trans rfl
  have hz0 : w7.cell? ⟨w6.heap.size, 0, none⟩ = some (.string L.tag) := (blk_cell hy7 0).trans rfl
  have hzf := blk_frozen hy7 0
  have HO8 := Aside0.mk (HO6.out.below hb8)
  have HC88 := Aside0.mk (Kd.C_below HC86.out hb8)
  have HCX8 := Aside0.mk (Kd.C_below HCX6.out hb8)
  have HLM : Aside0 (LocC (tagL L) ⟨A3, c3, A4, c4, A5, c5⟩ w8) := Aside0.mk HO8.out.1
  have HEM := Aside0.mk (enc_yes.calls (L := tagL L) HLB.out HTAG.out.1 ⟨A3, c3, A4, c4, A5, c5⟩ w8 HLM.out)
  clear hw7 hb7 hy7 hw8 hb8
  go_upto_region 11 with fail
  rw [← HE7.out]
  go_upto_region 12 with fail
  rw [← HE8.out]
  clear hz8 hz0 hzf
  clear hx0 hx1 hx2 hx3 hx4 hx5 hx6 hx7 hx8 hx9 hx10 hx11 hx12 hx13 hx14
  have hy := boxCells (L := tagL L) (a := ⟨A3, c3, A4, c4, A5, c5⟩) HY8.out
  simp only [tagL] at hy
  obtain ⟨hy0, hy1, hy2, hy3, hy4, hy5, hy6, hy7, hy8, hy9, hy10, hy11, hy12, hy13, hy14⟩ := hy
  go_wp2_with fail
  refine HEM.out.mono ?_
  rintro e w9 ⟨Y, cy, rfl, _, _, hb⟩
  have HO9 := Aside0.mk (HO8.out.below hb)
  have HC89 := Aside0.mk (Kd.C_below HC88.out hb)
  have HCX9 := Aside0.mk (Kd.C_below HCX8.out hb)
  have hle : decide (((encR (tagL L)).length : Int) ≤ (rl.length : Int)) = true := decide_eq_true (by have := HTAG.out.2; omega)
  have hle2 : (encR (tagL L)).length ≤ rl.length := HTAG.out.2
  have hle3 : decide ((encR (tagL L)).length ≤ rl.length) = true := decide_eq_true hle2
  have hle4 : ((encR (tagL L)).length ≤ rl.length) = True := eq_true hle2
  generalize encR (tagL L) = rm at hle hle2 hle3 hle4
  clear hb hy0 hy1 hy2 hy3 hy4 hy5 hy6 hy7 hy8 hy9 hy10 hy11 hy12 hy13 hy14
  dsimp only
  obtain ⟨n, rfl⟩ := Int.eq_ofNat_of_zero_le (show 0 ≤ at_ from HK.out.1)
  have hn : n < T.length := by have := HK.out.2; omega
  have h0 : ¬ (n : Int) < 0 := by omega
  have h1 : ¬ (n : Int) ≥ (T.length : Int) := by omega
  obtain ⟨ad2, hA2, fn⟩ := Kd.at_string HC89.out (n : Int) (by omega) (by omega)
  obtain rfl := Option.some.inj hA2
  have hmem : rdOf ByteArray.empty T (n : Int) ∈ T := by rw [rs_at hn]; exact List.getElem_mem hn
  have HTI2 := Aside0.mk (HTI.out _ hmem HE.out)
  generalize rdOf ByteArray.empty T (n : Int) = sn at fn HTI2
  have fn2 := fn
  rw [Int.toNat_natCast] at fn2
  have hn2 : ((n : Int) < (T.length : Int)) = True := eq_true (by omega)
  clear hmem hA2
  obtain ⟨P, Q, hPQ⟩ := HTI2.out
  have HHO := Aside0.mk (holds.calls X cx rl P Q sn w9 HCX9.out HLX.out hPQ (by have := HRL.out; omega))
  clear hPQ
  go_wp2_with fail
  refine HHO.out.mono ?_
  rintro e w10 ⟨rfl, hb⟩
  have HO10 := Aside0.mk (HO9.out.below hb)
  clear hb
  dsimp only
  go_wp2
  go_ret
  exact ⟨rfl, HO10.out.2.2⟩
end Go.Proofs.Ytmhpcjncngonbaa.Q
