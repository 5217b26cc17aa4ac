/- Texts of this claim, joined; the first one's sentence stands below. -/
import Derived.Test.YtmhpcjncngonbaaZM8
import Derived.Test.YtmhpcjncngonbaaZRefCut
/- What the law BundSections comes to where a locale is not small, or no bundle: true. -/
namespace Go.Proofs.Ytmhpcjncngonbaa.Q
open Go.RowKit Go.Proofs.Ytmhpcjncngonbaa.Mine Go.Proofs.YtmhpcjncngonbaaW.PrintWords Go.Proofs.YtmhpcjncngonbaaW.PrintLast Go.Proofs.YtmhpcjncngonbaaW.PrintMore
set_option linter.unusedVariables false
set_option linter.unusedSimpArgs false
set_option maxHeartbeats 16000000 in
set_option maxRecDepth 100000 in
theorem sec_s0 (L : Loc) (a : Lat) (q : Int) (w : World) (hL : LocC L a w) (hT : LocT L) (hq : (Lit.int .u8 q).wf = true) (hs : smallB L = false) :
    Calls Try.prog 4 #[locV L a, .int .u8 q] w fun e w' => e = .returned (.bool true) ∧ Below w.heap.size w w' := by
  obtain ⟨A3, c3, A4, c4, A5, c5⟩ := a
  obtain ⟨w1, hw1, hb1, hx1⟩ := new_box L A3 c3 A4 c4 A5 c5 w
  have HO1 := Aside0.mk (show One L ⟨A3, c3, A4, c4, A5, c5⟩ w w1 from ⟨hL.below hb1, hx1, hb1⟩)
  have HE1 := Aside0.mk hw1
  have HT := Aside0.mk hT
  have HQ := Aside0.mk hq
  have HS := Aside0.mk hs
  clear hs
  clear hL hT hw1 hb1 hx1 hq
  go_enter Try.func4, Try.ntmps4
  go_wp2_with fail
  rw [← HE1.out]
  refine (shown.calls w1).mono ?_
  rintro e w2 ⟨rfl, hb⟩
  have HO2 := Aside0.mk (HO1.out.below hb)
  obtain ⟨hx0, hx1, hx2, hx3, hx4, hx5, hx6, hx7, hx8, hx9, hx10, hx11, hx12, hx13, hx14⟩ := boxCells HO2.out.2.1
  clear hb
  dsimp only
  go_wp2_with fail
  refine (small.calls L ⟨A3, c3, A4, c4, A5, c5⟩ w2 HO2.out.1 HT.out).mono ?_
  rintro e w3 ⟨rfl, hb⟩
  have HO3 := Aside0.mk (HO2.out.below hb)
  clear hb hx0 hx1 hx2 hx3 hx4 hx5 hx6 hx7 hx8 hx9 hx10 hx11 hx12 hx13 hx14
  rw [HS.out]
  dsimp only
  go_wp2_with fail
  go_ret
  exact ⟨rfl, HO3.out.2.2⟩
set_option maxHeartbeats 16000000 in
set_option maxRecDepth 100000 in
theorem sec_e1 (L : Loc) (a : Lat) (q : Int) (w : World) (hL : LocC L a w) (hT : LocT L) (hq : (Lit.int .u8 q).wf = true) (hs : smallB L = true) (he : ¬ encE L = 0) :
    Calls Try.prog 4 #[locV L a, .int .u8 q] w fun e w' => e = .returned (.bool true) ∧ Below w.heap.size w w' := by
  obtain ⟨A3, c3, A4, c4, A5, c5⟩ := a
  obtain ⟨w1, hw1, hb1, hx1⟩ := new_box L A3 c3 A4 c4 A5 c5 w
  have HO1 := Aside0.mk (show One L ⟨A3, c3, A4, c4, A5, c5⟩ w w1 from ⟨hL.below hb1, hx1, hb1⟩)
  have HE1 := Aside0.mk hw1
  have HT := Aside0.mk hT
  have HQ := Aside0.mk hq
  have HS := Aside0.mk hs
  have HLB := Aside0.mk (small_b hs)
  have HE := Aside0.mk he
  clear hs he
  clear hL hT hw1 hb1 hx1 hq
  go_enter Try.func4, Try.ntmps4
  go_wp2_with fail
  rw [← HE1.out]
  refine (shown.calls w1).mono ?_
  rintro e w2 ⟨rfl, hb⟩
  have HO2 := Aside0.mk (HO1.out.below hb)
  obtain ⟨hx0, hx1, hx2, hx3, hx4, hx5, hx6, hx7, hx8, hx9, hx10, hx11, hx12, hx13, hx14⟩ := boxCells HO2.out.2.1
  clear hb
  dsimp only
  go_wp2_with fail
  refine (small.calls L ⟨A3, c3, A4, c4, A5, c5⟩ w2 HO2.out.1 HT.out).mono ?_
  rintro e w3 ⟨rfl, hb⟩
  have HO3 := Aside0.mk (HO2.out.below hb)
  clear hb hx0 hx1 hx2 hx3 hx4 hx5 hx6 hx7 hx8 hx9 hx10 hx11 hx12 hx13 hx14
  rw [HS.out]
  dsimp only
  obtain ⟨hx0, hx1, hx2, hx3, hx4, hx5, hx6, hx7, hx8, hx9, hx10, hx11, hx12, hx13, hx14⟩ := boxCells HO3.out.2.1
  go_wp2_with fail
  refine (enc_no.calls HLB.out HE.out ⟨A3, c3, A4, c4, A5, c5⟩ w3 HO3.out.1).mono ?_
  rintro e w4 ⟨X, cx, rfl, hb⟩
  have HO4 := Aside0.mk (HO3.out.below hb)
  clear hb hx0 hx1 hx2 hx3 hx4 hx5 hx6 hx7 hx8 hx9 hx10 hx11 hx12 hx13 hx14
  dsimp only
  go_wp2_with fail
  go_ret
  exact ⟨rfl, HO4.out.2.2⟩
end Go.Proofs.Ytmhpcjncngonbaa.Q
