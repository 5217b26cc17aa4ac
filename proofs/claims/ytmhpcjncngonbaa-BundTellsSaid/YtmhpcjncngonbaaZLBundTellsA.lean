/- Texts of this claim, joined; the first one's sentence stands below. -/
import Derived.Test.YtmhpcjncngonbaaZM8
/- What the law BundTells comes to where a locale is not small, or the bytes are many: true. -/
namespace Go.Proofs.Ytmhpcjncngonbaa.Q
open Go.RowKit Go.Proofs.Ytmhpcjncngonbaa.Mine Go.Proofs.YtmhpcjncngonbaaW.PrintWords Go.Proofs.YtmhpcjncngonbaaW.PrintLast Go.Proofs.YtmhpcjncngonbaaW.PrintMore
set_option linter.unusedVariables false
set_option linter.unusedSimpArgs false
set_option maxHeartbeats 32000000 in
set_option maxRecDepth 100000 in
theorem tells_small (L : Loc) (a : Lat) (A : Option Addr) (c : Nat) (b : List Int) (w : World) (hL : LocC L a w) (hT : LocT L) (hr : (Kd.int .u8).C w A b.length b) (hc : b.length ≤ c) (hok : bytesOk b) (hs : smallB L = false) :
    Calls Try.prog 5 #[locV L a, .slice A b.length c] w fun e w' => e = .returned (.bool true) ∧ Below w.heap.size w w' := by
  obtain ⟨A3, c3, A4, c4, A5, c5⟩ := a
  obtain ⟨w1, hw1, hb1, hx1⟩ := new_box L A3 c3 A4 c4 A5 c5 w
  have HO1 := Aside0.mk (show One L ⟨A3, c3, A4, c4, A5, c5⟩ w w1 from ⟨hL.below hb1, hx1, hb1⟩)
  have HC1 := Aside0.mk (Kd.C_below hr hb1)
  have HE1 := Aside0.mk hw1
  have HT := Aside0.mk hT
  have HOK := Aside0.mk hok
  have HCC := Aside0.mk hc
  have HLS := Aside0.mk hL.2.2.2
  have HS := Aside0.mk hs
  clear hs
  clear hL hT hr hc hok hw1 hb1 hx1
  go_enter Try.func5, Try.ntmps5
  go_wp2_with fail
  rw [← HE1.out]
  refine (shown.calls w1).mono ?_
  rintro e w2 ⟨rfl, hb⟩
  have HO2 := Aside0.mk (HO1.out.below hb)
  have HC2 := Aside0.mk (Kd.C_below HC1.out hb)
  obtain ⟨hx0, hx1, hx2, hx3, hx4, hx5, hx6, hx7, hx8, hx9, hx10, hx11, hx12, hx13, hx14⟩ := boxCells HO2.out.2.1
  clear hb
  dsimp only
  go_wp2_with fail
  refine (small.calls L ⟨A3, c3, A4, c4, A5, c5⟩ w2 HO2.out.1 HT.out).mono ?_
  rintro e w3 ⟨rfl, hb⟩
  have HO3 := Aside0.mk (HO2.out.below hb)
  have HC3 := Aside0.mk (Kd.C_below HC2.out hb)
  clear hb hx0 hx1 hx2 hx3 hx4 hx5 hx6 hx7 hx8 hx9 hx10 hx11 hx12 hx13 hx14
  rw [HS.out]
  dsimp only
  go_wp2_with fail
  go_ret
  exact ⟨rfl, HO3.out.2.2⟩
set_option maxHeartbeats 32000000 in
set_option maxRecDepth 100000 in
theorem tells_long (L : Loc) (a : Lat) (A : Option Addr) (c : Nat) (b : List Int) (w : World) (hL : LocC L a w) (hT : LocT L) (hr : (Kd.int .u8).C w A b.length b) (hc : b.length ≤ c) (hok : bytesOk b) (hs : smallB L = true) (hbl : b.length > 10000) :
    Calls Try.prog 5 #[locV L a, .slice A b.length c] w fun e w' => e = .returned (.bool true) ∧ Below w.heap.size w w' := by
  obtain ⟨A3, c3, A4, c4, A5, c5⟩ := a
  obtain ⟨w1, hw1, hb1, hx1⟩ := new_box L A3 c3 A4 c4 A5 c5 w
  have HO1 := Aside0.mk (show One L ⟨A3, c3, A4, c4, A5, c5⟩ w w1 from ⟨hL.below hb1, hx1, hb1⟩)
  have HC1 := Aside0.mk (Kd.C_below hr hb1)
  have HE1 := Aside0.mk hw1
  have HT := Aside0.mk hT
  have HOK := Aside0.mk hok
  have HCC := Aside0.mk hc
  have HLS := Aside0.mk hL.2.2.2
  have HS := Aside0.mk hs
  have HBL := Aside0.mk hbl
  clear hs hbl
  clear hL hT hr hc hok hw1 hb1 hx1
  go_enter Try.func5, Try.ntmps5
  go_wp2_with fail
  rw [← HE1.out]
  refine (shown.calls w1).mono ?_
  rintro e w2 ⟨rfl, hb⟩
  have HO2 := Aside0.mk (HO1.out.below hb)
  have HC2 := Aside0.mk (Kd.C_below HC1.out hb)
  obtain ⟨hx0, hx1, hx2, hx3, hx4, hx5, hx6, hx7, hx8, hx9, hx10, hx11, hx12, hx13, hx14⟩ := boxCells HO2.out.2.1
  clear hb
  dsimp only
  go_wp2_with fail
  refine (small.calls L ⟨A3, c3, A4, c4, A5, c5⟩ w2 HO2.out.1 HT.out).mono ?_
  rintro e w3 ⟨rfl, hb⟩
  have HO3 := Aside0.mk (HO2.out.below hb)
  have HC3 := Aside0.mk (Kd.C_below HC2.out hb)
  clear hb hx0 hx1 hx2 hx3 hx4 hx5 hx6 hx7 hx8 hx9 hx10 hx11 hx12 hx13 hx14
  have hd1 : decide ((b.length : Int) > 10000) = true := decide_eq_true (by have := HBL.out; omega)
  have hd2 : decide (10000 < (b.length : Int)) = true := decide_eq_true (by have := HBL.out; omega)
  rw [HS.out]
  dsimp only
  go_wp2_with fail
  go_ret
  exact ⟨rfl, HO3.out.2.2⟩
end Go.Proofs.Ytmhpcjncngonbaa.Q
