/- Texts of this claim, joined; the first one's sentence stands below. -/
import Derived.Test.YtmhpcjncngonbaaZM8
import Derived.Test.YtmhpcjncngonbaaZPool
/- What the law BundPool comes to where a locale is not small, or no bundle: true. -/
namespace Go.Proofs.Ytmhpcjncngonbaa.Q
open Go.RowKit Go.Proofs.Ytmhpcjncngonbaa.Mine Go.Proofs.YtmhpcjncngonbaaW.PrintWords Go.Proofs.YtmhpcjncngonbaaW.PrintLast Go.Proofs.YtmhpcjncngonbaaW.PrintMore
set_option linter.unusedVariables false
set_option linter.unusedSimpArgs false
theorem S_at {w : World} {A : Option Addr} {T : List ByteArray} (h : Kd.string.C w A T.length T) (i : Nat) (x : ByteArray) (hx : T[i]? = some x) : ∃ ad, A = some ad ∧ w.cell? (ad.add i) = some (.string x) := by
  obtain ⟨hl, he⟩ := List.getElem?_eq_some_iff.1 hx
  obtain ⟨ad, hA, hc⟩ := Kd.at_string h (i : Int) (by omega) (by omega)
  rw [rs_at hl, he, Int.toNat_natCast] at hc
  exact ⟨ad, hA, hc⟩
theorem S_at1 {w : World} {A : Option Addr} {T : List ByteArray} (h : Kd.string.C w A T.length T) (i : Nat) (h0 : 0 < i) (x : ByteArray) (hx : T[i]? = some x) : ∃ ad, A = some ad ∧ w.cell? ⟨ad.block, ad.off + i, none⟩ = some (.string x) := by
  obtain ⟨ad, hA, hc⟩ := S_at h i x hx
  obtain ⟨k, rfl⟩ : ∃ k, i = k + 1 := ⟨i - 1, by omega⟩
  rw [Addr.add_succ'] at hc
  exact ⟨ad, hA, hc⟩
set_option maxHeartbeats 16000000 in
set_option maxRecDepth 100000 in
theorem pool_s0 (L : Loc) (a : Lat) (at_ : Int) (w : World) (hL : LocC L a w) (hT : LocT L) (hat : (Lit.int .i64 at_).wf = true) (hs : smallB L = false) :
    Calls Try.prog 9 #[locV L a, .int .i64 at_] w fun e w' => e = .returned (.bool true) ∧ Below w.heap.size w w' := by
  obtain ⟨A3, c3, A4, c4, A5, c5⟩ := a
  obtain ⟨w1, hw1, hb1, hx1⟩ := new_box L A3 c3 A4 c4 A5 c5 w
  have HO1 := Aside0.mk (show One L ⟨A3, c3, A4, c4, A5, c5⟩ w w1 from ⟨hL.below hb1, hx1, hb1⟩)
  have HE1 := Aside0.mk hw1
  have HT := Aside0.mk hT
  have HS := Aside0.mk hs
  clear hs
  clear hL hT hw1 hb1 hx1 hat
  go_enter Try.func9, Try.ntmps9
  go_wp2_with fail
  rw [← HE1.out]
  refine (shown.calls w1).mono ?_
  rintro e w2 ⟨rfl, hb⟩
  have HO2 := Aside0.mk (HO1.out.below hb)
  obtain ⟨hx0, hx1, hx2, hx3, hx4, hx5, hx6, hx7, hx8, hx9, hx10, hx11, hx12, hx13, hx14⟩ := boxCells HO2.out.2.1
  clear hb
  dsimp only
  go_wp2_with fail
  refine (small.calls L ⟨A3, c3, A4, c4, A5, c5⟩ w2 HO2.out.1 HT.out).mono ?_
  rintro e w3 ⟨rfl, hb⟩
  have HO3 := Aside0.mk (HO2.out.below hb)
  clear hb hx0 hx1 hx2 hx3 hx4 hx5 hx6 hx7 hx8 hx9 hx10 hx11 hx12 hx13 hx14
  rw [HS.out]
  dsimp only
  go_wp2_with fail
  go_ret
  exact ⟨rfl, HO3.out.2.2⟩
set_option maxHeartbeats 16000000 in
set_option maxRecDepth 100000 in
theorem pool_e1 (L : Loc) (a : Lat) (at_ : Int) (w : World) (hL : LocC L a w) (hT : LocT L) (hat : (Lit.int .i64 at_).wf = true) (hs : smallB L = true) (he : ¬ encE L = 0) :
    Calls Try.prog 9 #[locV L a, .int .i64 at_] w fun e w' => e = .returned (.bool true) ∧ Below w.heap.size w w' := by
  obtain ⟨A3, c3, A4, c4, A5, c5⟩ := a
  obtain ⟨w1, hw1, hb1, hx1⟩ := new_box L A3 c3 A4 c4 A5 c5 w
  have HO1 := Aside0.mk (show One L ⟨A3, c3, A4, c4, A5, c5⟩ w w1 from ⟨hL.below hb1, hx1, hb1⟩)
  have HE1 := Aside0.mk hw1
  have HT := Aside0.mk hT
  have HS := Aside0.mk hs
  have HLB := Aside0.mk (small_b hs)
  have HE := Aside0.mk he
  clear hs he
  clear hL hT hw1 hb1 hx1 hat
  go_enter Try.func9, Try.ntmps9
  go_wp2_with fail
  rw [← HE1.out]
  refine (shown.calls w1).mono ?_
  rintro e w2 ⟨rfl, hb⟩
  have HO2 := Aside0.mk (HO1.out.below hb)
  obtain ⟨hx0, hx1, hx2, hx3, hx4, hx5, hx6, hx7, hx8, hx9, hx10, hx11, hx12, hx13, hx14⟩ := boxCells HO2.out.2.1
  clear hb
  dsimp only
  go_wp2_with fail
  refine (small.calls L ⟨A3, c3, A4, c4, A5, c5⟩ w2 HO2.out.1 HT.out).mono ?_
  rintro e w3 ⟨rfl, hb⟩
  have HO3 := Aside0.mk (HO2.out.below hb)
  clear hb hx0 hx1 hx2 hx3 hx4 hx5 hx6 hx7 hx8 hx9 hx10 hx11 hx12 hx13 hx14
  rw [HS.out]
  dsimp only
  obtain ⟨hx0, hx1, hx2, hx3, hx4, hx5, hx6, hx7, hx8, hx9, hx10, hx11, hx12, hx13, hx14⟩ := boxCells HO3.out.2.1
  go_wp2_with fail
  refine (enc_no.calls HLB.out HE.out ⟨A3, c3, A4, c4, A5, c5⟩ w3 HO3.out.1).mono ?_
  rintro e w4 ⟨X, cx, rfl, hb⟩
  have HO4 := Aside0.mk (HO3.out.below hb)
  clear hb hx0 hx1 hx2 hx3 hx4 hx5 hx6 hx7 hx8 hx9 hx10 hx11 hx12 hx13 hx14
  obtain ⟨hx0, hx1, hx2, hx3, hx4, hx5, hx6, hx7, hx8, hx9, hx10, hx11, hx12, hx13, hx14⟩ := boxCells HO4.out.2.1
  have HTX := Aside0.mk (bund_Texts.calls L ⟨A3, c3, A4, c4, A5, c5⟩ w4 HO4.out.1 HLB.out)
  have hT0 : (textsL L)[0]? = some L.tag := rfl
  have hT1 : (textsL L)[1]? = some L.p0 := rfl
  have hT4 : (textsL L)[4]? = some L.p3 := rfl
  have hTl := textsL_len L
  have HTI := Aside0.mk (show ∀ s ∈ textsL L, encE L = 0 → ∃ P Q, encR L = P ++ (bytesOf s ++ Q) from fun s hs h => text_in HLB.out h hs)
  generalize textsL L = T at HTX hT0 hT1 hT4 hTl HTI
  have HT0 := Aside0.mk hT0
  have HT1 := Aside0.mk hT1
  have HT4 := Aside0.mk hT4
  have HTL := Aside0.mk hTl
  clear hT0 hT1 hT4 hTl
  dsimp only
  go_wp2_with fail
  refine HTX.out.mono ?_
  rintro e w5 ⟨v5, rfl, ho, hb⟩
  obtain ⟨A8, c8, hv5⟩ := Kd.R_slice ho
  subst hv5
  have HO5 := Aside0.mk (HO4.out.below hb)
  have HC8 := Aside0.mk (Kd.R_reads' ho).2.2
  clear ho hb hx0 hx1 hx2 hx3 hx4 hx5 hx6 hx7 hx8 hx9 hx10 hx11 hx12 hx13 hx14
  dsimp only
  go_wp2_with fail
  go_ret
  exact ⟨rfl, HO5.out.2.2⟩
end Go.Proofs.Ytmhpcjncngonbaa.Q
