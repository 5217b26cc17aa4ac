/- Texts of this claim, joined; the first one's sentence stands below. -/
import Derived.Test.YtmhpcjncngonbaaZM8
import Derived.Test.YtmhpcjncngonbaaZRefCut
import Derived.Deep.QuietTactic
import Derived.BigQuiet
/- What the law BundHead comes to: true. -/
namespace Go.Proofs.Ytmhpcjncngonbaa.Q
open Go.RowKit Go.Proofs.Ytmhpcjncngonbaa.Mine Go.Proofs.YtmhpcjncngonbaaW.PrintWords Go.Proofs.YtmhpcjncngonbaaW.PrintLast Go.Proofs.YtmhpcjncngonbaaW.PrintMore
set_option linter.unusedVariables false
set_option linter.unusedSimpArgs false
theorem encV.calls {L : Loc} (hL : LocB L) (h : encE L = 0) (a : Lat) (w : World) (hc : LocC L a w) : Calls Try.prog 12 #[locV L a] w fun e w' => ∃ (A : Option Addr) (c : Nat), e = .returned (.tuple #[.slice A (encR L).length c, .int .i64 0]) ∧ Kd.V (Kd.int .u8) 5 w' w'.heap.size (fun _ => True) (.slice A (encR L).length c) (encR L) ∧ Below w.heap.size w w' := by
  refine (bund_Encode.calls L a w hc hL).mono ?_
  rintro e w' ⟨v, rfl, ho, hb⟩
  obtain ⟨A, c, hv⟩ := Kd.R_slice ho
  subst hv
  rw [h]
  exact ⟨A, c, rfl, Kd.R_V ho, hb⟩
set_option maxHeartbeats 16000000 in
set_option maxRecDepth 100000 in
theorem head_s0 (L : Loc) (a : Lat) (w : World) (hL : LocC L a w) (hT : LocT L) (hs : smallB L = false) :
    Calls Try.prog 3 #[locV L a] w fun e w' => e = .returned (.bool true) ∧ Below w.heap.size w w' := by
  obtain ⟨A3, c3, A4, c4, A5, c5⟩ := a
  obtain ⟨w1, hw1, hb1, hx1⟩ := new_box L A3 c3 A4 c4 A5 c5 w
  have HO1 := Aside0.mk (show One L ⟨A3, c3, A4, c4, A5, c5⟩ w w1 from ⟨hL.below hb1, hx1, hb1⟩)
  have HE1 := Aside0.mk hw1
  have HT := Aside0.mk hT
  have HS := Aside0.mk hs
  clear hs
  clear hL hT hw1 hb1 hx1
  go_enter Try.func3, Try.ntmps3
  go_wp2_with fail
  rw [← HE1.out]
  refine (shown.calls w1).mono ?_
  rintro e w2 ⟨rfl, hb⟩
  have HO2 := Aside0.mk (HO1.out.below hb)
  obtain ⟨hx0, hx1, hx2, hx3, hx4, hx5, hx6, hx7, hx8, hx9, hx10, hx11, hx12, hx13, hx14⟩ := boxCells HO2.out.2.1
  clear hb
  dsimp only
  go_wp2_with fail
  refine (small.calls L ⟨A3, c3, A4, c4, A5, c5⟩ w2 HO2.out.1 HT.out).mono ?_
  rintro e w3 ⟨rfl, hb⟩
  have HO3 := Aside0.mk (HO2.out.below hb)
  clear hb hx0 hx1 hx2 hx3 hx4 hx5 hx6 hx7 hx8 hx9 hx10 hx11 hx12 hx13 hx14
  rw [HS.out]
  dsimp only
  go_wp2_with fail
  go_ret
  exact ⟨rfl, HO3.out.2.2⟩
set_option maxHeartbeats 16000000 in
set_option maxRecDepth 100000 in
theorem head_e1 (L : Loc) (a : Lat) (w : World) (hL : LocC L a w) (hT : LocT L) (hs : smallB L = true) (he : ¬ encE L = 0) :
    Calls Try.prog 3 #[locV L a] w fun e w' => e = .returned (.bool true) ∧ Below w.heap.size w w' := by
  obtain ⟨A3, c3, A4, c4, A5, c5⟩ := a
  obtain ⟨w1, hw1, hb1, hx1⟩ := new_box L A3 c3 A4 c4 A5 c5 w
  have HO1 := Aside0.mk (show One L ⟨A3, c3, A4, c4, A5, c5⟩ w w1 from ⟨hL.below hb1, hx1, hb1⟩)
  have HE1 := Aside0.mk hw1
  have HT := Aside0.mk hT
  have HS := Aside0.mk hs
  have HLB := Aside0.mk (small_b hs)
  have HE := Aside0.mk he
  clear hs he
  clear hL hT hw1 hb1 hx1
  go_enter Try.func3, Try.ntmps3
  go_wp2_with fail
  rw [← HE1.out]
  refine (shown.calls w1).mono ?_
  rintro e w2 ⟨rfl, hb⟩
  have HO2 := Aside0.mk (HO1.out.below hb)
  obtain ⟨hx0, hx1, hx2, hx3, hx4, hx5, hx6, hx7, hx8, hx9, hx10, hx11, hx12, hx13, hx14⟩ := boxCells HO2.out.2.1
  clear hb
  dsimp only
  go_wp2_with fail
  refine (small.calls L ⟨A3, c3, A4, c4, A5, c5⟩ w2 HO2.out.1 HT.out).mono ?_
  rintro e w3 ⟨rfl, hb⟩
  have HO3 := Aside0.mk (HO2.out.below hb)
  clear hb hx0 hx1 hx2 hx3 hx4 hx5 hx6 hx7 hx8 hx9 hx10 hx11 hx12 hx13 hx14
  rw [HS.out]
  dsimp only
  obtain ⟨hx0, hx1, hx2, hx3, hx4, hx5, hx6, hx7, hx8, hx9, hx10, hx11, hx12, hx13, hx14⟩ := boxCells HO3.out.2.1
  go_wp2_with fail
  refine (enc_no.calls HLB.out HE.out ⟨A3, c3, A4, c4, A5, c5⟩ w3 HO3.out.1).mono ?_
  rintro e w4 ⟨X, cx, rfl, hb⟩
  have HO4 := Aside0.mk (HO3.out.below hb)
  clear hb hx0 hx1 hx2 hx3 hx4 hx5 hx6 hx7 hx8 hx9 hx10 hx11 hx12 hx13 hx14
  dsimp only
  go_wp2_with fail
  go_ret
  exact ⟨rfl, HO4.out.2.2⟩
set_option maxHeartbeats 16000000 in
set_option maxRecDepth 100000 in
theorem head_yes (L : Loc) (a : Lat) (w : World) (hL : LocC L a w) (hT : LocT L) (hs : smallB L = true) (he : encE L = 0) :
    Calls Try.prog 3 #[locV L a] w fun e w' => e = .returned (.bool true) ∧ Below w.heap.size w w' := by
  obtain ⟨A3, c3, A4, c4, A5, c5⟩ := a
  obtain ⟨w1, hw1, hb1, hx1⟩ := new_box L A3 c3 A4 c4 A5 c5 w
  have HO1 := Aside0.mk (show One L ⟨A3, c3, A4, c4, A5, c5⟩ w w1 from ⟨hL.below hb1, hx1, hb1⟩)
  have HE1 := Aside0.mk hw1
  have HT := Aside0.mk hT
  have HS := Aside0.mk hs
  have HLB := Aside0.mk (small_b hs)
  have HE := Aside0.mk he
  clear hs he
  clear hL hT hw1 hb1 hx1
  go_enter Try.func3, Try.ntmps3
  go_wp2_with fail
  rw [← HE1.out]
  refine (shown.calls w1).mono ?_
  rintro e w2 ⟨rfl, hb⟩
  have HO2 := Aside0.mk (HO1.out.below hb)
  obtain ⟨hx0, hx1, hx2, hx3, hx4, hx5, hx6, hx7, hx8, hx9, hx10, hx11, hx12, hx13, hx14⟩ := boxCells HO2.out.2.1
  clear hb
  dsimp only
  go_wp2_with fail
  refine (small.calls L ⟨A3, c3, A4, c4, A5, c5⟩ w2 HO2.out.1 HT.out).mono ?_
  rintro e w3 ⟨rfl, hb⟩
  have HO3 := Aside0.mk (HO2.out.below hb)
  clear hb hx0 hx1 hx2 hx3 hx4 hx5 hx6 hx7 hx8 hx9 hx10 hx11 hx12 hx13 hx14
  rw [HS.out]
  dsimp only
  obtain ⟨hx0, hx1, hx2, hx3, hx4, hx5, hx6, hx7, hx8, hx9, hx10, hx11, hx12, hx13, hx14⟩ := boxCells HO3.out.2.1
  go_wp2_with fail
  refine (encV.calls HLB.out HE.out ⟨A3, c3, A4, c4, A5, c5⟩ w3 HO3.out.1).mono ?_
  rintro e w4 ⟨X, cx, rfl, hV, hb⟩
  have HO4 := Aside0.mk (HO3.out.below hb)
  obtain ⟨x, hx, hR⟩ := enc_zero HE.out
  have hln := enc_len HLB.out hx
  obtain ⟨rest, hrest, _⟩ := enc_head HLB.out hx
  have HT8 := Aside0.mk (show x.take 8 = [69, 88, 76, 66, 0, 1, 0, 6] by rw [hrest]; rfl)
  have HCT := Aside0.mk (exergueref08_Cut.calls (x.length + 13) (fun _ => True) X cx (encR L) x 0 w4 hV (by rw [hR]; exact rCut_c hln.2.2 (by omega) (by omega)))
  have HDIR := Aside0.mk (enc_dir HLB.out hx)
  have HLN := Aside0.mk (show 56 ≤ x.length ∧ x.length < 5000000 from ⟨hln.1, hln.2.1⟩)
  generalize encR L = rl at HCT
  clear hb hV hx hR hln hrest hx0 hx1 hx2 hx3 hx4 hx5 hx6 hx7 hx8 hx9 hx10 hx11 hx12 hx13 hx14
  dsimp only
  go_wp2_with fail
  refine HCT.out.mono ?_
  rintro e w5 ⟨v5, rfl, hV, hb⟩
  obtain ⟨A6, c6, hv5⟩ := Kd.V_slice hV
  subst hv5
  have HO5 := Aside0.mk (HO4.out.below hb)
  have HC5 := Aside0.mk (Kd.V_reads' hV).2.2
  have HK5 := Aside0.mk (Kd.V_reads' hV).2.1
  have hl1 : decide ((x.length : Int) < 56) = false := decide_eq_false (by have := HLN.out; omega)
  have hcut := cut_to (P := Try.prog) 32 5 .i64 Try.underlying32 (show Try.prog.info? 5 = some _ from rfl) A6 x.length c6 8 (by decide) (by have := HLN.out; omega) HK5.out
  obtain ⟨w6, hw6⟩ : ∃ w6, w6 = w5.alloc (.cells #[.int .u8 69, .int .u8 88, .int .u8 76, .int .u8 66, .int .u8 0, .int .u8 1, .int .u8 0, .int .u8 6] 5) := ⟨_, rfl⟩
  have hb6 : Below w5.heap.size w5 w6 := by rw [hw6]; exact (Below.refl w5.heap.size w5).alloc (Nat.le_refl _) _
  have HE6 := Aside0.mk hw6
  have HO6 := Aside0.mk (HO5.out.below hb6)
  have HC6 := Aside0.mk (Kd.C_below HC5.out hb6)
  have HRW : Aside0 (Calls Try.prog 14 #[.slice A6 8 c6, .slice (some ⟨w5.heap.size, 0, none⟩) 8 8] w6 fun e w' => e = .returned (.bool true) ∧ Below w6.heap.size w6 w') := Aside0.mk (by
    have h1 := Kd.C_take (m := 8) HC6.out (by have := HLN.out; omega)
    rw [HT8.out] at h1
    have h2 : (Kd.int .u8).C w6 (some ⟨w5.heap.size, 0, none⟩) ([69, 88, 76, 66, 0, 1, 0, 6] : List Int).length [69, 88, 76, 66, 0, 1, 0, 6] := C_block (xs := [69, 88, 76, 66, 0, 1, 0, 6]) (by rw [hw6]; exact blk_new w5 _) rfl (by decide)
    exact row_yes.calls A6 c6 (some ⟨w5.heap.size, 0, none⟩) 8 [69, 88, 76, 66, 0, 1, 0, 6] w6 (by decide) h1 (by have := HLN.out; have := HK5.out; simp only [List.length_cons, List.length_nil]; omega) h2 (by decide))
  clear hb hV hw6 hb6
  dsimp only
  go_wp2_with fail
  rw [← HE6.out]
  refine HRW.out.mono ?_
  rintro e w7 ⟨rfl, hb⟩
  have HB7 := Aside0.mk (HO6.out.below hb).2.2
  have HC7 := Aside0.mk (Kd.C_below HC6.out hb)
  obtain ⟨l0, l1, l2, l3, l4, l5, hd⟩ := HDIR.out
  have HD := Aside0.mk hd
  clear hb hcut hl1 hd
  dsimp only
  go_wp2_with fail
  obtain ⟨t1, ht1⟩ : ∃ t1 : Int, t1 = 56 + l0 := ⟨_, rfl⟩
  obtain ⟨t2, ht2⟩ : ∃ t2 : Int, t2 = 56 + l0 + l1 := ⟨_, rfl⟩
  obtain ⟨t3, ht3⟩ : ∃ t3 : Int, t3 = 56 + l0 + l1 + l2 := ⟨_, rfl⟩
  obtain ⟨t4, ht4⟩ : ∃ t4 : Int, t4 = 56 + l0 + l1 + l2 + l3 := ⟨_, rfl⟩
  obtain ⟨t5, ht5⟩ : ∃ t5 : Int, t5 = 56 + l0 + l1 + l2 + l3 + l4 := ⟨_, rfl⟩
  obtain ⟨t6, ht6⟩ : ∃ t6 : Int, t6 = 56 + l0 + l1 + l2 + l3 + l4 + l5 := ⟨_, rfl⟩
  have HTT := Aside0.mk (⟨ht1, ht2, ht3, ht4, ht5, ht6⟩ : _ ∧ _ ∧ _ ∧ _ ∧ _ ∧ _)
  clear ht1 ht2 ht3 ht4 ht5 ht6
  go_loopg [8, 9] 6 (fun kq v8 v9 w' => (Aside0 (Below w.heap.size w w') ∧ Aside0 ((Kd.int .u8).C w' A6 x.length x)) ∧ ((v9 = .int .i64 0 ∧ v8 = .int .i64 56 ∧ kq = 6) ∨ (v9 = .int .i64 1 ∧ v8 = .int .i64 t1 ∧ kq = 5) ∨ (v9 = .int .i64 2 ∧ v8 = .int .i64 t2 ∧ kq = 4) ∨ (v9 = .int .i64 3 ∧ v8 = .int .i64 t3 ∧ kq = 3) ∨ (v9 = .int .i64 4 ∧ v8 = .int .i64 t4 ∧ kq = 2) ∨ (v9 = .int .i64 5 ∧ v8 = .int .i64 t5 ∧ kq = 1) ∨ (v9 = .int .i64 6 ∧ v8 = .int .i64 t6 ∧ kq = 0)))
  case atStart => exact ⟨⟨HB7, HC7⟩, .inl ⟨rfl, rfl, rfl⟩⟩
  case round =>
    obtain ⟨⟨HB, HC⟩, hrel⟩ := hrel
    rcases hrel with ⟨rfl, rfl, rfl⟩ | ⟨rfl, rfl, rfl⟩ | ⟨rfl, rfl, rfl⟩ | ⟨rfl, rfl, rfl⟩ | ⟨rfl, rfl, rfl⟩ | ⟨rfl, rfl, rfl⟩ | ⟨rfl, rfl, rfl⟩
    · obtain ⟨a0, a1, a2, a3, g0, g1, g2, g3, ra0, ra1, ra2, ra3, ea⟩ := HD.out.1
      obtain ⟨b0, b1, b2, b3, k0, k1, k2, k3, rb0, rb1, rb2, rb3, eb⟩ := HD.out.2.1
      obtain ⟨ad, hA, f0⟩ := C_at1 HC.out 8 (by decide) a0 g0
      subst hA
      have i0 : ((8 : Int) < (x.length : Int)) = True := eq_true (by have := HLN.out; omega)
      obtain ⟨ad', hA, f1⟩ := C_at1 HC.out 9 (by decide) a1 g1
      obtain rfl := Option.some.inj hA
      have i1 : ((9 : Int) < (x.length : Int)) = True := eq_true (by have := HLN.out; omega)
      obtain ⟨ad', hA, f2⟩ := C_at1 HC.out 10 (by decide) a2 g2
      obtain rfl := Option.some.inj hA
      have i2 : ((10 : Int) < (x.length : Int)) = True := eq_true (by have := HLN.out; omega)
      obtain ⟨ad', hA, f3⟩ := C_at1 HC.out 11 (by decide) a3 g3
      obtain rfl := Option.some.inj hA
      have i3 : ((11 : Int) < (x.length : Int)) = True := eq_true (by have := HLN.out; omega)
      obtain ⟨ad', hA, f4⟩ := C_at1 HC.out 12 (by decide) b0 k0
      obtain rfl := Option.some.inj hA
      have i4 : ((12 : Int) < (x.length : Int)) = True := eq_true (by have := HLN.out; omega)
      obtain ⟨ad', hA, f5⟩ := C_at1 HC.out 13 (by decide) b1 k1
      obtain rfl := Option.some.inj hA
      have i5 : ((13 : Int) < (x.length : Int)) = True := eq_true (by have := HLN.out; omega)
      obtain ⟨ad', hA, f6⟩ := C_at1 HC.out 14 (by decide) b2 k2
      obtain rfl := Option.some.inj hA
      have i6 : ((14 : Int) < (x.length : Int)) = True := eq_true (by have := HLN.out; omega)
      obtain ⟨ad', hA, f7⟩ := C_at1 HC.out 15 (by decide) b3 k3
      obtain rfl := Option.some.inj hA
      have i7 : ((15 : Int) < (x.length : Int)) = True := eq_true (by have := HLN.out; omega)
      have HEA := Aside0.mk (show a0 * 16777216 + a1 * 65536 + a2 * 256 + a3 = 56 by have := HTT.out; omega)
      have HEB := Aside0.mk (show b0 * 16777216 + b1 * 65536 + b2 * 256 + b3 = (l0 : Int) from eb)
      have u1 : IntKind.i64.wrap (9 : Int) = 9 := by rw [IntKind.wrap_i64]; rfl
      have u2 : IntKind.i64.wrap (10 : Int) = 10 := by rw [IntKind.wrap_i64]; rfl
      have u3 : IntKind.i64.wrap (11 : Int) = 11 := by rw [IntKind.wrap_i64]; rfl
      have u4 : IntKind.i64.wrap (12 : Int) = 12 := by rw [IntKind.wrap_i64]; rfl
      have u5 : IntKind.i64.wrap (13 : Int) = 13 := by rw [IntKind.wrap_i64]; rfl
      have u6 : IntKind.i64.wrap (14 : Int) = 14 := by rw [IntKind.wrap_i64]; rfl
      have u7 : IntKind.i64.wrap (15 : Int) = 15 := by rw [IntKind.wrap_i64]; rfl
      have ca : IntKind.i64.wrap a0 = a0 ∧ IntKind.i64.wrap a1 = a1 ∧ IntKind.i64.wrap a2 = a2 ∧ IntKind.i64.wrap a3 = a3 ∧ IntKind.i64.wrap (a0 * 16777216) = a0 * 16777216 ∧ IntKind.i64.wrap (a1 * 65536) = a1 * 65536 ∧ IntKind.i64.wrap (a2 * 256) = a2 * 256 ∧ IntKind.i64.wrap (a0 * 16777216 + a1 * 65536) = a0 * 16777216 + a1 * 65536 ∧ IntKind.i64.wrap (a0 * 16777216 + a1 * 65536 + a2 * 256) = a0 * 16777216 + a1 * 65536 + a2 * 256 ∧ IntKind.i64.wrap (a0 * 16777216 + a1 * 65536 + a2 * 256 + a3) = 56 := by
        have := HEA.out
        simp only [IntKind.wrap_i64]
        refine ⟨?_, ?_, ?_, ?_, ?_, ?_, ?_, ?_, ?_, ?_⟩ <;> omega
      obtain ⟨aw0, aw1, aw2, aw3, aw4, aw5, aw6, aw7, aw8, aw9⟩ := ca
      have cb : IntKind.i64.wrap b0 = b0 ∧ IntKind.i64.wrap b1 = b1 ∧ IntKind.i64.wrap b2 = b2 ∧ IntKind.i64.wrap b3 = b3 ∧ IntKind.i64.wrap (b0 * 16777216) = b0 * 16777216 ∧ IntKind.i64.wrap (b1 * 65536) = b1 * 65536 ∧ IntKind.i64.wrap (b2 * 256) = b2 * 256 ∧ IntKind.i64.wrap (b0 * 16777216 + b1 * 65536) = b0 * 16777216 + b1 * 65536 ∧ IntKind.i64.wrap (b0 * 16777216 + b1 * 65536 + b2 * 256) = b0 * 16777216 + b1 * 65536 + b2 * 256 ∧ IntKind.i64.wrap (b0 * 16777216 + b1 * 65536 + b2 * 256 + b3) = (l0 : Int) := by
        have := HEB.out
        simp only [IntKind.wrap_i64]
        refine ⟨?_, ?_, ?_, ?_, ?_, ?_, ?_, ?_, ?_, ?_⟩ <;> omega
      obtain ⟨bw0, bw1, bw2, bw3, bw4, bw5, bw6, bw7, bw8, bw9⟩ := cb
      have HW8 := Aside0.mk (show wrap64 (56 + (l0 : Int)) = t1 by have := HTT.out; have := HD.out.2.2.2.2.2.2.2.2.2.2.2.2; unfold wrap64; omega)
      clear g0 g1 g2 g3 k0 k1 k2 k3 ra0 ra1 ra2 ra3 rb0 rb1 rb2 rb3 ea eb hA
      go_wp2_with fail
      go_quiet (fail)
      clear f0 f1 f2 f3
      go_wp2_with fail
      go_quiet (fail)
      clear f4 f5 f6 f7
      go_wp2
      go_roundg 5
      case measure => decide
      case rel => exact ⟨⟨⟨by first | exact pw_below_drewN HB.out _ | exact pw_below_drewN (pw_below_drewN HB.out _) _⟩, ⟨by first | exact Kd.C_drewN HC.out _ | exact Kd.C_drewN (Kd.C_drewN HC.out _) _⟩⟩, .inr (.inl ⟨rfl, by rw [HW8.out], rfl⟩)⟩
    · obtain ⟨a0, a1, a2, a3, g0, g1, g2, g3, ra0, ra1, ra2, ra3, ea⟩ := HD.out.2.2.1
      obtain ⟨b0, b1, b2, b3, k0, k1, k2, k3, rb0, rb1, rb2, rb3, eb⟩ := HD.out.2.2.2.1
      obtain ⟨ad, hA, f0⟩ := C_at1 HC.out 16 (by decide) a0 g0
      subst hA
      have i0 : ((16 : Int) < (x.length : Int)) = True := eq_true (by have := HLN.out; omega)
      obtain ⟨ad', hA, f1⟩ := C_at1 HC.out 17 (by decide) a1 g1
      obtain rfl := Option.some.inj hA
      have i1 : ((17 : Int) < (x.length : Int)) = True := eq_true (by have := HLN.out; omega)
      obtain ⟨ad', hA, f2⟩ := C_at1 HC.out 18 (by decide) a2 g2
      obtain rfl := Option.some.inj hA
      have i2 : ((18 : Int) < (x.length : Int)) = True := eq_true (by have := HLN.out; omega)
      obtain ⟨ad', hA, f3⟩ := C_at1 HC.out 19 (by decide) a3 g3
      obtain rfl := Option.some.inj hA
      have i3 : ((19 : Int) < (x.length : Int)) = True := eq_true (by have := HLN.out; omega)
      obtain ⟨ad', hA, f4⟩ := C_at1 HC.out 20 (by decide) b0 k0
      obtain rfl := Option.some.inj hA
      have i4 : ((20 : Int) < (x.length : Int)) = True := eq_true (by have := HLN.out; omega)
      obtain ⟨ad', hA, f5⟩ := C_at1 HC.out 21 (by decide) b1 k1
      obtain rfl := Option.some.inj hA
      have i5 : ((21 : Int) < (x.length : Int)) = True := eq_true (by have := HLN.out; omega)
      obtain ⟨ad', hA, f6⟩ := C_at1 HC.out 22 (by decide) b2 k2
      obtain rfl := Option.some.inj hA
      have i6 : ((22 : Int) < (x.length : Int)) = True := eq_true (by have := HLN.out; omega)
      obtain ⟨ad', hA, f7⟩ := C_at1 HC.out 23 (by decide) b3 k3
      obtain rfl := Option.some.inj hA
      have i7 : ((23 : Int) < (x.length : Int)) = True := eq_true (by have := HLN.out; omega)
      have HEA := Aside0.mk (show a0 * 16777216 + a1 * 65536 + a2 * 256 + a3 = t1 by have := HTT.out; omega)
      have HEB := Aside0.mk (show b0 * 16777216 + b1 * 65536 + b2 * 256 + b3 = (l1 : Int) from eb)
      have u1 : IntKind.i64.wrap (17 : Int) = 17 := by rw [IntKind.wrap_i64]; rfl
      have u2 : IntKind.i64.wrap (18 : Int) = 18 := by rw [IntKind.wrap_i64]; rfl
      have u3 : IntKind.i64.wrap (19 : Int) = 19 := by rw [IntKind.wrap_i64]; rfl
      have u4 : IntKind.i64.wrap (20 : Int) = 20 := by rw [IntKind.wrap_i64]; rfl
      have u5 : IntKind.i64.wrap (21 : Int) = 21 := by rw [IntKind.wrap_i64]; rfl
      have u6 : IntKind.i64.wrap (22 : Int) = 22 := by rw [IntKind.wrap_i64]; rfl
      have u7 : IntKind.i64.wrap (23 : Int) = 23 := by rw [IntKind.wrap_i64]; rfl
      have ca : IntKind.i64.wrap a0 = a0 ∧ IntKind.i64.wrap a1 = a1 ∧ IntKind.i64.wrap a2 = a2 ∧ IntKind.i64.wrap a3 = a3 ∧ IntKind.i64.wrap (a0 * 16777216) = a0 * 16777216 ∧ IntKind.i64.wrap (a1 * 65536) = a1 * 65536 ∧ IntKind.i64.wrap (a2 * 256) = a2 * 256 ∧ IntKind.i64.wrap (a0 * 16777216 + a1 * 65536) = a0 * 16777216 + a1 * 65536 ∧ IntKind.i64.wrap (a0 * 16777216 + a1 * 65536 + a2 * 256) = a0 * 16777216 + a1 * 65536 + a2 * 256 ∧ IntKind.i64.wrap (a0 * 16777216 + a1 * 65536 + a2 * 256 + a3) = t1 := by
        have := HEA.out
        simp only [IntKind.wrap_i64]
        refine ⟨?_, ?_, ?_, ?_, ?_, ?_, ?_, ?_, ?_, ?_⟩ <;> omega
      obtain ⟨aw0, aw1, aw2, aw3, aw4, aw5, aw6, aw7, aw8, aw9⟩ := ca
      have cb : IntKind.i64.wrap b0 = b0 ∧ IntKind.i64.wrap b1 = b1 ∧ IntKind.i64.wrap b2 = b2 ∧ IntKind.i64.wrap b3 = b3 ∧ IntKind.i64.wrap (b0 * 16777216) = b0 * 16777216 ∧ IntKind.i64.wrap (b1 * 65536) = b1 * 65536 ∧ IntKind.i64.wrap (b2 * 256) = b2 * 256 ∧ IntKind.i64.wrap (b0 * 16777216 + b1 * 65536) = b0 * 16777216 + b1 * 65536 ∧ IntKind.i64.wrap (b0 * 16777216 + b1 * 65536 + b2 * 256) = b0 * 16777216 + b1 * 65536 + b2 * 256 ∧ IntKind.i64.wrap (b0 * 16777216 + b1 * 65536 + b2 * 256 + b3) = (l1 : Int) := by
        have := HEB.out
        simp only [IntKind.wrap_i64]
        refine ⟨?_, ?_, ?_, ?_, ?_, ?_, ?_, ?_, ?_, ?_⟩ <;> omega
      obtain ⟨bw0, bw1, bw2, bw3, bw4, bw5, bw6, bw7, bw8, bw9⟩ := cb
      have HW8 := Aside0.mk (show wrap64 (t1 + (l1 : Int)) = t2 by have := HTT.out; have := HD.out.2.2.2.2.2.2.2.2.2.2.2.2; unfold wrap64; omega)
      clear g0 g1 g2 g3 k0 k1 k2 k3 ra0 ra1 ra2 ra3 rb0 rb1 rb2 rb3 ea eb hA
      go_wp2_with fail
      go_quiet (fail)
      clear f0 f1 f2 f3
      go_wp2_with fail
      go_quiet (fail)
      clear f4 f5 f6 f7
      go_wp2
      go_roundg 4
      case measure => decide
      case rel => exact ⟨⟨⟨by first | exact pw_below_drewN HB.out _ | exact pw_below_drewN (pw_below_drewN HB.out _) _⟩, ⟨by first | exact Kd.C_drewN HC.out _ | exact Kd.C_drewN (Kd.C_drewN HC.out _) _⟩⟩, .inr (.inr (.inl ⟨rfl, by rw [HW8.out], rfl⟩))⟩
    · obtain ⟨a0, a1, a2, a3, g0, g1, g2, g3, ra0, ra1, ra2, ra3, ea⟩ := HD.out.2.2.2.2.1
      obtain ⟨b0, b1, b2, b3, k0, k1, k2, k3, rb0, rb1, rb2, rb3, eb⟩ := HD.out.2.2.2.2.2.1
      obtain ⟨ad, hA, f0⟩ := C_at1 HC.out 24 (by decide) a0 g0
      subst hA
      have i0 : ((24 : Int) < (x.length : Int)) = True := eq_true (by have := HLN.out; omega)
      obtain ⟨ad', hA, f1⟩ := C_at1 HC.out 25 (by decide) a1 g1
      obtain rfl := Option.some.inj hA
      have i1 : ((25 : Int) < (x.length : Int)) = True := eq_true (by have := HLN.out; omega)
      obtain ⟨ad', hA, f2⟩ := C_at1 HC.out 26 (by decide) a2 g2
      obtain rfl := Option.some.inj hA
      have i2 : ((26 : Int) < (x.length : Int)) = True := eq_true (by have := HLN.out; omega)
      obtain ⟨ad', hA, f3⟩ := C_at1 HC.out 27 (by decide) a3 g3
      obtain rfl := Option.some.inj hA
      have i3 : ((27 : Int) < (x.length : Int)) = True := eq_true (by have := HLN.out; omega)
      obtain ⟨ad', hA, f4⟩ := C_at1 HC.out 28 (by decide) b0 k0
      obtain rfl := Option.some.inj hA
      have i4 : ((28 : Int) < (x.length : Int)) = True := eq_true (by have := HLN.out; omega)
      obtain ⟨ad', hA, f5⟩ := C_at1 HC.out 29 (by decide) b1 k1
      obtain rfl := Option.some.inj hA
      have i5 : ((29 : Int) < (x.length : Int)) = True := eq_true (by have := HLN.out; omega)
      obtain ⟨ad', hA, f6⟩ := C_at1 HC.out 30 (by decide) b2 k2
      obtain rfl := Option.some.inj hA
      have i6 : ((30 : Int) < (x.length : Int)) = True := eq_true (by have := HLN.out; omega)
      obtain ⟨ad', hA, f7⟩ := C_at1 HC.out 31 (by decide) b3 k3
      obtain rfl := Option.some.inj hA
      have i7 : ((31 : Int) < (x.length : Int)) = True := eq_true (by have := HLN.out; omega)
      have HEA := Aside0.mk (show a0 * 16777216 + a1 * 65536 + a2 * 256 + a3 = t2 by have := HTT.out; omega)
      have HEB := Aside0.mk (show b0 * 16777216 + b1 * 65536 + b2 * 256 + b3 = (l2 : Int) from eb)
      have u1 : IntKind.i64.wrap (25 : Int) = 25 := by rw [IntKind.wrap_i64]; rfl
      have u2 : IntKind.i64.wrap (26 : Int) = 26 := by rw [IntKind.wrap_i64]; rfl
      have u3 : IntKind.i64.wrap (27 : Int) = 27 := by rw [IntKind.wrap_i64]; rfl
      have u4 : IntKind.i64.wrap (28 : Int) = 28 := by rw [IntKind.wrap_i64]; rfl
      have u5 : IntKind.i64.wrap (29 : Int) = 29 := by rw [IntKind.wrap_i64]; rfl
      have u6 : IntKind.i64.wrap (30 : Int) = 30 := by rw [IntKind.wrap_i64]; rfl
      have u7 : IntKind.i64.wrap (31 : Int) = 31 := by rw [IntKind.wrap_i64]; rfl
      have ca : IntKind.i64.wrap a0 = a0 ∧ IntKind.i64.wrap a1 = a1 ∧ IntKind.i64.wrap a2 = a2 ∧ IntKind.i64.wrap a3 = a3 ∧ IntKind.i64.wrap (a0 * 16777216) = a0 * 16777216 ∧ IntKind.i64.wrap (a1 * 65536) = a1 * 65536 ∧ IntKind.i64.wrap (a2 * 256) = a2 * 256 ∧ IntKind.i64.wrap (a0 * 16777216 + a1 * 65536) = a0 * 16777216 + a1 * 65536 ∧ IntKind.i64.wrap (a0 * 16777216 + a1 * 65536 + a2 * 256) = a0 * 16777216 + a1 * 65536 + a2 * 256 ∧ IntKind.i64.wrap (a0 * 16777216 + a1 * 65536 + a2 * 256 + a3) = t2 := by
        have := HEA.out
        simp only [IntKind.wrap_i64]
        refine ⟨?_, ?_, ?_, ?_, ?_, ?_, ?_, ?_, ?_, ?_⟩ <;> omega
      obtain ⟨aw0, aw1, aw2, aw3, aw4, aw5, aw6, aw7, aw8, aw9⟩ := ca
      have cb : IntKind.i64.wrap b0 = b0 ∧ IntKind.i64.wrap b1 = b1 ∧ IntKind.i64.wrap b2 = b2 ∧ IntKind.i64.wrap b3 = b3 ∧ IntKind.i64.wrap (b0 * 16777216) = b0 * 16777216 ∧ IntKind.i64.wrap (b1 * 65536) = b1 * 65536 ∧ IntKind.i64.wrap (b2 * 256) = b2 * 256 ∧ IntKind.i64.wrap (b0 * 16777216 + b1 * 65536) = b0 * 16777216 + b1 * 65536 ∧ IntKind.i64.wrap (b0 * 16777216 + b1 * 65536 + b2 * 256) = b0 * 16777216 + b1 * 65536 + b2 * 256 ∧ IntKind.i64.wrap (b0 * 16777216 + b1 * 65536 + b2 * 256 + b3) = (l2 : Int) := by
        have := HEB.out
        simp only [IntKind.wrap_i64]
        refine ⟨?_, ?_, ?_, ?_, ?_, ?_, ?_, ?_, ?_, ?_⟩ <;> omega
      obtain ⟨bw0, bw1, bw2, bw3, bw4, bw5, bw6, bw7, bw8, bw9⟩ := cb
      have HW8 := Aside0.mk (show wrap64 (t2 + (l2 : Int)) = t3 by have := HTT.out; have := HD.out.2.2.2.2.2.2.2.2.2.2.2.2; unfold wrap64; omega)
      clear g0 g1 g2 g3 k0 k1 k2 k3 ra0 ra1 ra2 ra3 rb0 rb1 rb2 rb3 ea eb hA
      go_wp2_with fail
      go_quiet (fail)
      clear f0 f1 f2 f3
      go_wp2_with fail
      go_quiet (fail)
      clear f4 f5 f6 f7
      go_wp2
      go_roundg 3
      case measure => decide
      case rel => exact ⟨⟨⟨by first | exact pw_below_drewN HB.out _ | exact pw_below_drewN (pw_below_drewN HB.out _) _⟩, ⟨by first | exact Kd.C_drewN HC.out _ | exact Kd.C_drewN (Kd.C_drewN HC.out _) _⟩⟩, .inr (.inr (.inr (.inl ⟨rfl, by rw [HW8.out], rfl⟩)))⟩
    · obtain ⟨a0, a1, a2, a3, g0, g1, g2, g3, ra0, ra1, ra2, ra3, ea⟩ := HD.out.2.2.2.2.2.2.1
      obtain ⟨b0, b1, b2, b3, k0, k1, k2, k3, rb0, rb1, rb2, rb3, eb⟩ := HD.out.2.2.2.2.2.2.2.1
      obtain ⟨ad, hA, f0⟩ := C_at1 HC.out 32 (by decide) a0 g0
      subst hA
      have i0 : ((32 : Int) < (x.length : Int)) = True := eq_true (by have := HLN.out; omega)
      obtain ⟨ad', hA, f1⟩ := C_at1 HC.out 33 (by decide) a1 g1
      obtain rfl := Option.some.inj hA
      have i1 : ((33 : Int) < (x.length : Int)) = True := eq_true (by have := HLN.out; omega)
      obtain ⟨ad', hA, f2⟩ := C_at1 HC.out 34 (by decide) a2 g2
      obtain rfl := Option.some.inj hA
      have i2 : ((34 : Int) < (x.length : Int)) = True := eq_true (by have := HLN.out; omega)
      obtain ⟨ad', hA, f3⟩ := C_at1 HC.out 35 (by decide) a3 g3
      obtain rfl := Option.some.inj hA
      have i3 : ((35 : Int) < (x.length : Int)) = True := eq_true (by have := HLN.out; omega)
      obtain ⟨ad', hA, f4⟩ := C_at1 HC.out 36 (by decide) b0 k0
      obtain rfl := Option.some.inj hA
      have i4 : ((36 : Int) < (x.length : Int)) = True := eq_true (by have := HLN.out; omega)
      obtain ⟨ad', hA, f5⟩ := C_at1 HC.out 37 (by decide) b1 k1
      obtain rfl := Option.some.inj hA
      have i5 : ((37 : Int) < (x.length : Int)) = True := eq_true (by have := HLN.out; omega)
      obtain ⟨ad', hA, f6⟩ := C_at1 HC.out 38 (by decide) b2 k2
      obtain rfl := Option.some.inj hA
      have i6 : ((38 : Int) < (x.length : Int)) = True := eq_true (by have := HLN.out; omega)
      obtain ⟨ad', hA, f7⟩ := C_at1 HC.out 39 (by decide) b3 k3
      obtain rfl := Option.some.inj hA
      have i7 : ((39 : Int) < (x.length : Int)) = True := eq_true (by have := HLN.out; omega)
      have HEA := Aside0.mk (show a0 * 16777216 + a1 * 65536 + a2 * 256 + a3 = t3 by have := HTT.out; omega)
      have HEB := Aside0.mk (show b0 * 16777216 + b1 * 65536 + b2 * 256 + b3 = (l3 : Int) from eb)
      have u1 : IntKind.i64.wrap (33 : Int) = 33 := by rw [IntKind.wrap_i64]; rfl
      have u2 : IntKind.i64.wrap (34 : Int) = 34 := by rw [IntKind.wrap_i64]; rfl
      have u3 : IntKind.i64.wrap (35 : Int) = 35 := by rw [IntKind.wrap_i64]; rfl
      have u4 : IntKind.i64.wrap (36 : Int) = 36 := by rw [IntKind.wrap_i64]; rfl
      have u5 : IntKind.i64.wrap (37 : Int) = 37 := by rw [IntKind.wrap_i64]; rfl
      have u6 : IntKind.i64.wrap (38 : Int) = 38 := by rw [IntKind.wrap_i64]; rfl
      have u7 : IntKind.i64.wrap (39 : Int) = 39 := by rw [IntKind.wrap_i64]; rfl
      have ca : IntKind.i64.wrap a0 = a0 ∧ IntKind.i64.wrap a1 = a1 ∧ IntKind.i64.wrap a2 = a2 ∧ IntKind.i64.wrap a3 = a3 ∧ IntKind.i64.wrap (a0 * 16777216) = a0 * 16777216 ∧ IntKind.i64.wrap (a1 * 65536) = a1 * 65536 ∧ IntKind.i64.wrap (a2 * 256) = a2 * 256 ∧ IntKind.i64.wrap (a0 * 16777216 + a1 * 65536) = a0 * 16777216 + a1 * 65536 ∧ IntKind.i64.wrap (a0 * 16777216 + a1 * 65536 + a2 * 256) = a0 * 16777216 + a1 * 65536 + a2 * 256 ∧ IntKind.i64.wrap (a0 * 16777216 + a1 * 65536 + a2 * 256 + a3) = t3 := by
        have := HEA.out
        simp only [IntKind.wrap_i64]
        refine ⟨?_, ?_, ?_, ?_, ?_, ?_, ?_, ?_, ?_, ?_⟩ <;> omega
      obtain ⟨aw0, aw1, aw2, aw3, aw4, aw5, aw6, aw7, aw8, aw9⟩ := ca
      have cb : IntKind.i64.wrap b0 = b0 ∧ IntKind.i64.wrap b1 = b1 ∧ IntKind.i64.wrap b2 = b2 ∧ IntKind.i64.wrap b3 = b3 ∧ IntKind.i64.wrap (b0 * 16777216) = b0 * 16777216 ∧ IntKind.i64.wrap (b1 * 65536) = b1 * 65536 ∧ IntKind.i64.wrap (b2 * 256) = b2 * 256 ∧ IntKind.i64.wrap (b0 * 16777216 + b1 * 65536) = b0 * 16777216 + b1 * 65536 ∧ IntKind.i64.wrap (b0 * 16777216 + b1 * 65536 + b2 * 256) = b0 * 16777216 + b1 * 65536 + b2 * 256 ∧ IntKind.i64.wrap (b0 * 16777216 + b1 * 65536 + b2 * 256 + b3) = (l3 : Int) := by
        have := HEB.out
        simp only [IntKind.wrap_i64]
        refine ⟨?_, ?_, ?_, ?_, ?_, ?_, ?_, ?_, ?_, ?_⟩ <;> omega
      obtain ⟨bw0, bw1, bw2, bw3, bw4, bw5, bw6, bw7, bw8, bw9⟩ := cb
      have HW8 := Aside0.mk (show wrap64 (t3 + (l3 : Int)) = t4 by have := HTT.out; have := HD.out.2.2.2.2.2.2.2.2.2.2.2.2; unfold wrap64; omega)
      clear g0 g1 g2 g3 k0 k1 k2 k3 ra0 ra1 ra2 ra3 rb0 rb1 rb2 rb3 ea eb hA
      go_wp2_with fail
      go_quiet (fail)
      clear f0 f1 f2 f3
      go_wp2_with fail
      go_quiet (fail)
      clear f4 f5 f6 f7
      go_wp2
      go_roundg 2
      case measure => decide
      case rel => exact ⟨⟨⟨by first | exact pw_below_drewN HB.out _ | exact pw_below_drewN (pw_below_drewN HB.out _) _⟩, ⟨by first | exact Kd.C_drewN HC.out _ | exact Kd.C_drewN (Kd.C_drewN HC.out _) _⟩⟩, .inr (.inr (.inr (.inr (.inl ⟨rfl, by rw [HW8.out], rfl⟩))))⟩
    · obtain ⟨a0, a1, a2, a3, g0, g1, g2, g3, ra0, ra1, ra2, ra3, ea⟩ := HD.out.2.2.2.2.2.2.2.2.1
      obtain ⟨b0, b1, b2, b3, k0, k1, k2, k3, rb0, rb1, rb2, rb3, eb⟩ := HD.out.2.2.2.2.2.2.2.2.2.1
      obtain ⟨ad, hA, f0⟩ := C_at1 HC.out 40 (by decide) a0 g0
      subst hA
      have i0 : ((40 : Int) < (x.length : Int)) = True := eq_true (by have := HLN.out; omega)
      obtain ⟨ad', hA, f1⟩ := C_at1 HC.out 41 (by decide) a1 g1
      obtain rfl := Option.some.inj hA
      have i1 : ((41 : Int) < (x.length : Int)) = True := eq_true (by have := HLN.out; omega)
      obtain ⟨ad', hA, f2⟩ := C_at1 HC.out 42 (by decide) a2 g2
      obtain rfl := Option.some.inj hA
      have i2 : ((42 : Int) < (x.length : Int)) = True := eq_true (by have := HLN.out; omega)
      obtain ⟨ad', hA, f3⟩ := C_at1 HC.out 43 (by decide) a3 g3
      obtain rfl := Option.some.inj hA
      have i3 : ((43 : Int) < (x.length : Int)) = True := eq_true (by have := HLN.out; omega)
      obtain ⟨ad', hA, f4⟩ := C_at1 HC.out 44 (by decide) b0 k0
      obtain rfl := Option.some.inj hA
      have i4 : ((44 : Int) < (x.length : Int)) = True := eq_true (by have := HLN.out; omega)
      obtain ⟨ad', hA, f5⟩ := C_at1 HC.out 45 (by decide) b1 k1
      obtain rfl := Option.some.inj hA
      have i5 : ((45 : Int) < (x.length : Int)) = True := eq_true (by have := HLN.out; omega)
      obtain ⟨ad', hA, f6⟩ := C_at1 HC.out 46 (by decide) b2 k2
      obtain rfl := Option.some.inj hA
      have i6 : ((46 : Int) < (x.length : Int)) = True := eq_true (by have := HLN.out; omega)
      obtain ⟨ad', hA, f7⟩ := C_at1 HC.out 47 (by decide) b3 k3
      obtain rfl := Option.some.inj hA
      have i7 : ((47 : Int) < (x.length : Int)) = True := eq_true (by have := HLN.out; omega)
      have HEA := Aside0.mk (show a0 * 16777216 + a1 * 65536 + a2 * 256 + a3 = t4 by have := HTT.out; omega)
      have HEB := Aside0.mk (show b0 * 16777216 + b1 * 65536 + b2 * 256 + b3 = (l4 : Int) from eb)
      have u1 : IntKind.i64.wrap (41 : Int) = 41 := by rw [IntKind.wrap_i64]; rfl
      have u2 : IntKind.i64.wrap (42 : Int) = 42 := by rw [IntKind.wrap_i64]; rfl
      have u3 : IntKind.i64.wrap (43 : Int) = 43 := by rw [IntKind.wrap_i64]; rfl
      have u4 : IntKind.i64.wrap (44 : Int) = 44 := by rw [IntKind.wrap_i64]; rfl
      have u5 : IntKind.i64.wrap (45 : Int) = 45 := by rw [IntKind.wrap_i64]; rfl
      have u6 : IntKind.i64.wrap (46 : Int) = 46 := by rw [IntKind.wrap_i64]; rfl
      have u7 : IntKind.i64.wrap (47 : Int) = 47 := by rw [IntKind.wrap_i64]; rfl
      have ca : IntKind.i64.wrap a0 = a0 ∧ IntKind.i64.wrap a1 = a1 ∧ IntKind.i64.wrap a2 = a2 ∧ IntKind.i64.wrap a3 = a3 ∧ IntKind.i64.wrap (a0 * 16777216) = a0 * 16777216 ∧ IntKind.i64.wrap (a1 * 65536) = a1 * 65536 ∧ IntKind.i64.wrap (a2 * 256) = a2 * 256 ∧ IntKind.i64.wrap (a0 * 16777216 + a1 * 65536) = a0 * 16777216 + a1 * 65536 ∧ IntKind.i64.wrap (a0 * 16777216 + a1 * 65536 + a2 * 256) = a0 * 16777216 + a1 * 65536 + a2 * 256 ∧ IntKind.i64.wrap (a0 * 16777216 + a1 * 65536 + a2 * 256 + a3) = t4 := by
        have := HEA.out
        simp only [IntKind.wrap_i64]
        refine ⟨?_, ?_, ?_, ?_, ?_, ?_, ?_, ?_, ?_, ?_⟩ <;> omega
      obtain ⟨aw0, aw1, aw2, aw3, aw4, aw5, aw6, aw7, aw8, aw9⟩ := ca
      have cb : IntKind.i64.wrap b0 = b0 ∧ IntKind.i64.wrap b1 = b1 ∧ IntKind.i64.wrap b2 = b2 ∧ IntKind.i64.wrap b3 = b3 ∧ IntKind.i64.wrap (b0 * 16777216) = b0 * 16777216 ∧ IntKind.i64.wrap (b1 * 65536) = b1 * 65536 ∧ IntKind.i64.wrap (b2 * 256) = b2 * 256 ∧ IntKind.i64.wrap (b0 * 16777216 + b1 * 65536) = b0 * 16777216 + b1 * 65536 ∧ IntKind.i64.wrap (b0 * 16777216 + b1 * 65536 + b2 * 256) = b0 * 16777216 + b1 * 65536 + b2 * 256 ∧ IntKind.i64.wrap (b0 * 16777216 + b1 * 65536 + b2 * 256 + b3) = (l4 : Int) := by
        have := HEB.out
        simp only [IntKind.wrap_i64]
        refine ⟨?_, ?_, ?_, ?_, ?_, ?_, ?_, ?_, ?_, ?_⟩ <;> omega
      obtain ⟨bw0, bw1, bw2, bw3, bw4, bw5, bw6, bw7, bw8, bw9⟩ := cb
      have HW8 := Aside0.mk (show wrap64 (t4 + (l4 : Int)) = t5 by have := HTT.out; have := HD.out.2.2.2.2.2.2.2.2.2.2.2.2; unfold wrap64; omega)
      clear g0 g1 g2 g3 k0 k1 k2 k3 ra0 ra1 ra2 ra3 rb0 rb1 rb2 rb3 ea eb hA
      go_wp2_with fail
      go_quiet (fail)
      clear f0 f1 f2 f3
      go_wp2_with fail
      go_quiet (fail)
      clear f4 f5 f6 f7
      go_wp2
      go_roundg 1
      case measure => decide
      case rel => exact ⟨⟨⟨by first | exact pw_below_drewN HB.out _ | exact pw_below_drewN (pw_below_drewN HB.out _) _⟩, ⟨by first | exact Kd.C_drewN HC.out _ | exact Kd.C_drewN (Kd.C_drewN HC.out _) _⟩⟩, .inr (.inr (.inr (.inr (.inr (.inl ⟨rfl, by rw [HW8.out], rfl⟩)))))⟩
    · obtain ⟨a0, a1, a2, a3, g0, g1, g2, g3, ra0, ra1, ra2, ra3, ea⟩ := HD.out.2.2.2.2.2.2.2.2.2.2.1
      obtain ⟨b0, b1, b2, b3, k0, k1, k2, k3, rb0, rb1, rb2, rb3, eb⟩ := HD.out.2.2.2.2.2.2.2.2.2.2.2.1
      obtain ⟨ad, hA, f0⟩ := C_at1 HC.out 48 (by decide) a0 g0
      subst hA
      have i0 : ((48 : Int) < (x.length : Int)) = True := eq_true (by have := HLN.out; omega)
      obtain ⟨ad', hA, f1⟩ := C_at1 HC.out 49 (by decide) a1 g1
      obtain rfl := Option.some.inj hA
      have i1 : ((49 : Int) < (x.length : Int)) = True := eq_true (by have := HLN.out; omega)
      obtain ⟨ad', hA, f2⟩ := C_at1 HC.out 50 (by decide) a2 g2
      obtain rfl := Option.some.inj hA
      have i2 : ((50 : Int) < (x.length : Int)) = True := eq_true (by have := HLN.out; omega)
      obtain ⟨ad', hA, f3⟩ := C_at1 HC.out 51 (by decide) a3 g3
      obtain rfl := Option.some.inj hA
      have i3 : ((51 : Int) < (x.length : Int)) = True := eq_true (by have := HLN.out; omega)
      obtain ⟨ad', hA, f4⟩ := C_at1 HC.out 52 (by decide) b0 k0
      obtain rfl := Option.some.inj hA
      have i4 : ((52 : Int) < (x.length : Int)) = True := eq_true (by have := HLN.out; omega)
      obtain ⟨ad', hA, f5⟩ := C_at1 HC.out 53 (by decide) b1 k1
      obtain rfl := Option.some.inj hA
      have i5 : ((53 : Int) < (x.length : Int)) = True := eq_true (by have := HLN.out; omega)
      obtain ⟨ad', hA, f6⟩ := C_at1 HC.out 54 (by decide) b2 k2
      obtain rfl := Option.some.inj hA
      have i6 : ((54 : Int) < (x.length : Int)) = True := eq_true (by have := HLN.out; omega)
      obtain ⟨ad', hA, f7⟩ := C_at1 HC.out 55 (by decide) b3 k3
      obtain rfl := Option.some.inj hA
      have i7 : ((55 : Int) < (x.length : Int)) = True := eq_true (by have := HLN.out; omega)
      have HEA := Aside0.mk (show a0 * 16777216 + a1 * 65536 + a2 * 256 + a3 = t5 by have := HTT.out; omega)
      have HEB := Aside0.mk (show b0 * 16777216 + b1 * 65536 + b2 * 256 + b3 = (l5 : Int) from eb)
      have u1 : IntKind.i64.wrap (49 : Int) = 49 := by rw [IntKind.wrap_i64]; rfl
      have u2 : IntKind.i64.wrap (50 : Int) = 50 := by rw [IntKind.wrap_i64]; rfl
      have u3 : IntKind.i64.wrap (51 : Int) = 51 := by rw [IntKind.wrap_i64]; rfl
      have u4 : IntKind.i64.wrap (52 : Int) = 52 := by rw [IntKind.wrap_i64]; rfl
      have u5 : IntKind.i64.wrap (53 : Int) = 53 := by rw [IntKind.wrap_i64]; rfl
      have u6 : IntKind.i64.wrap (54 : Int) = 54 := by rw [IntKind.wrap_i64]; rfl
      have u7 : IntKind.i64.wrap (55 : Int) = 55 := by rw [IntKind.wrap_i64]; rfl
      have ca : IntKind.i64.wrap a0 = a0 ∧ IntKind.i64.wrap a1 = a1 ∧ IntKind.i64.wrap a2 = a2 ∧ IntKind.i64.wrap a3 = a3 ∧ IntKind.i64.wrap (a0 * 16777216) = a0 * 16777216 ∧ IntKind.i64.wrap (a1 * 65536) = a1 * 65536 ∧ IntKind.i64.wrap (a2 * 256) = a2 * 256 ∧ IntKind.i64.wrap (a0 * 16777216 + a1 * 65536) = a0 * 16777216 + a1 * 65536 ∧ IntKind.i64.wrap (a0 * 16777216 + a1 * 65536 + a2 * 256) = a0 * 16777216 + a1 * 65536 + a2 * 256 ∧ IntKind.i64.wrap (a0 * 16777216 + a1 * 65536 + a2 * 256 + a3) = t5 := by
        have := HEA.out
        simp only [IntKind.wrap_i64]
        refine ⟨?_, ?_, ?_, ?_, ?_, ?_, ?_, ?_, ?_, ?_⟩ <;> omega
      obtain ⟨aw0, aw1, aw2, aw3, aw4, aw5, aw6, aw7, aw8, aw9⟩ := ca
      have cb : IntKind.i64.wrap b0 = b0 ∧ IntKind.i64.wrap b1 = b1 ∧ IntKind.i64.wrap b2 = b2 ∧ IntKind.i64.wrap b3 = b3 ∧ IntKind.i64.wrap (b0 * 16777216) = b0 * 16777216 ∧ IntKind.i64.wrap (b1 * 65536) = b1 * 65536 ∧ IntKind.i64.wrap (b2 * 256) = b2 * 256 ∧ IntKind.i64.wrap (b0 * 16777216 + b1 * 65536) = b0 * 16777216 + b1 * 65536 ∧ IntKind.i64.wrap (b0 * 16777216 + b1 * 65536 + b2 * 256) = b0 * 16777216 + b1 * 65536 + b2 * 256 ∧ IntKind.i64.wrap (b0 * 16777216 + b1 * 65536 + b2 * 256 + b3) = (l5 : Int) := by
        have := HEB.out
        simp only [IntKind.wrap_i64]
        refine ⟨?_, ?_, ?_, ?_, ?_, ?_, ?_, ?_, ?_, ?_⟩ <;> omega
      obtain ⟨bw0, bw1, bw2, bw3, bw4, bw5, bw6, bw7, bw8, bw9⟩ := cb
      have HW8 := Aside0.mk (show wrap64 (t5 + (l5 : Int)) = t6 by have := HTT.out; have := HD.out.2.2.2.2.2.2.2.2.2.2.2.2; unfold wrap64; omega)
      clear g0 g1 g2 g3 k0 k1 k2 k3 ra0 ra1 ra2 ra3 rb0 rb1 rb2 rb3 ea eb hA
      go_wp2_with fail
      go_quiet (fail)
      clear f0 f1 f2 f3
      go_wp2_with fail
      go_quiet (fail)
      clear f4 f5 f6 f7
      go_wp2
      go_roundg 0
      case measure => decide
      case rel => exact ⟨⟨⟨by first | exact pw_below_drewN HB.out _ | exact pw_below_drewN (pw_below_drewN HB.out _) _⟩, ⟨by first | exact Kd.C_drewN HC.out _ | exact Kd.C_drewN (Kd.C_drewN HC.out _) _⟩⟩, .inr (.inr (.inr (.inr (.inr (.inr (⟨rfl, by rw [HW8.out], rfl⟩))))))⟩
    · have HFIN := Aside0.mk (show (t6 == (x.length : Int)) = true by have := HTT.out; have := HD.out.2.2.2.2.2.2.2.2.2.2.2.2.1; exact beq_iff_eq.2 (by omega))
      have hfin := HFIN.out
      go_wp2_with fail
      go_ret
      exact ⟨rfl, HB.out⟩
theorem bundHead.calls (L : Loc) (a : Lat) (w : World) (hL : LocC L a w) (hT : LocT L) :
    Calls Try.prog 3 #[locV L a] w fun e w' => e = .returned (.bool true) ∧ Below w.heap.size w w' := by
  cases hs : smallB L with
  | false => exact head_s0 L a w hL hT hs
  | true =>
    by_cases he : encE L = 0
    · exact head_yes L a w hL hT hs he
    · exact head_e1 L a w hL hT hs he
end Go.Proofs.Ytmhpcjncngonbaa.Q
