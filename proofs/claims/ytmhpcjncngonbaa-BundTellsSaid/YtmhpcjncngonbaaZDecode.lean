/- Texts of this claim, joined; the first one's sentence stands below. -/
import Derived.Test.YtmhpcjncngonbaaZRead
import Derived.Test.YtmhpcjncngonbaaZEncode
import Derived.Test.YtmhpcjncngonbaaZM6
/- What bund.Decode comes to; rows of bytes. -/
namespace Go.Proofs.Ytmhpcjncngonbaa.Q
open Go.RowKit Go.Proofs.Ytmhpcjncngonbaa.Mine Go.Proofs.YtmhpcjncngonbaaW.PrintWords Go.Proofs.YtmhpcjncngonbaaW.PrintLast Go.Proofs.YtmhpcjncngonbaaW.PrintMore
set_option linter.unusedVariables false
set_option linter.unusedSimpArgs false
open Go.Proofs.Ytmhpcjncngonbaa.Spec (I Y)
theorem I_ok (l : List Y) : bytesOk (I l) := fun x hx => by
  unfold I at hx
  obtain ⟨b, _, rfl⟩ := List.mem_map.1 hx
  have := b.isLt
  omega
theorem toY_of (l : List Y) : toY (I l) = l := by
  unfold toY I
  rw [List.map_map]
  conv => rhs; rw [← List.map_id l]
  refine List.map_congr_left fun x hx => ?_
  show BitVec.ofInt 8 ((x.toNat : Nat) : Int) = x
  rw [BitVec.ofInt_natCast, BitVec.ofNat_toNat, BitVec.setWidth_eq]
theorem putC_ok (l : List Int) : bytesOk (putC l) := I_ok _
theorem putC_len (l : List Int) : (putC l).length = l.length + 4 := by
  unfold putC Spec.put
  rw [Spec.I_len, List.length_append, toY_len, Spec.toldB_len]
/-- bytes without their checksum -/
def cutC (b : List Int) : List Int × Int := (I (Spec.cut (toY b)).1, (Spec.cut (toY b)).2)
theorem cutC_ok (b : List Int) : bytesOk (cutC b).1 := I_ok _
theorem cutC_put {l : List Int} (h : bytesOk l) : cutC (putC l) = (l, 0) := by
  unfold cutC putC
  rw [toY_of, Spec.cut_put, toY_I h]
theorem cutC_len (b : List Int) : (cutC b).1.length ≤ b.length := by
  unfold cutC Spec.cut
  rw [Spec.I_len]
  split
  · simp
  · split
    · dsimp only; rw [List.length_take, toY_len]; omega
    · simp
theorem Cut_c {k : Nat} {b : List Int} (hb : bytesOk b) (hl : b.length < 140737488000000) (hk : b.length < k) : crc_Cut.f k b = some ((cutC b).1, (cutC b).2) := by
  have := Spec.Cut_f (k := k) (toY b) (by rw [toY_len]; exact hl) (by rw [toY_len]; exact hk)
  rw [toY_I hb] at this
  exact this
theorem encR_ok (L : Loc) : bytesOk (encR L) := by
  unfold encR
  split
  · exact nil_ok
  · exact putC_ok _
theorem equal_f {a b : List Int} (ha : bytesOk a) (hb : bytesOk b) : bytes_Equal.f a b = some (decide (a = b)) := by
  unfold bytes_Equal.f
  rw [toList_eq_iff]
  congr 1
  rw [decide_eq_decide]
  exact ⟨fun h => by rw [← str_bytes ha, ← str_bytes hb, h], fun h => by rw [h]⟩
/-- a locale's cells, as a list -/
@[reducible] def cellsL (L : Loc) (a : Lat) : List Value := [.string L.tag, .int .i32 L.s0, .int .i32 L.s1, .int .i32 L.s2, .int .i32 L.s3, .int .i32 L.s4, .int .i32 L.s5, .int .i32 L.s6, .string L.p0, .string L.p1, .string L.p2, .string L.p3, .slice a.A3 L.rules.length a.c3, .slice a.A4 L.curs.length a.c4, .slice a.A5 L.comps.length a.c5]
/-- a locale is laid where there is none -/
theorem fillL {w : World} {r : Nat} (h : w.heap[r]? = some (.cells box0 29 (0, 0))) (L : Loc) (a : Lat) : (fill r w (cellsL L a) 0).heap[r]? = some (.cells #[.string L.tag, .int .i32 L.s0, .int .i32 L.s1, .int .i32 L.s2, .int .i32 L.s3, .int .i32 L.s4, .int .i32 L.s5, .int .i32 L.s6, .string L.p0, .string L.p1, .string L.p2, .string L.p3, .slice a.A3 L.rules.length a.c3, .slice a.A4 L.curs.length a.c4, .slice a.A5 L.comps.length a.c5] 29 (0, 0)) :=
  fill_box h L.tag (fun i => match i with | 0 => L.s0 | 1 => L.s1 | 2 => L.s2 | 3 => L.s3 | 4 => L.s4 | 5 => L.s5 | _ => L.s6) (fun i => match i with | 0 => L.p0 | 1 => L.p1 | 2 => L.p2 | _ => L.p3) (.slice a.A3 L.rules.length a.c3) (.slice a.A4 L.curs.length a.c4) (.slice a.A5 L.comps.length a.c5)
/-- a bundle's locale, and what is wrong with it -/
noncomputable def decR (b : List Int) : Loc × Int :=
  if (cutC b).2 = 0 then (match readL (cutC b).1 with | none => (zeroL, 2) | some L => if encE L = 0 ∧ encR L = b then (L, 0) else (zeroL, 2)) else (zeroL, (cutC b).2)
noncomputable def decPost (b : List Int) (w : World) (e : Ending) (w' : World) : Prop :=
  ∃ a, e = .returned (.tuple #[locV (decR b).1 a, .int .i64 (decR b).2]) ∧ LocR (decR b).1 a w' w.heap.size ∧ LocB (decR b).1 ∧ Below w.heap.size w w'
theorem decPost.zero {b : List Int} {w w' : World} {n : Int} (h : decR b = (zeroL, n)) (hb : Below w.heap.size w w') : decPost b w (.returned (.tuple #[locV zeroL zeroA, .int .i64 n])) w' := by
  refine ⟨zeroA, ?_, ?_, ?_, hb⟩
  · rw [h]
  · rw [h]; exact zeroL_r _ _
  · rw [h]; exact zeroL_b
set_option maxHeartbeats 16000000 in
set_option maxRecDepth 100000 in
theorem decode.calls (A : Option Addr) (c : Nat) (b : List Int) (w : World) (hr : (Kd.int .u8).C w A b.length b) (hc : b.length ≤ c) (hok : bytesOk b) (hl : b.length < 140737488000000) :
    Calls Try.prog 15 #[.slice A b.length c] w fun e w' => decPost b w e w' := by
  obtain ⟨w1, hw1⟩ : ∃ w1, w1 = w.alloc (.cells box0 29) := ⟨_, rfl⟩
  have hb1 : Below w.heap.size w w1 := by rw [hw1]; exact (Below.refl w.heap.size w).alloc (Nat.le_refl _) _
  have HX1 := Aside0.mk (show w1.heap[w.heap.size]? = some (.cells box0 29 (0, 0)) by rw [hw1]; exact blk_new w _)
  have HR1 := Aside0.mk (Kd.C_below hr hb1)
  have HC := Aside0.mk (crc_Cut.calls (b.length + 1) A c b (cutC b).1 (cutC b).2 w1 HR1.out hc (Cut_c hok hl (Nat.lt_succ_self _)))
  have HLC := Aside0.mk hc
  have HOK := Aside0.mk hok
  have HB1 := Aside0.mk hb1
  have HE1 := Aside0.mk hw1
  have HD := Aside0.mk (show decR b = if (cutC b).2 = 0 then (match readL (cutC b).1 with | none => (zeroL, 2) | some L => if encE L = 0 ∧ encR L = b then (L, 0) else (zeroL, 2)) else (zeroL, (cutC b).2) from rfl)
  have hin := cutC_ok b
  generalize (cutC b).1 = x at HC HD hin
  generalize (cutC b).2 = z at HC HD
  have HIN := Aside0.mk hin
  clear hb1 hw1 hr hc hok hl hin
  by_cases hz : z = 0
  case neg =>
    have HN := Aside0.mk (HD.out.trans (if_neg hz))
    have hb3 : (z == 0) = false := beq_eq_false_iff_ne.2 hz
    have hb4 : (z != 0) = true := bne_iff_ne.2 hz
    clear hz HD
    go_enter Try.func15, Try.ntmps15
    go_wp2_with fail
    rw [← HE1.out]
    refine HC.out.mono ?_
    rintro e w2 ⟨v2, rfl, _, hb⟩
    have HX2 := Aside0.mk (blk_below HX1.out hb)
    have HB2 := Aside0.mk (HB1.out.trans (hb.mono HB1.out.size))
    obtain ⟨hx0, hx1, hx2, hx3, hx4, hx5, hx6, hx7, hx8, hx9, hx10, hx11, hx12, hx13, hx14⟩ := boxFCells HX2.out
    have hfz := fun i => blk_frozen HX2.out i
    clear hb
    dsimp only
    go_wp2_with fail
    clear hx0 hx1 hx2 hx3 hx4 hx5 hx6 hx7 hx8 hx9 hx10 hx11 hx12 hx13 hx14 hfz
    show bodyPost Try.prog Try.f15 (fun e w' => decPost b w e w') Exit.ret _ (fill w.heap.size w2 (cellsL zeroL zeroA) 0)
    refine bodyPost_ret (results_ct rfl _ _ w.heap.size 29 _ (0, 0) _ rfl (fillL HX2.out zeroL zeroA) Try.underlying29 rfl (by kernel_rfl)) rfl ?_
    exact decPost.zero HN.out (fill_below (Nat.le_refl _) _ _ _ HB2.out)
  subst hz
  have HD2 := Aside0.mk (HD.out.trans (if_pos rfl))
  clear HD
  go_enter Try.func15, Try.ntmps15
  go_wp2_with fail
  rw [← HE1.out]
  refine HC.out.mono ?_
  rintro e w2 ⟨v2, rfl, ho, hb⟩
  obtain ⟨A2, c2, hv2⟩ := Kd.R_slice ho
  subst hv2
  have HX2 := Aside0.mk (blk_below HX1.out hb)
  have HB2 := Aside0.mk (HB1.out.trans (hb.mono HB1.out.size))
  have HR2 := Aside0.mk (Kd.C_below HR1.out hb)
  have HRD := Aside0.mk (read.calls A2 c2 x w2 (Kd.R_reads' ho).2.2 (Kd.R_reads' ho).2.1 HIN.out)
  clear hb ho
  dsimp only
  go_wp2_with fail
  refine HRD.out.mono ?_
  rintro e w3 ⟨a, rfl, hR, hLB, hb⟩
  have HX3 := Aside0.mk (blk_below HX2.out hb)
  have HB3 := Aside0.mk (HB2.out.trans (hb.mono HB2.out.size))
  have HR3 := Aside0.mk (Kd.C_below HR2.out hb)
  have HD3 := Aside0.mk (show decR b = if (readL x).isSome = true ∧ encE ((readL x).getD zeroL) = 0 ∧ encR ((readL x).getD zeroL) = b then (((readL x).getD zeroL), 0) else (zeroL, 2) by
    rw [HD2.out]
    cases readL x with
    | none => rfl
    | some L => dsimp only [Option.isSome, Option.getD]; congr 1; simp)
  generalize (readL x).getD zeroL = L at hR hLB HD3
  generalize (readL x).isSome = ok at HD3
  have HR := Aside0.mk hR
  have HLB := Aside0.mk hLB
  clear hb hR hLB HD2
  obtain ⟨A3, c3, A4, c4, A5, c5⟩ := a
  dsimp only
  go_wp2_with fail
  obtain ⟨w4, hw4⟩ : ∃ w4, w4 = w3.alloc (.cells #[.string L.tag, .int .i32 L.s0, .int .i32 L.s1, .int .i32 L.s2, .int .i32 L.s3, .int .i32 L.s4, .int .i32 L.s5, .int .i32 L.s6, .string L.p0, .string L.p1, .string L.p2, .string L.p3, .slice A3 L.rules.length c3, .slice A4 L.curs.length c4, .slice A5 L.comps.length c5] 29) := ⟨_, rfl⟩
  rw [← hw4]
  have hb4 : Below w3.heap.size w3 w4 := by rw [hw4]; exact (Below.refl w3.heap.size w3).alloc (Nat.le_refl _) _
  have hR4 := HR.out.below hb4
  have hX4 := blk_below HX3.out hb4
  have hY4 : w4.heap[w3.heap.size]? = some (.cells #[.string L.tag, .int .i32 L.s0, .int .i32 L.s1, .int .i32 L.s2, .int .i32 L.s3, .int .i32 L.s4, .int .i32 L.s5, .int .i32 L.s6, .string L.p0, .string L.p1, .string L.p2, .string L.p3, .slice A3 L.rules.length c3, .slice A4 L.curs.length c4, .slice A5 L.comps.length c5] 29 (0, 0)) := by rw [hw4]; exact blk_new w3 _
  refine (bund_Encode.calls L ⟨A3, c3, A4, c4, A5, c5⟩ w4 hR4.c HLB.out).mono ?_
  rintro e w5 ⟨v5, rfl, ho5, hb5⟩
  have hb6 := hb4.trans (hb5.mono hb4.size)
  have HX5 := Aside0.mk (blk_below hX4 hb5)
  have HY5 := Aside0.mk (blk_below hY4 hb5)
  have HR5 := Aside0.mk (hR4.below hb5)
  have HB5 := Aside0.mk (HB3.out.trans (hb6.mono HB3.out.size))
  have HC5 := Aside0.mk (Kd.C_below HR3.out hb6)
  obtain ⟨A5', c5', hv5⟩ := Kd.R_slice ho5
  subst hv5
  have HEQ := Aside0.mk (fun (W : World) (h : (Kd.int .u8).C W A5' (encR L).length (encR L)) (h2 : (Kd.int .u8).C W A b.length b) => bytes_Equal.calls A5' c5' (encR L) A c b _ W h (Kd.R_reads' ho5).2.1 h2 HLC.out (equal_f (encR_ok L) HOK.out))
  have HRE := Aside0.mk (Kd.R_reads' ho5).2.2
  obtain ⟨hx0, hx1, hx2, hx3, hx4, hx5, hx6, hx7, hx8, hx9, hx10, hx11, hx12, hx13, hx14⟩ := boxFCells HX5.out
  have hfz := fun i => blk_frozen HX5.out i
  have HSZ := Aside0.mk (show w2.heap.size ≥ w.heap.size from HB2.out.size)
  clear hw4 hb4 hR4 hX4 hY4 hb5 hb6 ho5
  dsimp only
  by_cases hall : ok = true ∧ encE L = 0 ∧ encR L = b
  case pos =>
    obtain ⟨rfl, h0, h1⟩ := hall
    have HN := Aside0.mk (HD3.out.trans (if_pos ⟨rfl, h0, h1⟩))
    have hd : decide (encR L = b) = true := decide_eq_true h1
    rw [h0]
    simp only [hd] at HEQ
    clear h0 h1 hd HD3
    generalize (encR L) = rl at *
    go_wp2_with fail
    refine (HEQ.out _ HRE.out HC5.out).mono ?_
    rintro e w6 ⟨rfl, ⟨m6, rfl⟩⟩
    obtain ⟨hy0, hy1, hy2, hy3, hy4, hy5, hy6, hy7, hy8, hy9, hy10, hy11, hy12, hy13, hy14⟩ := boxCells (L := L) (a := ⟨A3, c3, A4, c4, A5, c5⟩) HY5.out
    dsimp only
    go_wp2_with fail
    clear hx0 hx1 hx2 hx3 hx4 hx5 hx6 hx7 hx8 hx9 hx10 hx11 hx12 hx13 hx14 hy0 hy1 hy2 hy3 hy4 hy5 hy6 hy7 hy8 hy9 hy10 hy11 hy12 hy13 hy14 hfz
    show bodyPost Try.prog Try.f15 (fun e w' => decPost b w e w') Exit.ret _ (fill w.heap.size (w5.drewN m6) (cellsL L ⟨A3, c3, A4, c4, A5, c5⟩) 0)
    have hX6 := blk_drewN HX5.out m6
    have hR6 := (LocR.below HR5.out (pw_below_drewN (Below.refl w5.heap.size w5) m6)).fill (cellsL L ⟨A3, c3, A4, c4, A5, c5⟩) 0 _ hX6
    refine bodyPost_ret (results_ct rfl _ _ w.heap.size 29 _ (0, 0) _ rfl (fillL hX6 L ⟨A3, c3, A4, c4, A5, c5⟩) Try.underlying29 rfl (by kernel_rfl)) rfl ?_
    exact ⟨⟨A3, c3, A4, c4, A5, c5⟩, by rw [HN.out]; rfl, by rw [HN.out]; exact hR6.lower HSZ.out, by rw [HN.out]; exact HLB.out, fill_below (Nat.le_refl _) _ _ _ (pw_below_drewN HB5.out m6)⟩
  case neg =>
    have HN := Aside0.mk (HD3.out.trans (if_neg hall))
    cases hk : ok with
    | false =>
      clear HD3 hall
      generalize encE L = f at *
      generalize encR L = rl at *
      go_wp2_with fail
      clear hx0 hx1 hx2 hx3 hx4 hx5 hx6 hx7 hx8 hx9 hx10 hx11 hx12 hx13 hx14 hfz
      show bodyPost Try.prog Try.f15 (fun e w' => decPost b w e w') Exit.ret _ (fill w.heap.size w5 (cellsL zeroL zeroA) 0)
      refine bodyPost_ret (results_ct rfl _ _ w.heap.size 29 _ (0, 0) _ rfl (fillL HX5.out zeroL zeroA) Try.underlying29 rfl (by kernel_rfl)) rfl ?_
      exact decPost.zero HN.out (fill_below (Nat.le_refl _) _ _ _ HB5.out)
    | true =>
      by_cases hf : encE L = 0
      · have hd : decide (encR L = b) = false := decide_eq_false (fun h => hall ⟨hk, hf, h⟩)
        rw [hf]
        simp only [hd] at HEQ
        clear hf hd HD3 hall hk
        generalize encR L = rl at *
        go_wp2_with fail
        refine (HEQ.out _ HRE.out HC5.out).mono ?_
        rintro e w6 ⟨rfl, ⟨m6, rfl⟩⟩
        dsimp only
        go_wp2_with fail
        clear hx0 hx1 hx2 hx3 hx4 hx5 hx6 hx7 hx8 hx9 hx10 hx11 hx12 hx13 hx14 hfz
        show bodyPost Try.prog Try.f15 (fun e w' => decPost b w e w') Exit.ret _ (fill w.heap.size (w5.drewN m6) (cellsL zeroL zeroA) 0)
        refine bodyPost_ret (results_ct rfl _ _ w.heap.size 29 _ (0, 0) _ rfl (fillL (blk_drewN HX5.out m6) zeroL zeroA) Try.underlying29 rfl (by kernel_rfl)) rfl ?_
        exact decPost.zero HN.out (fill_below (Nat.le_refl _) _ _ _ (pw_below_drewN HB5.out m6))
      · have hb3 : (encE L == 0) = false := beq_eq_false_iff_ne.2 hf
        have hb4 : (encE L != 0) = true := bne_iff_ne.2 hf
        clear hf HD3 hall hk
        generalize encE L = f at *
        generalize encR L = rl at *
        go_wp2_with fail
        clear hx0 hx1 hx2 hx3 hx4 hx5 hx6 hx7 hx8 hx9 hx10 hx11 hx12 hx13 hx14 hfz
        show bodyPost Try.prog Try.f15 (fun e w' => decPost b w e w') Exit.ret _ (fill w.heap.size w5 (cellsL zeroL zeroA) 0)
        refine bodyPost_ret (results_ct rfl _ _ w.heap.size 29 _ (0, 0) _ rfl (fillL HX5.out zeroL zeroA) Try.underlying29 rfl (by kernel_rfl)) rfl ?_
        exact decPost.zero HN.out (fill_below (Nat.le_refl _) _ _ _ HB5.out)
end Go.Proofs.Ytmhpcjncngonbaa.Q
