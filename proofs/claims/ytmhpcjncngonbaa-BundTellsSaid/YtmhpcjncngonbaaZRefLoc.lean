/- Texts of this claim, joined; the first one's sentence stands below. -/
import Derived.Test.YtmhpcjncngonbaaZRefLs
import Derived.Test.YtmhpcjncngonbaaZM5
import Derived.Test.YtmhpcjncngonbaaZRloc
import Derived.Deep.CutBlock
import Derived.Deep.Cut
/- What the reference's locale comes to; rows of bytes. -/
namespace Go.Proofs.Ytmhpcjncngonbaa.Q
open Go.RowKit Go.Proofs.Ytmhpcjncngonbaa.Mine Go.Proofs.YtmhpcjncngonbaaW.PrintWords Go.Proofs.YtmhpcjncngonbaaW.PrintLast Go.Proofs.YtmhpcjncngonbaaW.PrintMore
set_option linter.unusedVariables false
set_option linter.unusedSimpArgs false
theorem takePool_bad {B : List Int} {p : Int} (h : (takePool B p).2.2 ≠ 0) : (takePool B p).2.1 = 0 := by
  unfold takePool at h ⊢
  by_cases h0 : (takeN B p 2).2.2 ≠ 0
  · rw [if_pos h0]
  · rw [if_neg h0] at h ⊢
    cases ht : textsN B (takeN B p 2).1.toNat (p + 2) [] with
    | none => rfl
    | some t =>
      rw [ht] at h
      dsimp only at h ⊢
      by_cases h1 : isPoolB t.1 = true
      · rw [if_pos h1] at h
        exact absurd rfl h
      · rw [if_neg h1]
def rK6 (tag : ByteArray) (f : Nat → Int) (p : Nat → ByteArray) (rules : List (Int × ByteArray)) (curs : List (ByteArray × ByteArray × Int)) (comps : List (Int × Int × ByteArray)) (_ : Int) : Option Loc := some (mkLoc tag f p rules curs comps)
set_option maxHeartbeats 32000000 in
set_option maxRecDepth 100000 in
theorem rlocI.calls (A : Option Addr) (c : Nat) (B : List Int) (w : World) (hr : (Kd.int .u8).C w A B.length B) (hc : B.length ≤ c) (hb : bytesOk B) (hl : B.length < 140737488355328) :
    Calls Try.prog 43 #[.slice A B.length c] w fun e w' => ∃ (L : Loc) (a : Lat) (ok : Bool), e = .returned (.tuple #[locV L a, .bool ok]) ∧ LocR L a w' w.heap.size ∧ LocB L ∧ ((ok = true ∧ readL B = some L) ∨ (ok = false ∧ readL B = none)) ∧ Below w.heap.size w w' := by
  obtain ⟨w1, hw1⟩ : ∃ w1, w1 = (w.alloc (.cells boxZ 29)).alloc (.cells boxZ 29) := ⟨_, rfl⟩
  have hb1 : Below w.heap.size w w1 := by rw [hw1]; exact two_below _ _
  have hx1 : w1.heap[w.heap.size]? = some (.cells boxZ 29 (0, 0)) := by rw [hw1]; exact blk_alloc (blk_new w _) _
  have hy1 : w1.heap[w.heap.size + 1]? = some (.cells boxZ 29 (0, 0)) := by
    rw [hw1]
    have := blk_new (w.alloc (.cells boxZ 29)) (.cells boxZ 29)
    rwa [show (w.alloc (.cells boxZ 29)).heap.size = w.heap.size + 1 by simp] at this
  have HE1 := Aside0.mk hw1
  have HR := Aside0.mk hr
  have HC := Aside0.mk hc
  have HB := Aside0.mk hb
  have HTP := Aside0.mk (refTakePool.calls 1002 (fun r _ => Pool_f r (by decide)) A c B 56 w1 (Kd.C_below hr hb1) hc hb (by decide) (by decide) hl)
  have HRL := Aside0.mk (show readL B = if (takePool B 56).2.2 ≠ 0 then none else (rtext B (takePool B 56).1 (takePool B 56).2.1).bind fun t => rK1 B (takePool B 56).1 t.1 t.2 from rfl)
  have HQ := Aside0.mk (show R64 (takePool B 56).2.1 from by
    by_cases h0 : (takePool B 56).2.2 = 0
    · have h1 := takePool_put hb h0
      have h2 : B.length ≤ 9223372036854775807 := hr.2.1
      unfold R64
      omega
    · rw [takePool_bad h0]
      exact ⟨by decide, by decide⟩)
  generalize (takePool B 56).1 = pool at HTP HRL
  generalize (takePool B 56).2.1 = q0 at HTP HRL HQ
  generalize (takePool B 56).2.2 = z at HTP HRL HQ
  have HB1 := Aside0.mk hb1
  have HX1 := Aside0.mk hx1
  have HY1 := Aside0.mk hy1
  clear hr hc hb hl hw1 hb1 hx1 hy1
  go_enter Try.func43, Try.ntmps43
  go_wp2_with fail
  rw [← HE1.out]
  refine HTP.out.mono ?_
  rintro e w2 ⟨vp, rfl, ho, hb2⟩
  obtain ⟨Ap, cp, hvp⟩ := Kd.R_slice ho
  subst hvp
  have HO2 := Aside0.mk (Kd.R_lower ho HB1.out.size)
  have HB2 := Aside0.mk (HB1.out.trans (hb2.mono HB1.out.size))
  have HX2 := Aside0.mk (blk_below HX1.out hb2)
  have HY2 := Aside0.mk (blk_below HY1.out hb2)
  have hpc := (Kd.R_reads' ho).2.2
  clear ho hb2
  dsimp only
  obtain ⟨b0, hb0⟩ : ∃ b0 : Bool, b0 = (z != 0) := ⟨_, rfl⟩
  have hb0' : (z != 0) = b0 := hb0.symm
  have hb0'' : (!(z == 0)) = b0 := hb0.symm
  obtain ⟨q1, hq1⟩ : ∃ q1 : Int, q1 = q0 := ⟨_, rfl⟩
  have HT0 := Aside0.mk (rtextI.calls A c B (readL B) pool Ap cp (fun s q => rK1 B pool s q) q0 b0 w2 (Kd.C_below HR.out HB2.out) HC.out HB.out hpc HQ.out (by
    by_cases hz : z = 0
    · refine .inr ⟨by rw [hb0, hz]; rfl, ?_⟩
      exact HRL.out.trans (if_neg (by simpa using hz))
    · exact .inl ⟨by rw [hb0]; exact bne_iff_ne.2 hz, HRL.out.trans (if_pos hz)⟩))
  clear hb0 hpc q1 hq1
  go_wp2_with fail
  refine HT0.out.mono ?_
  rintro e w3 ⟨tag, q1, b1, rfl, hI, hq, hb⟩
  obtain ⟨w4, hw4, hb4, hz4⟩ := new_rd A B.length c q1 b1 w3
  have HE4 := Aside0.mk hw4
  have HI4 := Aside0.mk hI
  have HQ4 := Aside0.mk hq
  have hb34 := hb.trans (hb4.mono hb.size)
  have hgl := blk_lt (blk_below HY2.out hb)
  have HL4 := Aside0.mk (show Lr A B.length c pool w w3.heap.size q1 b1 (.slice Ap pool.length cp) ⟨#[]⟩ (fun _ => 0) (fun _ => ⟨#[]⟩) (.slice none 0 0) [] (.slice none 0 0) [] (.slice none 0 0) [] w4 from
    ⟨blk_below HY2.out hb34, blk_below HX2.out hb34, hz4, hgl, HB2.out.trans (hb34.mono HB2.out.size), Kd.R_below HO2.out hb34, Kd.R_nil _ _ _ _ _, Kd.R_nil _ _ _ _ _, Kd.R_nil _ _ _ _ _⟩)
  clear hI hq hb hb4 hz4 hw4 hb34 hgl hb0' hb0''
  dsimp only
  go_upto_region 4 with fail
  rw [← HE4.out]
  have HSG := Aside0.mk (rsignsI.calls A c B (readL B) (fun f q => rK2 B pool tag f q) q1 b1 w4 (Kd.C_below HR.out HL4.out.bw) HC.out HB.out HQ4.out HI4.out)
  obtain ⟨hx0, hx1, hx2⟩ := box101 HL4.out.bs
  go_wp2_with fail
  refine HSG.out.mono ?_
  rintro e w5 ⟨f, q2, b2, rfl, hI, hf, hq, hb⟩
  clear hx0 hx1 hx2
  dsimp only
  go_upto_region 5 with fail
  obtain ⟨w6, hw6⟩ : ∃ w6, w6 = (w5.alloc (.cells (arr7 f) 23)).alloc (.cells #[.slice A B.length c, .int .i64 q2, .bool b2] 101) := ⟨_, rfl⟩
  have hb56 : Below w5.heap.size w5 w6 := by rw [hw6]; exact two_below _ _
  have hz6 : w6.heap[w5.heap.size + 1]? = some (.cells #[.slice A B.length c, .int .i64 q2, .bool b2] 101 (0, 0)) := by
    rw [hw6]
    have := blk_new (w5.alloc (.cells (arr7 f) 23)) (.cells #[.slice A B.length c, .int .i64 q2, .bool b2] 101)
    rwa [show (w5.alloc (.cells (arr7 f) 23)).heap.size = w5.heap.size + 1 by simp] at this
  have HA6 := Aside0.mk (show w6.heap[w5.heap.size]? = some (.cells (arr7 f) 23 (0, 0)) by rw [hw6]; exact blk_alloc (blk_new w5 _) _)
  have hl5 := HL4.out.below hb
  have HG6 := Aside0.mk (show w.heap.size + 1 < w5.heap.size from blk_lt hl5.bl)
  have HL6 := Aside0.mk ((hl5.below hb56).read hz6 (by have := HG6.out; omega))
  have HI6 := Aside0.mk hI
  have HF6 := Aside0.mk hf
  have HQ6 := Aside0.mk hq
  have HE6 := Aside0.mk hw6
  clear hI hf hq hb hb56 hz6 hl5 hw6
  simp only [arr7] at HE6
  rw [← HE6.out]
  generalize w5.heap.size = g5 at HA6 HG6 HL6 ⊢
  have hcl := boxFCells HL6.out.bl
  obtain ⟨hl0, hl1, hl2, hl3, hl4, hl5, hl6, hl7, hl8, hl9, hl10, hl11, hl12, hl13, hl14⟩ := hcl
  have hfl := fun i => blk_frozen HL6.out.bl i
  have hf0 := arr7_cell HA6.out 0 (by decide)
  have hf1 := arr7_cell HA6.out 1 (by decide)
  have hf2 := arr7_cell HA6.out 2 (by decide)
  have hf3 := arr7_cell HA6.out 3 (by decide)
  have hf4 := arr7_cell HA6.out 4 (by decide)
  have hf5 := arr7_cell HA6.out 5 (by decide)
  have hf6 := arr7_cell HA6.out 6 (by decide)
  have hn1 : ¬ g5 = w.heap.size + 1 := by have := HG6.out; omega
  go_upto_region 7 with fail
  obtain ⟨w7, hw7⟩ : ∃ w7, w7 = fill (w.heap.size + 1) (w6.setCell ⟨w.heap.size + 1, 0, none⟩ (.string tag)) [.int .i32 (f 0), .int .i32 (f 1), .int .i32 (f 2), .int .i32 (f 3), .int .i32 (f 4), .int .i32 (f 5), .int .i32 (f 6)] 1 := ⟨_, rfl⟩
  have HL7 := Aside0.mk (show Lr A B.length c pool w (g5 + 1) q2 b2 (.slice Ap pool.length cp) tag f (fun _ => ⟨#[]⟩) (.slice none 0 0) [] (.slice none 0 0) [] (.slice none 0 0) [] w7 by
    rw [hw7]
    exact (HL6.out.setL 0 (.string tag) (tag' := tag) (f' := fun _ => 0) (p' := fun _ => ⟨#[]⟩) rfl).signs f)
  simp only [fill] at hw7
  rw [← hw7]
  clear hl0 hl1 hl2 hl3 hl4 hl5 hl6 hl7 hl8 hl9 hl10 hl11 hl12 hl13 hl14 hfl hf0 hf1 hf2 hf3 hf4 hf5 hf6 hn1 hw7 HA6
  have HI7 := Aside0.mk (show Inv (readL B) q2 b2 (fun q => (rpats B pool (4 - 0) q (fun _ => ⟨#[]⟩)).bind fun u => rK3 B pool tag f u.1 u.2) from HI6.out)
  go_wp2_with fail
  go_loopg [12] 4 (fun kq v12 w' => ∃ (j : Nat) (p : Nat → ByteArray) (q : Int) (b : Bool), v12 = .int .i64 (j : Int) ∧ Aside0 (j ≤ 4) ∧ Aside0 (4 - j = kq) ∧ Aside0 (Lr A B.length c pool w (g5 + 1) q b (.slice Ap pool.length cp) tag f p (.slice none 0 0) [] (.slice none 0 0) [] (.slice none 0 0) [] w') ∧ Aside0 (Inv (readL B) q b (fun q => (rpats B pool (4 - j) q p).bind fun u => rK3 B pool tag f u.1 u.2)) ∧ Aside0 (R64 q))
  case atStart => exact ⟨0, fun _ => ⟨#[]⟩, q2, b2, rfl, ⟨by decide⟩, ⟨rfl⟩, HL7, HI7, HQ6⟩
  case round =>
    obtain ⟨j, p, q, b, rfl, HJ, HKQ, HL, HI, HQ⟩ := hrel
    by_cases hlt : j < 4
    · have hlt2 : (j : Int) < 4 := by omega
      obtain ⟨k, hk⟩ : ∃ k, 4 - j = k + 1 := ⟨3 - j, by omega⟩
      have hj6 : 3 - k = j := by omega
      have HK := Aside0.mk (show 4 - (j + 1) = k by omega)
      have hi := HI.out
      rw [hk] at hi
      simp only [rpats_bind, hj6] at hi
      have HLT := Aside0.mk hlt
      obtain ⟨hx0, hx1, hx2⟩ := box101 HL.out.bs
      have HTK := Aside0.mk (rtextI.calls A c B (readL B) pool Ap cp (fun s q => (rpats B pool k q (upd p j s)).bind fun u => rK3 B pool tag f u.1 u.2) q b wr (Kd.C_below HR.out HL.out.bw) HC.out HB.out (Kd.R_reads' HL.out.rp).2.2 HQ.out hi)
      clear hi hk hj6 hlt
      go_wp2_with fail
      refine HTK.out.mono ?_
      rintro e w8 ⟨s, q8, b8, rfl, hI8, hq8, hb8⟩
      obtain ⟨w9, hw9, hb9, hz9⟩ := new_rd A B.length c q8 b8 w8
      have HE9 := Aside0.mk hw9
      have HG9 := Aside0.mk (show w.heap.size + 1 < w8.heap.size from blk_lt (HL.out.below hb8).bl)
      have HG9b := Aside0.mk (show g5 + 1 < w8.heap.size from blk_lt (HL.out.below hb8).bs)
      have HL9 := Aside0.mk ((HL.out.below hb8).below hb9)
      have HZ9 := Aside0.mk hz9
      have HI8 := Aside0.mk hI8
      have HQ8 := Aside0.mk hq8
      clear hI8 hq8 hb8 hb9 hw9 hz9 hx0 hx1 hx2
      dsimp only
      go_upto_region 11 with fail
      rw [← HE9.out]
      have hpj := boxF_p HL9.out.bl j HLT.out
      have hfl := fun i => blk_frozen HL9.out.bl i
      obtain ⟨hx0, hx1, hx2⟩ := box101 HL9.out.bs
      have hfx := fun i => blk_frozen HL9.out.bs i
      obtain ⟨hz0, hz1, hz2⟩ := box101 HZ9.out
      have hn1 : ¬ w8.heap.size = w.heap.size + 1 := by have := HG9.out; omega
      have hn2 : ¬ w8.heap.size = g5 + 1 := by have := HG9b.out; omega
      go_upto_region 12 with fail
      obtain ⟨w10, hw10⟩ : ∃ w10, w10 = w9.setCell ⟨w.heap.size + 1, 8 + j, none⟩ (.string s) := ⟨_, rfl⟩
      have HL10 := Aside0.mk (show Lr A B.length c pool w (g5 + 1) q b (.slice Ap pool.length cp) tag f (upd p j s) (.slice none 0 0) [] (.slice none 0 0) [] (.slice none 0 0) [] w10 by
        rw [hw10]
        exact HL9.out.setL (8 + j) (.string s) (boxF_pat tag f p _ _ _ s j HLT.out))
      have HZ10 := Aside0.mk (show w10.heap[w8.heap.size]? = some (.cells #[.slice A B.length c, .int .i64 q8, .bool b8] 101 (0, 0)) by
        rw [hw10]
        exact blk_far HZ9.out (p := ⟨w.heap.size + 1, 8 + j, none⟩) hn1 _)
      rw [← hw10]
      clear hpj hfl hx0 hx1 hx2 hfx hz0 hz1 hz2 hw10
      obtain ⟨hx0, hx1, hx2⟩ := box101 HL10.out.bs
      have hfx := fun i => blk_frozen HL10.out.bs i
      obtain ⟨hz0, hz1, hz2⟩ := box101 HZ10.out
      go_wp2
      go_roundg (4 - (j + 1))
      case measure => have := HLT.out; have := HKQ.out; omega
      case rel => exact ⟨j + 1, upd p j s, q8, b8, by have h1 := HLT.out; first | rfl | (congr 1; unfold wrap64; omega), ⟨HLT.out⟩, ⟨rfl⟩, ⟨HL10.out.lay q8 b8⟩, ⟨by rw [HK.out]; exact HI8.out⟩, HQ8⟩
    · have hj : j = 4 := by have := HJ.out; omega
      subst hj
      have HI3 := Aside0.mk (show Inv (readL B) q b (fun q => rK3 B pool tag f p q) from HI.out)
      have HL3 := HL
      have HQ3 := HQ
      clear hlt HI HKQ HJ HL HQ
      obtain ⟨hx0, hx1, hx2⟩ := box101 HL3.out.bs
      have HTK := Aside0.mk (rtake.calls A c B (readL B) (fun n q => (rrules B pool n.toNat q []).bind fun u => rK4 B pool tag f p u.1 u.2) _ 2 _ wr (Kd.C_below HR.out HL3.out.bw) HC.out HB.out HQ3.out rfl HI3.out)
      go_wp2_with fail
      refine HTK.out.mono ?_
      rintro e wa ⟨n, qa, ba, rfl, hI, hrg, hq, hb⟩
      obtain ⟨N3, rfl⟩ := Int.eq_ofNat_of_zero_le hrg.1
      have HNB3 := Aside0.mk (show N3 ≤ 65535 by
        have h1 := hrg.2
        have h2 : (256 : Int) ^ (2 : Int).toNat = 65536 := by decide
        rw [h2] at h1; omega)
      obtain ⟨wb, hwb, hbb, hzb⟩ := new_rd A B.length c qa ba wa
      have HEB := Aside0.mk hwb
      have HG := Aside0.mk (show w.heap.size + 1 < wa.heap.size from blk_lt (HL3.out.below hb).bl)
      have HLB := Aside0.mk (((HL3.out.below hb).below hbb).read hzb HG.out)
      have HIB := Aside0.mk (show Inv (readL B) qa ba (fun q => (rrules B pool (N3 - 0) q []).bind fun u => rK4 B pool tag f p u.1 u.2) from by have h := hI; simpa only [Int.toNat_natCast, Nat.sub_zero] using h)
      have HQB := Aside0.mk hq
      clear hI hrg hq hb hbb hwb hzb hx0 hx1 hx2 HTK
      dsimp only
      go_upto_block 2 with fail
      rw [← HEB.out]
      clear HEB
      generalize wa.heap.size = g3 at HG HLB ⊢
      go_cut [] from 40 (fun wc => ∃ (q : Int) (b : Bool) (acc : List (Int × ByteArray)) (v : Value), Aside0 (acc.length ≤ 65535) ∧ Aside0 (Lr A B.length c pool w g3 q b (.slice Ap pool.length cp) tag f p v acc (.slice none 0 0) [] (.slice none 0 0) [] wc) ∧ Aside0 (Inv (readL B) q b (fun q => rK4 B pool tag f p acc q)) ∧ Aside0 (R64 q))
      case first =>
        go_wp2_with fail
        go_loopg [17] N3 (fun kq vc w' => ∃ (j : Nat) (q : Int) (b : Bool) (acc : List (Int × ByteArray)) (v : Value), vc = .int .i64 (j : Int) ∧ Aside0 (j ≤ N3) ∧ Aside0 (N3 - j = kq) ∧ Aside0 (acc.length = j) ∧ Aside0 (Lr A B.length c pool w g3 q b (.slice Ap pool.length cp) tag f p v acc (.slice none 0 0) [] (.slice none 0 0) [] w') ∧ Aside0 (Inv (readL B) q b (fun q => (rrules B pool (N3 - j) q acc).bind fun u => rK4 B pool tag f p u.1 u.2)) ∧ Aside0 (R64 q))
        case atStart => exact ⟨0, qa, ba, [], _, rfl, ⟨Nat.zero_le _⟩, ⟨rfl⟩, ⟨rfl⟩, HLB, HIB, HQB⟩
        case round =>
          obtain ⟨j, q, b, acc, v, rfl, HJ, HKQ, HAL, HL, HI, HQ⟩ := hrel
          obtain ⟨hx0, hx1, hx2⟩ := box101 HL.out.bs
          by_cases hlt : j < N3
          case neg =>
            have hj : j = N3 := by have := HJ.out; omega
            subst hj
            have HN := Aside0.mk (show Inv (readL B) q b (fun q => rK4 B pool tag f p acc q) by
              have h := HI.out
              rw [Nat.sub_self] at h
              exact h)
            clear hlt HI HKQ HJ
            go_wp2_with fail
            all_goals go_meet
            all_goals exact ⟨q, b, acc, v, ⟨by rw [HAL.out]; exact HNB3.out⟩, HL, HN, HQ⟩
          case pos =>
            have hlt2 : (j : Int) < (N3 : Int) := by omega
            cases b with
            | true =>
              have HN := Aside0.mk (show Inv (readL B) q true (fun q => rK4 B pool tag f p acc q) by
                rcases HI.out with ⟨_, h⟩ | ⟨h, _⟩
                · exact .inl ⟨rfl, h⟩
                · cases h)
              go_wp2_with fail
              all_goals go_meet
              all_goals exact ⟨q, true, acc, v, ⟨by rw [HAL.out]; have := HNB3.out; have := HJ.out; omega⟩, HL, HN, HQ⟩
            | false =>
              obtain ⟨k, hk⟩ : ∃ k, N3 - j = k + 1 := ⟨N3 - j - 1, by omega⟩
              have HK := Aside0.mk (show N3 - (j + 1) = k by omega)
              have hi := HI.out
              rw [hk] at hi
              simp only [rrules_bind] at hi
              have HLT := Aside0.mk hlt
              obtain ⟨Av, cv, hv⟩ := Kd.R_slice HL.out.r3
              subst hv
              clear hk hlt
              have HT1 := Aside0.mk (rtake.calls A c B (readL B) (fun y q => (rtext B pool q).bind fun t1 => (rrules B pool k t1.2 (acc ++ [(y, t1.1)])).bind fun u => rK4 B pool tag f p u.1 u.2) _ 1 _ wr (Kd.C_below HR.out HL.out.bw) HC.out HB.out HQ.out rfl hi)
              clear hi
              go_wp2_with fail
              refine HT1.out.mono ?_
              rintro e wx1 ⟨x1, q1, b1, rfl, hI, _, hq, hb⟩
              obtain ⟨wy1, hwb, hbb, hzb⟩ := new_rd A B.length c q1 b1 wx1
              have HE1 := Aside0.mk hwb
              have HGb1 := Aside0.mk (show w.heap.size + 1 < wx1.heap.size from blk_lt (HL.out.below hb).bl)
              have HGs1 := Aside0.mk (show g3 < wx1.heap.size from blk_lt (HL.out.below hb).bs)
              have HL1 := Aside0.mk ((HL.out.below hb).below hbb)
              have HZ1 := Aside0.mk hzb
              have HI1 := Aside0.mk hI
              have HQ1 := Aside0.mk hq
              clear hI hq hb hbb hwb hzb hx0 hx1 hx2
              dsimp only
              go_upto_region 18 with fail
              rw [← HE1.out]
              obtain ⟨hx0, hx1, hx2⟩ := box101 HZ1.out
              have HT2 := Aside0.mk (rtextI.calls A c B (readL B) pool Ap cp (fun y q => (rrules B pool k q (acc ++ [(x1, y)])).bind fun u => rK4 B pool tag f p u.1 u.2) _ _ wy1 (Kd.C_below HR.out HL1.out.bw) HC.out HB.out (Kd.R_reads' HL1.out.rp).2.2 HQ1.out HI1.out)
              go_wp2_with fail
              refine HT2.out.mono ?_
              rintro e wx2 ⟨x2, q2, b2, rfl, hI, hq, hb⟩
              obtain ⟨wy2, hwb, hbb, hzb⟩ := new_rd A B.length c q2 b2 wx2
              have HE2 := Aside0.mk hwb
              have HGb2 := Aside0.mk (show w.heap.size + 1 < wx2.heap.size from blk_lt (HL1.out.below hb).bl)
              have HGs2 := Aside0.mk (show g3 < wx2.heap.size from blk_lt (HL1.out.below hb).bs)
              have HL2 := Aside0.mk ((HL1.out.below hb).below hbb)
              have HZ2 := Aside0.mk hzb
              have HI2 := Aside0.mk hI
              have HQ2 := Aside0.mk hq
              clear hI hq hb hbb hwb hzb hx0 hx1 hx2
              dsimp only
              go_upto_region 19 with fail
              rw [← HE2.out]
              have HLA := Aside0.mk (show (acc.length + 1) * 24 ≤ 140737488355328 by have := HAL.out; have := HLT.out; have := HNB3.out; omega)
              have hcv : wy2.cell? ⟨w.heap.size + 1, 12, none⟩ = some (.slice Av acc.length cv) := (blk_cell HL2.out.bl 12).trans rfl
              go_upto_region 20 with (first | ((with_reducible refine gate_builtin (b := .append) (xs := #[.tmp 108, .tmp 112]) rfl ?_); at_builtin; refine Kd.R_append Kd.rule (w0 := w) w.heap.size rfl (.tmp 108) (.tmp 112) 25 58 (.agg #[.int .i64 0, .string ⟨#[]⟩]) 24 rfl Try.underlying25 info58 rfl (by decide) (by omega) (.slice Av acc.length cv) acc (x1, x2) [.int .i64 x1, .string x2] (fun _ => True) (fun _ => False) rfl rfl ⟨[.int .i64 x1], [.string x2], rfl, rfl, rfl⟩ (fun _ hk => hk.elim) ?aF HL2.out.r3 HL2.out.bw HL2.out.bw.size HLA.out ?_; (case aF => exact (fun _ _ => trivial)); intro vz wz ho_ hb_ hg_ _; obtain ⟨Az, cz, hvz⟩ := Kd.R_slice ho_; subst hvz; have HLz := Aside0.mk (HL2.out.app3 ho_ hb_ hg_); have HZz := Aside0.mk (blk_grown HZ2.out hg_ (Kd.R_ne HL2.out.r3 HZ2.out (by decide))); have hlz := blk_grown HL2.out.bl hg_ (Kd.R_ne HL2.out.r3 HL2.out.bl (by decide)); have hcz := (blk_cell hlz 12); have hfz := blk_frozen hlz 12; clear ho_ hb_ hg_))
              have e1 : (acc ++ [(x1, x2)]).length = acc.length + 1 := by rw [List.length_append]; rfl
              have hLz := HLz.out
              rw [e1] at hLz
              obtain ⟨ww, hww⟩ : ∃ ww, ww = wz.setCell ⟨w.heap.size + 1, 12, none⟩ (.slice Az (acc.length + 1) cz) := ⟨_, rfl⟩
              have HLw := Aside0.mk hLz
              have HZw := Aside0.mk (blk_far HZz.out (p := ⟨w.heap.size + 1, 12, none⟩) (by show wx2.heap.size ≠ w.heap.size + 1; have := HGb2.out; omega) (.slice Az (acc.length + 1) cz))
              rw [← hww] at HLw HZw
              rw [← hww]
              have HA2 := Aside0.mk (show (acc ++ [(x1, x2)]).length = j + 1 by rw [e1, HAL.out])
              clear hLz hww hcv hcz hfz hlz e1 HLz HZz
              obtain ⟨hx0, hx1, hx2⟩ := box101 HLw.out.bs
              have hfx := fun i => blk_frozen HLw.out.bs i
              obtain ⟨hz0, hz1, hz2⟩ := box101 HZw.out
              have hn1 : ¬ wx2.heap.size = g3 := by have := HGs2.out; have := blk_lt HL2.out.bs; omega
              go_wp2
              go_roundg (N3 - (j + 1))
              case measure => have := HLT.out; have := HKQ.out; omega
              case rel => exact ⟨j + 1, q2, b2, acc ++ [(x1, x2)], _, by have h1 := HLT.out; have h2 := HNB3.out; first | rfl | (congr 1; unfold wrap64; omega), ⟨HLT.out⟩, ⟨rfl⟩, HA2, ⟨HLw.out.lay q2 b2⟩, ⟨by rw [HK.out]; exact HI2.out⟩, HQ2⟩
      case rest =>
        obtain ⟨q, b, ac3, v3, HN3, HL, HI, HQ⟩ := hcut
        obtain ⟨hx0, hx1, hx2⟩ := box101 HL.out.bs
        have HTK := Aside0.mk (rtake.calls A c B (readL B) (fun n q => (rcurs B pool n.toNat q []).bind fun u => rK5 B pool tag f p ac3 u.1 u.2) _ 2 _ wc (Kd.C_below HR.out HL.out.bw) HC.out HB.out HQ.out rfl HI.out)
        go_wp2_with fail
        refine HTK.out.mono ?_
        rintro e wa ⟨n, qa, ba, rfl, hI, hrg, hq, hb⟩
        obtain ⟨N4, rfl⟩ := Int.eq_ofNat_of_zero_le hrg.1
        have HNB4 := Aside0.mk (show N4 ≤ 65535 by
          have h1 := hrg.2
          have h2 : (256 : Int) ^ (2 : Int).toNat = 65536 := by decide
          rw [h2] at h1; omega)
        obtain ⟨wb, hwb, hbb, hzb⟩ := new_rd A B.length c qa ba wa
        have HEB := Aside0.mk hwb
        have HG := Aside0.mk (show w.heap.size + 1 < wa.heap.size from blk_lt (HL.out.below hb).bl)
        have HLB := Aside0.mk (((HL.out.below hb).below hbb).read hzb HG.out)
        have HIB := Aside0.mk (show Inv (readL B) qa ba (fun q => (rcurs B pool (N4 - 0) q []).bind fun u => rK5 B pool tag f p ac3 u.1 u.2) from by have h := hI; simpa only [Int.toNat_natCast, Nat.sub_zero] using h)
        have HQB := Aside0.mk hq
        clear hI hrg hq hb hbb hwb hzb hx0 hx1 hx2 HTK
        dsimp only
        go_upto_block 4 with fail
        rw [← HEB.out]
        clear HEB
        generalize wa.heap.size = g4 at HG HLB ⊢
        go_cut [] from 40 (fun wc => ∃ (q : Int) (b : Bool) (acc : List (ByteArray × ByteArray × Int)) (v : Value), Aside0 (acc.length ≤ 65535) ∧ Aside0 (Lr A B.length c pool w g4 q b (.slice Ap pool.length cp) tag f p v3 ac3 v acc (.slice none 0 0) [] wc) ∧ Aside0 (Inv (readL B) q b (fun q => rK5 B pool tag f p ac3 acc q)) ∧ Aside0 (R64 q))
        case first =>
          go_wp2_with fail
          go_loopg [24] N4 (fun kq vc w' => ∃ (j : Nat) (q : Int) (b : Bool) (acc : List (ByteArray × ByteArray × Int)) (v : Value), vc = .int .i64 (j : Int) ∧ Aside0 (j ≤ N4) ∧ Aside0 (N4 - j = kq) ∧ Aside0 (acc.length = j) ∧ Aside0 (Lr A B.length c pool w g4 q b (.slice Ap pool.length cp) tag f p v3 ac3 v acc (.slice none 0 0) [] w') ∧ Aside0 (Inv (readL B) q b (fun q => (rcurs B pool (N4 - j) q acc).bind fun u => rK5 B pool tag f p ac3 u.1 u.2)) ∧ Aside0 (R64 q))
          case atStart => exact ⟨0, qa, ba, [], _, rfl, ⟨Nat.zero_le _⟩, ⟨rfl⟩, ⟨rfl⟩, HLB, HIB, HQB⟩
          case round =>
            obtain ⟨j, q, b, acc, v, rfl, HJ, HKQ, HAL, HL, HI, HQ⟩ := hrel
            obtain ⟨hx0, hx1, hx2⟩ := box101 HL.out.bs
            by_cases hlt : j < N4
            case neg =>
              have hj : j = N4 := by have := HJ.out; omega
              subst hj
              have HN := Aside0.mk (show Inv (readL B) q b (fun q => rK5 B pool tag f p ac3 acc q) by
                have h := HI.out
                rw [Nat.sub_self] at h
                exact h)
              clear hlt HI HKQ HJ
              go_wp2_with fail
              all_goals go_meet
              all_goals exact ⟨q, b, acc, v, ⟨by rw [HAL.out]; exact HNB4.out⟩, HL, HN, HQ⟩
            case pos =>
              have hlt2 : (j : Int) < (N4 : Int) := by omega
              cases b with
              | true =>
                have HN := Aside0.mk (show Inv (readL B) q true (fun q => rK5 B pool tag f p ac3 acc q) by
                  rcases HI.out with ⟨_, h⟩ | ⟨h, _⟩
                  · exact .inl ⟨rfl, h⟩
                  · cases h)
                go_wp2_with fail
                all_goals go_meet
                all_goals exact ⟨q, true, acc, v, ⟨by rw [HAL.out]; have := HNB4.out; have := HJ.out; omega⟩, HL, HN, HQ⟩
              | false =>
                obtain ⟨k, hk⟩ : ∃ k, N4 - j = k + 1 := ⟨N4 - j - 1, by omega⟩
                have HK := Aside0.mk (show N4 - (j + 1) = k by omega)
                have hi := HI.out
                rw [hk] at hi
                simp only [rcurs_bind] at hi
                have HLT := Aside0.mk hlt
                obtain ⟨Av, cv, hv⟩ := Kd.R_slice HL.out.r4
                subst hv
                clear hk hlt
                have HT1 := Aside0.mk (rtextI.calls A c B (readL B) pool Ap cp (fun y q => (rtext B pool q).bind fun t1 => (rnum B 1 t1.2).bind fun t2 => (rcurs B pool k t2.2 (acc ++ [(y, t1.1, t2.1)])).bind fun u => rK5 B pool tag f p ac3 u.1 u.2) _ _ wr (Kd.C_below HR.out HL.out.bw) HC.out HB.out (Kd.R_reads' HL.out.rp).2.2 HQ.out hi)
                clear hi
                go_wp2_with fail
                refine HT1.out.mono ?_
                rintro e wx1 ⟨x1, q1, b1, rfl, hI, hq, hb⟩
                obtain ⟨wy1, hwb, hbb, hzb⟩ := new_rd A B.length c q1 b1 wx1
                have HE1 := Aside0.mk hwb
                have HGb1 := Aside0.mk (show w.heap.size + 1 < wx1.heap.size from blk_lt (HL.out.below hb).bl)
                have HGs1 := Aside0.mk (show g4 < wx1.heap.size from blk_lt (HL.out.below hb).bs)
                have HL1 := Aside0.mk ((HL.out.below hb).below hbb)
                have HZ1 := Aside0.mk hzb
                have HI1 := Aside0.mk hI
                have HQ1 := Aside0.mk hq
                clear hI hq hb hbb hwb hzb hx0 hx1 hx2
                dsimp only
                go_upto_region 26 with fail
                rw [← HE1.out]
                obtain ⟨hx0, hx1, hx2⟩ := box101 HZ1.out
                have HT2 := Aside0.mk (rtextI.calls A c B (readL B) pool Ap cp (fun y q => (rnum B 1 q).bind fun t2 => (rcurs B pool k t2.2 (acc ++ [(x1, y, t2.1)])).bind fun u => rK5 B pool tag f p ac3 u.1 u.2) _ _ wy1 (Kd.C_below HR.out HL1.out.bw) HC.out HB.out (Kd.R_reads' HL1.out.rp).2.2 HQ1.out HI1.out)
                go_wp2_with fail
                refine HT2.out.mono ?_
                rintro e wx2 ⟨x2, q2, b2, rfl, hI, hq, hb⟩
                obtain ⟨wy2, hwb, hbb, hzb⟩ := new_rd A B.length c q2 b2 wx2
                have HE2 := Aside0.mk hwb
                have HGb2 := Aside0.mk (show w.heap.size + 1 < wx2.heap.size from blk_lt (HL1.out.below hb).bl)
                have HGs2 := Aside0.mk (show g4 < wx2.heap.size from blk_lt (HL1.out.below hb).bs)
                have HL2 := Aside0.mk ((HL1.out.below hb).below hbb)
                have HZ2 := Aside0.mk hzb
                have HI2 := Aside0.mk hI
                have HQ2 := Aside0.mk hq
                clear hI hq hb hbb hwb hzb hx0 hx1 hx2
                dsimp only
                go_upto_region 27 with fail
                rw [← HE2.out]
                obtain ⟨hx0, hx1, hx2⟩ := box101 HZ2.out
                have HT3 := Aside0.mk (rtake.calls A c B (readL B) (fun y q => (rcurs B pool k q (acc ++ [(x1, x2, y)])).bind fun u => rK5 B pool tag f p ac3 u.1 u.2) _ 1 _ wy2 (Kd.C_below HR.out HL2.out.bw) HC.out HB.out HQ2.out rfl HI2.out)
                go_wp2_with fail
                refine HT3.out.mono ?_
                rintro e wx3 ⟨x3, q3, b3, rfl, hI, _, hq, hb⟩
                obtain ⟨wy3, hwb, hbb, hzb⟩ := new_rd A B.length c q3 b3 wx3
                have HE3 := Aside0.mk hwb
                have HGb3 := Aside0.mk (show w.heap.size + 1 < wx3.heap.size from blk_lt (HL2.out.below hb).bl)
                have HGs3 := Aside0.mk (show g4 < wx3.heap.size from blk_lt (HL2.out.below hb).bs)
                have HL3 := Aside0.mk ((HL2.out.below hb).below hbb)
                have HZ3 := Aside0.mk hzb
                have HI3 := Aside0.mk hI
                have HQ3 := Aside0.mk hq
                clear hI hq hb hbb hwb hzb hx0 hx1 hx2
                dsimp only
                go_upto_region 28 with fail
                rw [← HE3.out]
                have HLA := Aside0.mk (show (acc.length + 1) * 40 ≤ 140737488355328 by have := HAL.out; have := HLT.out; have := HNB4.out; omega)
                have hcv : wy3.cell? ⟨w.heap.size + 1, 13, none⟩ = some (.slice Av acc.length cv) := (blk_cell HL3.out.bl 13).trans rfl
                go_upto_region 29 with (first | ((with_reducible refine gate_builtin (b := .append) (xs := #[.tmp 149, .tmp 154]) rfl ?_); at_builtin; refine Kd.R_append Kd.cur (w0 := w) w.heap.size rfl (.tmp 149) (.tmp 154) 26 60 (.agg #[.string ⟨#[]⟩, .string ⟨#[]⟩, .int .i64 0]) 40 rfl Try.underlying26 info60 rfl (by decide) (by omega) (.slice Av acc.length cv) acc (x1, x2, x3) [.string x1, .string x2, .int .i64 x3] (fun _ => True) (fun _ => False) rfl rfl ⟨[.string x1], [.string x2, .int .i64 x3], rfl, rfl, ⟨[.string x2], [.int .i64 x3], rfl, rfl, rfl⟩⟩ (fun _ hk => hk.elim) ?aF HL3.out.r4 HL3.out.bw HL3.out.bw.size HLA.out ?_; (case aF => exact (fun _ _ => trivial)); intro vz wz ho_ hb_ hg_ _; obtain ⟨Az, cz, hvz⟩ := Kd.R_slice ho_; subst hvz; have HLz := Aside0.mk (HL3.out.app4 ho_ hb_ hg_); have HZz := Aside0.mk (blk_grown HZ3.out hg_ (Kd.R_ne HL3.out.r4 HZ3.out (by decide))); have hlz := blk_grown HL3.out.bl hg_ (Kd.R_ne HL3.out.r4 HL3.out.bl (by decide)); have hcz := (blk_cell hlz 13); have hfz := blk_frozen hlz 13; clear ho_ hb_ hg_))
                have e1 : (acc ++ [(x1, x2, x3)]).length = acc.length + 1 := by rw [List.length_append]; rfl
                have hLz := HLz.out
                rw [e1] at hLz
                obtain ⟨ww, hww⟩ : ∃ ww, ww = wz.setCell ⟨w.heap.size + 1, 13, none⟩ (.slice Az (acc.length + 1) cz) := ⟨_, rfl⟩
                have HLw := Aside0.mk hLz
                have HZw := Aside0.mk (blk_far HZz.out (p := ⟨w.heap.size + 1, 13, none⟩) (by show wx3.heap.size ≠ w.heap.size + 1; have := HGb3.out; omega) (.slice Az (acc.length + 1) cz))
                rw [← hww] at HLw HZw
                rw [← hww]
                have HA2 := Aside0.mk (show (acc ++ [(x1, x2, x3)]).length = j + 1 by rw [e1, HAL.out])
                clear hLz hww hcv hcz hfz hlz e1 HLz HZz
                obtain ⟨hx0, hx1, hx2⟩ := box101 HLw.out.bs
                have hfx := fun i => blk_frozen HLw.out.bs i
                obtain ⟨hz0, hz1, hz2⟩ := box101 HZw.out
                have hn1 : ¬ wx3.heap.size = g4 := by have := HGs3.out; have := blk_lt HL3.out.bs; omega
                go_wp2
                go_roundg (N4 - (j + 1))
                case measure => have := HLT.out; have := HKQ.out; omega
                case rel => exact ⟨j + 1, q3, b3, acc ++ [(x1, x2, x3)], _, by have h1 := HLT.out; have h2 := HNB4.out; first | rfl | (congr 1; unfold wrap64; omega), ⟨HLT.out⟩, ⟨rfl⟩, HA2, ⟨HLw.out.lay q3 b3⟩, ⟨by rw [HK.out]; exact HI3.out⟩, HQ3⟩
        case rest =>
          obtain ⟨q, b, ac4, v4, HN4, HL, HI, HQ⟩ := hcut
          obtain ⟨hx0, hx1, hx2⟩ := box101 HL.out.bs
          have HTK := Aside0.mk (rtake.calls A c B (readL B) (fun n q => (rcomps B pool n.toNat q []).bind fun u => rK6 tag f p ac3 ac4 u.1 u.2) _ 2 _ wc (Kd.C_below HR.out HL.out.bw) HC.out HB.out HQ.out rfl HI.out)
          go_wp2_with fail
          refine HTK.out.mono ?_
          rintro e wa ⟨n, qa, ba, rfl, hI, hrg, hq, hb⟩
          obtain ⟨N5, rfl⟩ := Int.eq_ofNat_of_zero_le hrg.1
          have HNB5 := Aside0.mk (show N5 ≤ 65535 by
            have h1 := hrg.2
            have h2 : (256 : Int) ^ (2 : Int).toNat = 65536 := by decide
            rw [h2] at h1; omega)
          obtain ⟨wb, hwb, hbb, hzb⟩ := new_rd A B.length c qa ba wa
          have HEB := Aside0.mk hwb
          have HG := Aside0.mk (show w.heap.size + 1 < wa.heap.size from blk_lt (HL.out.below hb).bl)
          have HLB := Aside0.mk (((HL.out.below hb).below hbb).read hzb HG.out)
          have HIB := Aside0.mk (show Inv (readL B) qa ba (fun q => (rcomps B pool (N5 - 0) q []).bind fun u => rK6 tag f p ac3 ac4 u.1 u.2) from by have h := hI; simpa only [Int.toNat_natCast, Nat.sub_zero] using h)
          have HQB := Aside0.mk hq
          clear hI hrg hq hb hbb hwb hzb hx0 hx1 hx2 HTK
          dsimp only
          go_upto_block 6 with fail
          rw [← HEB.out]
          clear HEB
          generalize wa.heap.size = g5 at HG HLB ⊢
          go_cut [] from 40 (fun wc => ∃ (q : Int) (b : Bool) (acc : List (Int × Int × ByteArray)) (v : Value), Aside0 (acc.length ≤ 65535) ∧ Aside0 (Lr A B.length c pool w g5 q b (.slice Ap pool.length cp) tag f p v3 ac3 v4 ac4 v acc wc) ∧ Aside0 (Inv (readL B) q b (fun q => rK6 tag f p ac3 ac4 acc q)) ∧ Aside0 (R64 q))
          case first =>
            go_wp2_with fail
            go_loopg [33] N5 (fun kq vc w' => ∃ (j : Nat) (q : Int) (b : Bool) (acc : List (Int × Int × ByteArray)) (v : Value), vc = .int .i64 (j : Int) ∧ Aside0 (j ≤ N5) ∧ Aside0 (N5 - j = kq) ∧ Aside0 (acc.length = j) ∧ Aside0 (Lr A B.length c pool w g5 q b (.slice Ap pool.length cp) tag f p v3 ac3 v4 ac4 v acc w') ∧ Aside0 (Inv (readL B) q b (fun q => (rcomps B pool (N5 - j) q acc).bind fun u => rK6 tag f p ac3 ac4 u.1 u.2)) ∧ Aside0 (R64 q))
            case atStart => exact ⟨0, qa, ba, [], _, rfl, ⟨Nat.zero_le _⟩, ⟨rfl⟩, ⟨rfl⟩, HLB, HIB, HQB⟩
            case round =>
              obtain ⟨j, q, b, acc, v, rfl, HJ, HKQ, HAL, HL, HI, HQ⟩ := hrel
              obtain ⟨hx0, hx1, hx2⟩ := box101 HL.out.bs
              by_cases hlt : j < N5
              case neg =>
                have hj : j = N5 := by have := HJ.out; omega
                subst hj
                have HN := Aside0.mk (show Inv (readL B) q b (fun q => rK6 tag f p ac3 ac4 acc q) by
                  have h := HI.out
                  rw [Nat.sub_self] at h
                  exact h)
                clear hlt HI HKQ HJ
                go_wp2_with fail
                all_goals go_meet
                all_goals exact ⟨q, b, acc, v, ⟨by rw [HAL.out]; exact HNB5.out⟩, HL, HN, HQ⟩
              case pos =>
                have hlt2 : (j : Int) < (N5 : Int) := by omega
                cases b with
                | true =>
                  have HN := Aside0.mk (show Inv (readL B) q true (fun q => rK6 tag f p ac3 ac4 acc q) by
                    rcases HI.out with ⟨_, h⟩ | ⟨h, _⟩
                    · exact .inl ⟨rfl, h⟩
                    · cases h)
                  go_wp2_with fail
                  all_goals go_meet
                  all_goals exact ⟨q, true, acc, v, ⟨by rw [HAL.out]; have := HNB5.out; have := HJ.out; omega⟩, HL, HN, HQ⟩
                | false =>
                  obtain ⟨k, hk⟩ : ∃ k, N5 - j = k + 1 := ⟨N5 - j - 1, by omega⟩
                  have HK := Aside0.mk (show N5 - (j + 1) = k by omega)
                  have hi := HI.out
                  rw [hk] at hi
                  simp only [rcomps_bind] at hi
                  have HLT := Aside0.mk hlt
                  obtain ⟨Av, cv, hv⟩ := Kd.R_slice HL.out.r5
                  subst hv
                  clear hk hlt
                  have HT1 := Aside0.mk (rtake.calls A c B (readL B) (fun y q => (rnum B 1 q).bind fun t1 => (rtext B pool t1.2).bind fun t2 => (rcomps B pool k t2.2 (acc ++ [(y, t1.1, t2.1)])).bind fun u => rK6 tag f p ac3 ac4 u.1 u.2) _ 1 _ wr (Kd.C_below HR.out HL.out.bw) HC.out HB.out HQ.out rfl hi)
                  clear hi
                  go_wp2_with fail
                  refine HT1.out.mono ?_
                  rintro e wx1 ⟨x1, q1, b1, rfl, hI, _, hq, hb⟩
                  obtain ⟨wy1, hwb, hbb, hzb⟩ := new_rd A B.length c q1 b1 wx1
                  have HE1 := Aside0.mk hwb
                  have HGb1 := Aside0.mk (show w.heap.size + 1 < wx1.heap.size from blk_lt (HL.out.below hb).bl)
                  have HGs1 := Aside0.mk (show g5 < wx1.heap.size from blk_lt (HL.out.below hb).bs)
                  have HL1 := Aside0.mk ((HL.out.below hb).below hbb)
                  have HZ1 := Aside0.mk hzb
                  have HI1 := Aside0.mk hI
                  have HQ1 := Aside0.mk hq
                  clear hI hq hb hbb hwb hzb hx0 hx1 hx2
                  dsimp only
                  go_upto_region 35 with fail
                  rw [← HE1.out]
                  obtain ⟨hx0, hx1, hx2⟩ := box101 HZ1.out
                  have HT2 := Aside0.mk (rtake.calls A c B (readL B) (fun y q => (rtext B pool q).bind fun t2 => (rcomps B pool k t2.2 (acc ++ [(x1, y, t2.1)])).bind fun u => rK6 tag f p ac3 ac4 u.1 u.2) _ 1 _ wy1 (Kd.C_below HR.out HL1.out.bw) HC.out HB.out HQ1.out rfl HI1.out)
                  go_wp2_with fail
                  refine HT2.out.mono ?_
                  rintro e wx2 ⟨x2, q2, b2, rfl, hI, _, hq, hb⟩
                  obtain ⟨wy2, hwb, hbb, hzb⟩ := new_rd A B.length c q2 b2 wx2
                  have HE2 := Aside0.mk hwb
                  have HGb2 := Aside0.mk (show w.heap.size + 1 < wx2.heap.size from blk_lt (HL1.out.below hb).bl)
                  have HGs2 := Aside0.mk (show g5 < wx2.heap.size from blk_lt (HL1.out.below hb).bs)
                  have HL2 := Aside0.mk ((HL1.out.below hb).below hbb)
                  have HZ2 := Aside0.mk hzb
                  have HI2 := Aside0.mk hI
                  have HQ2 := Aside0.mk hq
                  clear hI hq hb hbb hwb hzb hx0 hx1 hx2
                  dsimp only
                  go_upto_region 36 with fail
                  rw [← HE2.out]
                  obtain ⟨hx0, hx1, hx2⟩ := box101 HZ2.out
                  have HT3 := Aside0.mk (rtextI.calls A c B (readL B) pool Ap cp (fun y q => (rcomps B pool k q (acc ++ [(x1, x2, y)])).bind fun u => rK6 tag f p ac3 ac4 u.1 u.2) _ _ wy2 (Kd.C_below HR.out HL2.out.bw) HC.out HB.out (Kd.R_reads' HL2.out.rp).2.2 HQ2.out HI2.out)
                  go_wp2_with fail
                  refine HT3.out.mono ?_
                  rintro e wx3 ⟨x3, q3, b3, rfl, hI, hq, hb⟩
                  obtain ⟨wy3, hwb, hbb, hzb⟩ := new_rd A B.length c q3 b3 wx3
                  have HE3 := Aside0.mk hwb
                  have HGb3 := Aside0.mk (show w.heap.size + 1 < wx3.heap.size from blk_lt (HL2.out.below hb).bl)
                  have HGs3 := Aside0.mk (show g5 < wx3.heap.size from blk_lt (HL2.out.below hb).bs)
                  have HL3 := Aside0.mk ((HL2.out.below hb).below hbb)
                  have HZ3 := Aside0.mk hzb
                  have HI3 := Aside0.mk hI
                  have HQ3 := Aside0.mk hq
                  clear hI hq hb hbb hwb hzb hx0 hx1 hx2
                  dsimp only
                  go_upto_region 37 with fail
                  rw [← HE3.out]
                  have HLA := Aside0.mk (show (acc.length + 1) * 32 ≤ 140737488355328 by have := HAL.out; have := HLT.out; have := HNB5.out; omega)
                  have hcv : wy3.cell? ⟨w.heap.size + 1, 14, none⟩ = some (.slice Av acc.length cv) := (blk_cell HL3.out.bl 14).trans rfl
                  go_upto_region 38 with (first | ((with_reducible refine gate_builtin (b := .append) (xs := #[.tmp 190, .tmp 195]) rfl ?_); at_builtin; refine Kd.R_append Kd.comp (w0 := w) w.heap.size rfl (.tmp 190) (.tmp 195) 27 62 (.agg #[.int .i64 0, .int .i64 0, .string ⟨#[]⟩]) 32 rfl Try.underlying27 info62 rfl (by decide) (by omega) (.slice Av acc.length cv) acc (x1, x2, x3) [.int .i64 x1, .int .i64 x2, .string x3] (fun _ => True) (fun _ => False) rfl rfl ⟨[.int .i64 x1], [.int .i64 x2, .string x3], rfl, rfl, ⟨[.int .i64 x2], [.string x3], rfl, rfl, rfl⟩⟩ (fun _ hk => hk.elim) ?aF HL3.out.r5 HL3.out.bw HL3.out.bw.size HLA.out ?_; (case aF => exact (fun _ _ => trivial)); intro vz wz ho_ hb_ hg_ _; obtain ⟨Az, cz, hvz⟩ := Kd.R_slice ho_; subst hvz; have HLz := Aside0.mk (HL3.out.app5 ho_ hb_ hg_); have HZz := Aside0.mk (blk_grown HZ3.out hg_ (Kd.R_ne HL3.out.r5 HZ3.out (by decide))); have hlz := blk_grown HL3.out.bl hg_ (Kd.R_ne HL3.out.r5 HL3.out.bl (by decide)); have hcz := (blk_cell hlz 14); have hfz := blk_frozen hlz 14; clear ho_ hb_ hg_))
                  have e1 : (acc ++ [(x1, x2, x3)]).length = acc.length + 1 := by rw [List.length_append]; rfl
                  have hLz := HLz.out
                  rw [e1] at hLz
                  obtain ⟨ww, hww⟩ : ∃ ww, ww = wz.setCell ⟨w.heap.size + 1, 14, none⟩ (.slice Az (acc.length + 1) cz) := ⟨_, rfl⟩
                  have HLw := Aside0.mk hLz
                  have HZw := Aside0.mk (blk_far HZz.out (p := ⟨w.heap.size + 1, 14, none⟩) (by show wx3.heap.size ≠ w.heap.size + 1; have := HGb3.out; omega) (.slice Az (acc.length + 1) cz))
                  rw [← hww] at HLw HZw
                  rw [← hww]
                  have HA2 := Aside0.mk (show (acc ++ [(x1, x2, x3)]).length = j + 1 by rw [e1, HAL.out])
                  clear hLz hww hcv hcz hfz hlz e1 HLz HZz
                  obtain ⟨hx0, hx1, hx2⟩ := box101 HLw.out.bs
                  have hfx := fun i => blk_frozen HLw.out.bs i
                  obtain ⟨hz0, hz1, hz2⟩ := box101 HZw.out
                  have hn1 : ¬ wx3.heap.size = g5 := by have := HGs3.out; have := blk_lt HL3.out.bs; omega
                  go_wp2
                  go_roundg (N5 - (j + 1))
                  case measure => have := HLT.out; have := HKQ.out; omega
                  case rel => exact ⟨j + 1, q3, b3, acc ++ [(x1, x2, x3)], _, by have h1 := HLT.out; have h2 := HNB5.out; first | rfl | (congr 1; unfold wrap64; omega), ⟨HLT.out⟩, ⟨rfl⟩, HA2, ⟨HLw.out.lay q3 b3⟩, ⟨by rw [HK.out]; exact HI3.out⟩, HQ3⟩
          case rest =>
            obtain ⟨q, b, ac5, v5, HN5, HL, HI, HQ⟩ := hcut
            obtain ⟨A3, c3, hv3⟩ := Kd.R_slice HL.out.r3
            subst hv3
            obtain ⟨A4, c4, hv4⟩ := Kd.R_slice HL.out.r4
            subst hv4
            obtain ⟨A5, c5, hv5⟩ := Kd.R_slice HL.out.r5
            subst hv5
            obtain ⟨hx0, hx1, hx2, hx3, hx4, hx5, hx6, hx7, hx8, hx9, hx10, hx11, hx12, hx13, hx14⟩ := boxFCells HL.out.bl
            obtain ⟨hy0, hy1, hy2, hy3, hy4, hy5, hy6, hy7, hy8, hy9, hy10, hy11, hy12, hy13, hy14⟩ := boxFCells HL.out.br
            have hfz := fun i => blk_frozen HL.out.br i
            obtain ⟨hb0, hb1, hb2⟩ := box101 HL.out.bs
            have hn1 : ¬ g5 = w.heap.size := by have := HL.out.hg; omega
            have hn2 : ¬ w.heap.size = g5 := by have := HL.out.hg; omega
            have hn3 : (g5 = w.heap.size) = False := eq_false hn1
            have hn4 : (w.heap.size = g5) = False := eq_false hn2
            go_wp2_with fail
            go_region_held3 (fun w' => w'.cell? ⟨w.heap.size + 1, 0, none⟩ = some (.string tag) ∧ w'.cell? ⟨w.heap.size + 1, 1, none⟩ = some (.int .i32 (f 0)) ∧ w'.cell? ⟨w.heap.size + 1, 2, none⟩ = some (.int .i32 (f 1)) ∧ w'.cell? ⟨w.heap.size + 1, 3, none⟩ = some (.int .i32 (f 2)) ∧ w'.cell? ⟨w.heap.size + 1, 4, none⟩ = some (.int .i32 (f 3)) ∧ w'.cell? ⟨w.heap.size + 1, 5, none⟩ = some (.int .i32 (f 4)) ∧ w'.cell? ⟨w.heap.size + 1, 6, none⟩ = some (.int .i32 (f 5)) ∧ w'.cell? ⟨w.heap.size + 1, 7, none⟩ = some (.int .i32 (f 6)) ∧ w'.cell? ⟨w.heap.size + 1, 8, none⟩ = some (.string (p 0)) ∧ w'.cell? ⟨w.heap.size + 1, 9, none⟩ = some (.string (p 1)) ∧ w'.cell? ⟨w.heap.size + 1, 10, none⟩ = some (.string (p 2)) ∧ w'.cell? ⟨w.heap.size + 1, 11, none⟩ = some (.string (p 3)) ∧ w'.cell? ⟨w.heap.size + 1, 12, none⟩ = some (.slice A3 ac3.length c3) ∧ w'.cell? ⟨w.heap.size + 1, 13, none⟩ = some (.slice A4 ac4.length c4) ∧ w'.cell? ⟨w.heap.size + 1, 14, none⟩ = some (.slice A5 ac5.length c5) ∧ w'.cell? ⟨g5, 2, none⟩ = some (.bool b)) (go_keep) (fail)
            all_goals
              go_wp2_with fail
              clear hn1 hn2 hn3 hn4 hx0 hx1 hx2 hx3 hx4 hx5 hx6 hx7 hx8 hx9 hx10 hx11 hx12 hx13 hx14 hy0 hy1 hy2 hy3 hy4 hy5 hy6 hy7 hy8 hy9 hy10 hy11 hy12 hy13 hy14 hb0 hb1 hb2 hfz
              show bodyPost Try.prog Try.f43 _ Exit.ret _ (fill w.heap.size wc [.string tag, .int .i32 (f 0), .int .i32 (f 1), .int .i32 (f 2), .int .i32 (f 3), .int .i32 (f 4), .int .i32 (f 5), .int .i32 (f 6), .string (p 0), .string (p 1), .string (p 2), .string (p 3), .slice A3 ac3.length c3, .slice A4 ac4.length c4, .slice A5 ac5.length c5] 0).drew
              have k1 := fill_box HL.out.br tag f p (.slice A3 ac3.length c3) (.slice A4 ac4.length c4) (.slice A5 ac5.length c5)
              have r3 := (fill_row (t := 29) (by decide) [.string tag, .int .i32 (f 0), .int .i32 (f 1), .int .i32 (f 2), .int .i32 (f 3), .int .i32 (f 4), .int .i32 (f 5), .int .i32 (f 6), .string (p 0), .string (p 1), .string (p 2), .string (p 3), .slice A3 ac3.length c3, .slice A4 ac4.length c4, .slice A5 ac5.length c5] wc 0 _ HL.out.br HL.out.r3)
              have r4 := (fill_row (t := 29) (by decide) [.string tag, .int .i32 (f 0), .int .i32 (f 1), .int .i32 (f 2), .int .i32 (f 3), .int .i32 (f 4), .int .i32 (f 5), .int .i32 (f 6), .string (p 0), .string (p 1), .string (p 2), .string (p 3), .slice A3 ac3.length c3, .slice A4 ac4.length c4, .slice A5 ac5.length c5] wc 0 _ HL.out.br HL.out.r4)
              have r5 := (fill_row (t := 29) (by decide) [.string tag, .int .i32 (f 0), .int .i32 (f 1), .int .i32 (f 2), .int .i32 (f 3), .int .i32 (f 4), .int .i32 (f 5), .int .i32 (f 6), .string (p 0), .string (p 1), .string (p 2), .string (p 3), .slice A3 ac3.length c3, .slice A4 ac4.length c4, .slice A5 ac5.length c5] wc 0 _ HL.out.br HL.out.r5)
              have kb := fill_below (g := w.heap.size) (r := w.heap.size) (Nat.le_refl _) [.string tag, .int .i32 (f 0), .int .i32 (f 1), .int .i32 (f 2), .int .i32 (f 3), .int .i32 (f 4), .int .i32 (f 5), .int .i32 (f 6), .string (p 0), .string (p 1), .string (p 2), .string (p 3), .slice A3 ac3.length c3, .slice A4 ac4.length c4, .slice A5 ac5.length c5] wc 0 HL.out.bw
              generalize fill w.heap.size wc [.string tag, .int .i32 (f 0), .int .i32 (f 1), .int .i32 (f 2), .int .i32 (f 3), .int .i32 (f 4), .int .i32 (f 5), .int .i32 (f 6), .string (p 0), .string (p 1), .string (p 2), .string (p 3), .slice A3 ac3.length c3, .slice A4 ac4.length c4, .slice A5 ac5.length c5] 0 = W at k1 r3 r4 r5 kb ⊢
              refine bodyPost_ret (results_ct rfl _ _ w.heap.size 29 _ (0, 0) _ rfl (blk_drew k1) Try.underlying29 rfl (by kernel_rfl)) rfl ?_
              refine ⟨mkLoc tag f p ac3 ac4 ac5, ⟨A3, c3, A4, c4, A5, c5⟩, !b, rfl, ⟨Kd.R_drew r3, Kd.R_drew r4, Kd.R_drew r5, ?_⟩, ⟨HN3.out, HN4.out, HN5.out⟩, ?_, kb.drew⟩
              · intro y hy
                simp only [mkLoc, List.mem_cons, List.not_mem_nil, or_false] at hy
                rcases hy with rfl | rfl | rfl | rfl | rfl | rfl | rfl <;> exact HF6.out _
              · rcases HI.out with ⟨h1, h2⟩ | ⟨h1, h2⟩
                · exact .inr ⟨by rw [h1]; rfl, h2⟩
                · exact .inl ⟨by rw [h1]; rfl, h2⟩
end Go.Proofs.Ytmhpcjncngonbaa.Q
