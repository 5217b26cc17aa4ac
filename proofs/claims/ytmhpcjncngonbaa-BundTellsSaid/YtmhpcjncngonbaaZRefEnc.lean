/- Texts of this claim, joined; the first one's sentence stands below. -/
import Derived.Test.YtmhpcjncngonbaaZRefJoin
import Derived.Test.YtmhpcjncngonbaaZRefTri
import Derived.Test.YtmhpcjncngonbaaZRefCut
import Derived.Test.YtmhpcjncngonbaaZRTexts
import Derived.Test.YtmhpcjncngonbaaZM6
import Derived.Test.YtmhpcjncngonbaaZM4
/- What the reference's Encode comes to; rows of 65535 at most. -/
namespace Go.Proofs.Ytmhpcjncngonbaa.Q
open Go.RowKit Go.Proofs.Ytmhpcjncngonbaa.Mine Go.Proofs.YtmhpcjncngonbaaW.PrintWords Go.Proofs.YtmhpcjncngonbaaW.PrintLast Go.Proofs.YtmhpcjncngonbaaW.PrintMore
set_option linter.unusedVariables false
set_option linter.unusedSimpArgs false
theorem qs_len (p : List ByteArray) (L : Loc) : (qs p L).length = 6 := rfl
theorem encR_yes {L : Loc} (hL : LocB L) (h : isPoolB (gpool (textsL L)) = true) (h2 : mayR L = true) (hs : LocS L) : encE L = 0 ∧ encR L = putC (bundleB (gpool (textsL L)) L) ∧ (bundleB (gpool (textsL L)) L).length < 5000000 := by
  have ho : okB (nmAll (gpool (textsL L)) L) = true := by rw [← may_ok (isPoolB_facts h).2.1 L hL hs (mem_gpoolL L)]; exact h2
  have he := encIn_yes hL h ho
  exact ⟨by unfold encE; rw [he], by unfold encR; rw [he], (enc_len hL he).2.1⟩
theorem encR_no {L : Loc} (hL : LocB L) (hs : LocS L) (h : isPoolB (gpool (textsL L)) = false ∨ (isPoolB (gpool (textsL L)) = true ∧ mayR L = false)) : encE L = 1 ∧ encR L = [] := by
  have he : encIn L = none := by
    rcases h with h | ⟨h, h2⟩
    · exact encIn_no (.inl h)
    · exact encIn_no (.inr (by rw [← may_ok (isPoolB_facts h).2.1 L hL hs (mem_gpoolL L)]; exact h2))
  exact ⟨by unfold encE; rw [he], by unfold encR; rw [he]⟩
set_option maxHeartbeats 8000000 in
set_option maxRecDepth 100000 in
theorem refEncode.calls (L : Loc) (a : Lat) (w : World) (h : LocC L a w) (hL : LocB L) :
    Calls Try.prog 18 #[locV L a] w fun e w' => ∃ v0_ : Value, e = .returned (.tuple #[v0_, .int .i64 (encE L)]) ∧ Kd.R (Kd.int .u8) 5 w' w.heap.size (fun _ => True) v0_ (encR L) ∧ Below w.heap.size w w' := by
  obtain ⟨w1, hw1⟩ : ∃ w1, w1 = w.alloc (.cells (boxL L a) 29) := ⟨_, rfl⟩
  have hbel : Below w.heap.size w w1 := by rw [hw1]; exact (Below.refl w.heap.size w).alloc (Nat.le_refl _) _
  have hbx : w1.heap[w.heap.size]? = some (.cells (boxL L a) 29 (0, 0)) := by rw [hw1]; exact blk_new w _
  have HBEL := Aside0.mk hbel
  have HBX := Aside0.mk hbx
  have HW1 := Aside0.mk hw1
  have HLB := Aside0.mk hL
  have HLC := Aside0.mk (h.below hbel)
  have HTX := Aside0.mk (exergueref16_Texts.calls L a w1 (h.below hbel) hL)
  have htl := textsL_len L
  have HTL := Aside0.mk (show (textsL L).length < 8796093022208 by have h1 := hL.1; have h2 := hL.2.1; have h3 := hL.2.2; omega)
  obtain ⟨p, hp⟩ : ∃ p, p = gpool (textsL L) := ⟨_, rfl⟩
  have HP := Aside0.mk hp
  obtain ⟨hc0, hc1, hc2, hc3, hc4, hc5, hc6, hc7, hc8, hc9, hc10, hc11, hc12, hc13, hc14⟩ := boxCells hbx
  clear h hL hbel hbx hw1 htl hp
  go_enter Try.func18, Try.ntmps18
  go_wp2_with fail
  rw [← HW1.out]
  go_wp2_with fail
  refine HTX.out.mono ?_
  rintro e w2 ⟨v2, rfl, ho, hb⟩
  obtain ⟨A2, q2, hv2⟩ := Kd.R_slice ho
  subst hv2
  have HB2 := Aside0.mk hb
  have HG := Aside0.mk (exergueref09_Gather.calls (2 * (textsL L).length + 2) A2 q2 (textsL L) p (grefs p (textsL L)) w2 (Kd.R_reads' ho).2.2 (Kd.R_reads' ho).2.1 (by rw [HP.out]; exact refGather_f _ HTL.out (by omega)))
  clear ho hb hc0 hc1 hc2 hc3 hc4 hc5 hc6 hc7 hc8 hc9 hc10 hc11 hc12 hc13 hc14
  dsimp only
  go_wp2_with fail
  refine HG.out.mono ?_
  rintro e w3 ⟨v3, v4, rfl, ho3, ho4, hb⟩
  obtain ⟨A3, q3, hv3⟩ := Kd.R_slice ho3
  obtain ⟨A4, q4, hv4⟩ := Kd.R_slice ho4
  subst hv3 hv4
  have HC3 := Aside0.mk (Kd.R_reads' ho3)
  have HB3 := Aside0.mk (HB2.out.trans (hb.mono HB2.out.size))
  have HPO := Aside0.mk (refPool.calls A3 q3 p w3 HC3.out.2.2 HC3.out.2.1)
  clear ho3 ho4 hb
  dsimp only
  go_wp2_with fail
  refine HPO.out.mono ?_
  rintro e w4 ⟨rfl, hb⟩
  have HB4 := Aside0.mk (HB3.out.trans (hb.mono HB3.out.size))
  have HC4 := Aside0.mk (Kd.C_below HC3.out.2.2 hb)
  have HMY := Aside0.mk (may.calls L a w4 (HLC.out.below HB4.out) HLB.out)
  obtain ⟨hc0, hc1, hc2, hc3, hc4, hc5, hc6, hc7, hc8, hc9, hc10, hc11, hc12, hc13, hc14⟩ := boxCells (blk_below HBX.out HB4.out)
  clear hb
  dsimp only
  go_wp2_with fail
  refine HMY.out.mono ?_
  rintro e w5 ⟨rfl, hb⟩
  have HB5 := Aside0.mk (HB4.out.trans (hb.mono HB4.out.size))
  have HC5 := Aside0.mk (Kd.C_below HC4.out hb)
  have HLS := Aside0.mk HLC.out.2.2.2
  clear hb hc0 hc1 hc2 hc3 hc4 hc5 hc6 hc7 hc8 hc9 hc10 hc11 hc12 hc13 hc14
  cases hpo : isPoolB p with
  | false =>
    have HNO := Aside0.mk (encR_no HLB.out HLS.out (.inl (by rw [← HP.out]; exact hpo)))
    clear hpo
    dsimp only
    go_wp2
    go_ret2
    rw [HNO.out.1, HNO.out.2]
    exact ⟨_, rfl, Kd.R_nil _ _ _ _ _, HBEL.out.trans (HB5.out.mono HBEL.out.size)⟩
  | true =>
    cases hmy : mayR L with
    | false =>
      have HNO := Aside0.mk (encR_no HLB.out HLS.out (.inr ⟨by rw [← HP.out]; exact hpo, hmy⟩))
      clear hpo hmy
      dsimp only
      go_wp2
      go_ret2
      rw [HNO.out.1, HNO.out.2]
      exact ⟨_, rfl, Kd.R_nil _ _ _ _ _, HBEL.out.trans (HB5.out.mono HBEL.out.size)⟩
    | true =>
      have HYES := Aside0.mk (encR_yes HLB.out (by rw [← HP.out]; exact hpo) hmy HLS.out)
      rw [← HP.out] at HYES
      have HPO2 := Aside0.mk hpo
      have HYOK := Aside0.mk hmy
      have HMM := Aside0.mk (show ∀ s ∈ textsL L, s ∈ p by rw [HP.out]; exact mem_gpoolL L)
      obtain ⟨w6, hw6⟩ : ∃ w6, w6 = w5.alloc (.cells #[.int .u8 69, .int .u8 88, .int .u8 76, .int .u8 66, .int .u8 0, .int .u8 1, .int .u8 0, .int .u8 6] 5) := ⟨_, rfl⟩
      have HE6 := Aside0.mk hw6
      have HT6 := Aside0.mk (show Bi w5.heap.size w6 (.slice (some ⟨w5.heap.size, 0, none⟩) 8 8) (.slice none 0 0) [69, 88, 76, 66, 0, 1, 0, 6] [] by rw [hw6]; exact Bi.start w5 _ [69, 88, 76, 66, 0, 1, 0, 6] rfl (by decide))
      have HB6 := Aside0.mk (show Below w5.heap.size w5 w6 by rw [hw6]; exact (Below.refl w5.heap.size w5).alloc (Nat.le_refl _) _)
      clear hpo hmy hw6
      dsimp only
      go_wp2_with fail
      rw [← HE6.out]
      go_loopg [8, 9, 10] 7 (fun kq v8 v9 v10 w' => ∃ (n : Nat) (acc al : List Int), v10 = .int .i64 (n : Int) ∧ Aside0 (1 ≤ n ∧ n ≤ 7) ∧ Aside0 (8 - n = kq) ∧ Aside0 (acc ++ numsB (dirN ((qs p L).drop (n - 1)) (56 + al.length)) = dirA p L) ∧ Aside0 (al ++ ((qs p L).drop (n - 1)).flatten = (qs p L).flatten) ∧ Aside0 (Bi w5.heap.size w' v8 v9 acc al) ∧ Aside0 (Below w5.heap.size w5 w'))
      case atStart => exact ⟨1, _, _, rfl, ⟨by decide⟩, ⟨rfl⟩, ⟨rfl⟩, ⟨rfl⟩, HT6, HB6⟩
      case round =>
        obtain ⟨n, acc, al, rfl, HN, HKQ, HDI, HFL, HTW, HBJ⟩ := hrel
        obtain ⟨⟨Ab, cb, hvb⟩, ⟨Aa, ca, hva⟩⟩ := HTW.out.slice
        subst hvb hva
        have HAC := Aside0.mk (show acc.length ≤ 56 by have := congrArg List.length HDI.out; rw [List.length_append, dirA_len] at this; omega)
        have HFF := Aside0.mk (show (qs p L).flatten.length < 5000000 by have := HYES.out.2.2; unfold bundleB at this; rw [List.length_append] at this; omega)
        have HAA := Aside0.mk (show al.length + ((qs p L).drop (n - 1)).flatten.length = (qs p L).flatten.length by rw [← List.length_append, HFL.out])
        have HBW := Aside0.mk (show Below w1.heap.size w1 wr from HB5.out.trans (HBJ.out.mono HB5.out.size))
        by_cases hlt : n ≤ 6
        case pos =>
          have hlt2 : (n : Int) ≤ 6 := by omega
          obtain ⟨q, hq⟩ : ∃ q, (qs p L)[n - 1]? = some q := ⟨_, List.getElem?_eq_getElem (by rw [qs_len]; have := HN.out.1; omega)⟩
          have eL : (qs p L).drop (n - 1) = q :: (qs p L).drop n := by
            have h0 : n - 1 < (qs p L).length := by rw [qs_len]; have := HN.out.1; omega
            have h1 : (qs p L)[n - 1] = q := by rw [List.getElem?_eq_getElem h0] at hq; exact Option.some.inj hq
            have h2 : n - 1 + 1 = n := by have := HN.out.1; omega
            rw [List.drop_eq_getElem_cons h0, h1, h2]
          rw [eL] at HDI HFL HAA
          have hqa : q.length ≤ (qs p L).flatten.length ∧ al.length ≤ (qs p L).flatten.length := by have := HAA.out; rw [List.flatten_cons, List.length_append] at this; omega
          have hff := HFF.out
          have hac := HAC.out
          have HDN := Aside0.mk (show ((acc ++ bytesB (56 + (al.length : Int)) 4) ++ bytesB (q.length : Int) 4) ++ numsB (dirN ((qs p L).drop n) (56 + ((al ++ q).length : Int))) = dirA p L by
            have h := HDI.out
            rw [dirN, numsB_cons, numsB_cons] at h
            rw [List.length_append, Int.natCast_add, ← Int.add_assoc, List.append_assoc, List.append_assoc]
            exact h)
          have HFN := Aside0.mk (show (al ++ q) ++ ((qs p L).drop n).flatten = (qs p L).flatten by
            have h := HFL.out
            rw [List.flatten_cons, ← List.append_assoc] at h
            exact h)
          have HSEC := Aside0.mk (secAt.calls L a p A3 q3 wr (HLC.out.below HBW.out) HLB.out (Kd.C_below HC5.out HBJ.out) HC3.out.2.1 HMM.out HPO2.out HYOK.out n HN.out.1 hlt q hq)
          obtain ⟨hc0, hc1, hc2, hc3, hc4, hc5, hc6, hc7, hc8, hc9, hc10, hc11, hc12, hc13, hc14⟩ := boxCells (blk_below HBX.out HBW.out)
          have HLT := Aside0.mk hlt
          have HFI := Aside0.mk (show al.length < 5000000 ∧ q.length < 5000000 ∧ acc.length ≤ 56 from ⟨by omega, by omega, by omega⟩)
          clear hq eL hlt hqa hff hac HAA HDI HFL
          go_wp2_with fail
          refine HSEC.out.mono ?_
          rintro e w7 ⟨v7, rfl, hq7, hb7⟩
          have HT7 := Aside0.mk (HTW.out.three HBJ.out.size hq7 hb7)
          have HB7 := Aside0.mk (HBJ.out.trans (hb7.mono HBJ.out.size))
          obtain ⟨Aq, cq, hvq⟩ := Kd.R_slice hq7
          subst hvq
          have hal := HFI.out.1
          have hw56 : wrap64 (56 + (al.length : Int)) = 56 + (al.length : Int) := by unfold wrap64; omega
          have HF1 := Aside0.mk (HT7.out.four HB7.out (56 + (al.length : Int)) (by omega) (by omega) (by have := HFI.out.2.2; omega))
          clear hq7 hb7 hc0 hc1 hc2 hc3 hc4 hc5 hc6 hc7 hc8 hc9 hc10 hc11 hc12 hc13 hc14 hal
          dsimp only
          go_wp2_with fail
          refine HF1.out.mono ?_
          rintro e w8 ⟨v8, rfl, h8, hb8⟩
          have HF2 := Aside0.mk (h8.four hb8 (q.length : Int) (by omega) (by have := HFI.out.2.1; omega) (by have := HFI.out.2.2; rw [List.length_append, bytesB_len]; omega))
          clear h8 hb8
          dsimp only
          go_wp2_with fail
          refine HF2.out.mono ?_
          rintro e w9 ⟨v9, rfl, h9, hb9⟩
          obtain ⟨Pa, ha, hfr, hth⟩ := h9.app
          have HA9 := Aside0.mk ha
          have HFR := Aside0.mk hfr
          have HTH := Aside0.mk hth
          have HRQ := Aside0.mk (Kd.R_reads' h9.rowq).2.2
          have HB9 := Aside0.mk hb9
          have HAL := Aside0.mk (show (al.length + q.length) * 1 ≤ 140737488355328 by have := HFI.out; omega)
          clear ha hfr hth h9 hb9 hw56
          dsimp only
          go_wp2_with ((with_reducible refine gate_builtin (b := .append) (xs := #[.tmp 45, .tmp 46]) rfl ?_); at_builtin; refine Kd.R_append_rows (Kd.int .u8) (w0 := w5) w5.heap.size rfl (.tmp 45) (.tmp 46) 32 5 (.int .u8 0) 1 rfl Try.underlying32 info5 rfl (by decide) (by omega) (.slice Aa al.length ca) al q _ _ _ Pa (fun _ => False) rfl rfl HA9.out HRQ.out (fun _ _ h => h) (fun _ h => h.elim) HFR.out HB9.out HB9.out.size HAL.out ?_; intro v10 w10 ho_ hb_ hg_ _; have HT10 := Aside0.mk (HTH.out v10 w10 ho_ hg_); have HB10 := Aside0.mk hb_; clear ho_ hb_ hg_)
          go_roundg (8 - (n + 1))
          case measure => have := HLT.out; have := HKQ.out; omega
          case rel => exact ⟨n + 1, _, _, by have h1 := HLT.out; first | rfl | (congr 1; unfold wrap64; omega), ⟨by have h1 := HLT.out; omega⟩, ⟨rfl⟩, HDN, HFN, HT10, HB10⟩
        case neg =>
          have hn : n = 7 := by have := HN.out; omega
          subst hn
          have HE1 := Aside0.mk (show acc = dirA p L by
            have h := HDI.out
            rw [show (qs p L).drop (7 - 1) = [] from rfl, show ∀ z, numsB (dirN [] z) = [] from fun _ => rfl, List.append_nil] at h
            exact h)
          have HE2 := Aside0.mk (show al = (qs p L).flatten by
            have h := HFL.out
            rw [show (qs p L).drop (7 - 1) = [] from rfl, List.flatten_nil, List.append_nil] at h
            exact h)
          have HRB := Aside0.mk HTW.out.rows.1
          have HRA := Aside0.mk (Kd.R_reads' HTW.out.rows.2).2.2
          have HAL := Aside0.mk (show (acc.length + al.length) * 1 ≤ 140737488355328 by have h1 := HAA.out; have h2 := HFF.out; have h3 := HAC.out; omega)
          have HBU := Aside0.mk (show acc ++ al = bundleB p L by rw [HE1.out, HE2.out]; rfl)
          have hlt2 : ¬ ((7 : Nat) : Int) ≤ 6 := by decide
          clear hlt HDI HFL HAA
          go_wp2_with ((with_reducible refine gate_builtin (b := .append) (xs := #[.tmp 48, .tmp 49]) rfl ?_); at_builtin; refine Kd.R_append_rows (Kd.int .u8) (w0 := w5) w5.heap.size rfl (.tmp 48) (.tmp 49) 32 5 (.int .u8 0) 1 rfl Try.underlying32 info5 rfl (by decide) (by omega) (.slice Ab acc.length cb) acc al _ _ _ (fun _ => True) (fun _ => False) rfl rfl HRB.out HRA.out (fun _ _ h => h) (fun _ h => h.elim) (fun _ _ => trivial) HBJ.out HBJ.out.size HAL.out ?_; intro v10 w10 ho_ hb_ _ _; rw [HBU.out] at ho_; obtain ⟨A10, c10, hv10⟩ := Kd.R_slice ho_; subst hv10; have HR10 := Aside0.mk (Kd.R_reads' ho_); have HB10 := Aside0.mk hb_; clear ho_ hb_)
          refine (exergueref08_Put.calls 6000000 A10 c10 (bundleB p L) (putC (bundleB p L)) w10 HR10.out.2.2 HR10.out.2.1 (rPut_c (bundle_ok p L) (by have := HYES.out.2.2; omega) (by have := HYES.out.2.2; omega))).mono ?_
          rintro e w11 ⟨v11, rfl, ho, hb⟩
          have HO11 := Aside0.mk ho
          have HB11 := Aside0.mk (HB10.out.trans (hb.mono HB10.out.size))
          clear ho hb
          dsimp only
          go_wp2
          go_ret2
          rw [HYES.out.1, HYES.out.2.1]
          have hsz5 : w.heap.size ≤ w5.heap.size := Nat.le_trans HBEL.out.size HB5.out.size
          exact ⟨_, rfl, Kd.R_lower HO11.out (Nat.le_trans hsz5 HB10.out.size), HBEL.out.trans ((HB5.out.trans (HB11.out.mono HB5.out.size)).mono HBEL.out.size)⟩
end Go.Proofs.Ytmhpcjncngonbaa.Q
