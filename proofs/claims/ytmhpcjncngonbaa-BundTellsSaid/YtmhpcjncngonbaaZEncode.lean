/- Texts of this claim, joined; the first one's sentence stands below. -/
import Derived.Test.YtmhpcjncngonbaaZM6
import Derived.Test.YtmhpcjncngonbaaZM3
/- What bund.Encode comes to; rows of 65535 at most. -/
namespace Go.Proofs.Ytmhpcjncngonbaa.Q
open Go.RowKit Go.Proofs.Ytmhpcjncngonbaa.Mine Go.Proofs.YtmhpcjncngonbaaW.PrintWords Go.Proofs.YtmhpcjncngonbaaW.PrintLast Go.Proofs.YtmhpcjncngonbaaW.PrintMore
set_option linter.unusedVariables false
set_option linter.unusedSimpArgs false
open Go.Proofs.Ytmhpcjncngonbaa.Spec (I Y)
set_option maxHeartbeats 8000000 in
set_option maxRecDepth 100000 in
theorem bund_Encode.calls (L : Loc) (a : Lat) (w : World) (h : LocC L a w) (hL : LocB L) :
    Calls Try.prog 12 #[locV L a] w fun e w' => ∃ v0_ : Value, e = .returned (.tuple #[v0_, .int .i64 (encE L)]) ∧ Kd.R (Kd.int .u8) 5 w' w.heap.size (fun _ => True) v0_ (encR L) ∧ Below w.heap.size w w' := by
  obtain ⟨w1, hw1⟩ : ∃ w1, w1 = w.alloc (.cells (boxL L a) 29) := ⟨_, rfl⟩
  have hbel : Below w.heap.size w w1 := by rw [hw1]; exact (Below.refl w.heap.size w).alloc (Nat.le_refl _) _
  have hbx : w1.heap[w.heap.size]? = some (.cells (boxL L a) 29 (0, 0)) := by rw [hw1]; exact blk_new w _
  have HBEL := Aside0.mk hbel
  have HBX := Aside0.mk hbx
  have HW1 := Aside0.mk hw1
  have HLB := Aside0.mk hL
  have HLC := Aside0.mk (h.below hbel)
  have HTX := Aside0.mk (bund_Texts.calls L a w1 (h.below hbel) hL)
  have htl := textsL_len L
  have HTL := Aside0.mk (show (textsL L).length < 8796093022208 by have h1 := hL.1; have h2 := hL.2.1; have h3 := hL.2.2; omega)
  obtain ⟨p, hp⟩ : ∃ p, p = gpool (textsL L) := ⟨_, rfl⟩
  have HP := Aside0.mk hp
  obtain ⟨hc0, hc1, hc2, hc3, hc4, hc5, hc6, hc7, hc8, hc9, hc10, hc11, hc12, hc13, hc14⟩ := boxCells hbx
  clear h hL hbel hbx hw1 htl hp
  go_enter Try.func12, Try.ntmps12
  go_wp2_with fail
  rw [← HW1.out]
  go_wp2_with fail
  refine HTX.out.mono ?_
  rintro e w2 ⟨v2, rfl, ho, hb⟩
  obtain ⟨A2, q2, hv2⟩ := Kd.R_slice ho
  subst hv2
  have HO2 := Aside0.mk ho
  have HB2 := Aside0.mk hb
  have HG := Aside0.mk (pack_Gather.calls A2 q2 (textsL L) p (grefs p (textsL L)) w2 (Kd.R_reads' ho).2.2 (Kd.R_reads' ho).2.1 (by rw [pack_Gather.f, if_pos HTL.out, HP.out]))
  clear ho hb hc0 hc1 hc2 hc3 hc4 hc5 hc6 hc7 hc8 hc9 hc10 hc11 hc12 hc13 hc14
  dsimp only
  go_wp2_with fail
  refine HG.out.mono ?_
  rintro e w3 ⟨v3, v4, rfl, ho3, ho4, hb⟩
  obtain ⟨A3, q3, hv3⟩ := Kd.R_slice ho3
  obtain ⟨A4, q4, hv4⟩ := Kd.R_slice ho4
  subst hv3 hv4
  have HO3 := Aside0.mk ho3
  have HO4 := Aside0.mk ho4
  have HB3 := Aside0.mk (HB2.out.trans (hb.mono HB2.out.size))
  have hpl : p.length < 8796093022208 := by have h1 := gpool_le (textsL L) []; have h2 := HTL.out; rw [HP.out, gpool]; simp only [List.length_nil] at h1; omega
  have HPL := Aside0.mk hpl
  clear ho3 ho4 hb
  cases hpo : isPoolB p with
  | false =>
    have HPO := Aside0.mk hpo
    have HPP := Aside0.mk (putPool_no.calls (.slice none 0 0) A3 q3 p w3 (Kd.R_reads' HO3.out).2.2 (Kd.R_reads' HO3.out).2.1 hpl hpo)
    clear hpo hpl
    dsimp only
    go_wp2_with fail
    refine HPP.out.mono ?_
    rintro e w5 ⟨rfl, hb⟩
    have HB5 := Aside0.mk (HB3.out.trans (hb.mono HB3.out.size))
    clear hb
    dsimp only
    go_wp2
    go_ret2
    have he : encIn L = none := by unfold encIn; rw [← HP.out, HPO.out, if_neg (by simp)]
    have e1 : encE L = 1 := by unfold encE; rw [he]
    have e2 : encR L = [] := by unfold encR; rw [he]
    rw [e1, e2]
    exact ⟨_, rfl, Kd.R_nil _ _ _ _ _, HBEL.out.trans (HB5.out.mono HBEL.out.size)⟩
  | true =>
    have HPO := Aside0.mk hpo
    have HPP : Aside0 (Calls Try.prog 25 #[.slice none 0 0, .slice A3 p.length q3] w3 fun e w' => ∃ v0_ : Value, e = .returned (.tuple #[v0_, .int .i64 0]) ∧ Kd.R (Kd.int .u8) 5 w' w3.heap.size (fun _ => True) v0_ (firstP p) ∧ Below w3.heap.size w3 w') := Aside0.mk (putPool_yes.calls none 0 [] A3 q3 p w3 (Kd.C_nil _ _) (Nat.le_refl _) (by simp) (Kd.R_reads' HO3.out).2.2 (Kd.R_reads' HO3.out).2.1 hpo)
    have hmf : ∀ (fn : Fn) (first cap : Array Value) (w : World), (Instr.makeFunc fn first cap).run Try.prog w = .ok (.func fn first cap) w := fun _ _ _ _ => rfl
    clear hpo hpl
    dsimp only
    go_wp2_with fail
    refine HPP.out.mono ?_
    rintro e w5 ⟨v5, rfl, ho5, hb⟩
    obtain ⟨A5, q5, hv5⟩ := Kd.R_slice ho5
    subst hv5
    have HB5 := Aside0.mk (HB3.out.trans (hb.mono HB3.out.size))
    obtain ⟨hc0, hc1, hc2, hc3, hc4, hc5, hc6, hc7, hc8, hc9, hc10, hc11, hc12, hc13, hc14⟩ := boxCells (blk_below HBX.out HB5.out)
    have hr4 := Kd.R_reads' HO4.out
    have HWN6 := Aside0.mk (Wn.start (Kd.C_below hr4.2.2 hb) hr4.2.1 (HLC.out.below HB5.out))
    obtain ⟨w6, hw6⟩ : ∃ w6, w6 = w5.alloc (.cells (wrC (.slice none 0 0) (.slice A4 (grefs p (textsL L)).length q4) L a false) 69) := ⟨_, rfl⟩
    have hs6 : w6.heap.size = w5.heap.size + 1 := by rw [hw6]; simp
    have hb6 : Below w5.heap.size w5 w6 := by rw [hw6]; exact (Below.refl w5.heap.size w5).alloc (Nat.le_refl _) _
    rw [← hw6] at HWN6
    obtain ⟨w8, hw8⟩ : ∃ w8, w8 = (w6.alloc (.cells #[.slice A5 (firstP p).length q5] 32)).alloc (.cells (fnsV w5.heap.size) 1) := ⟨_, rfl⟩
    have hb8 : Below w6.heap.size w6 w8 := by rw [hw8]; exact ((Below.refl w6.heap.size w6).alloc (Nat.le_refl _) _).alloc (by simp) _
    have HWN8 := Aside0.mk (HWN6.out.below hb8)
    have HF8 := Aside0.mk (show w8.heap[w5.heap.size + 2]? = some (.cells (fnsV w5.heap.size) 1 (0, 0)) by
      rw [hw8]
      have := blk_new (w6.alloc (.cells #[.slice A5 (firstP p).length q5] 32)) (.cells (fnsV w5.heap.size) 1)
      rw [show (w6.alloc (.cells #[.slice A5 (firstP p).length q5] 32)).heap.size = w5.heap.size + 2 by simp [hs6]] at this
      exact this)
    have HO8 := Aside0.mk (show Kd.R (Kd.slice 5 (Kd.int .u8)) 32 w8 w.heap.size (fun k => k ≠ w5.heap.size) (.slice (some ⟨w5.heap.size + 1, 0, none⟩) 1 1) ((partsL p L).take 1) by
      rw [hw8]
      have h5 : Kd.R (Kd.int .u8) 5 w6 w.heap.size (fun k => k < w5.heap.size) (.slice A5 (firstP p).length q5) (firstP p) := Kd.R_below (Kd.R_lower (Kd.R_mono (ok' := fun k => k < w5.heap.size) (Kd.R_bound ho5) (fun k hk => hk.2.2.1)) (Nat.le_trans HBEL.out.size HB3.out.size)) hb6
      have h6 := R_lit_one (Kd.slice 5 (Kd.int .u8)) rfl w6 32 w.heap.size (fun k => k ≠ w5.heap.size) (fun k => k < w5.heap.size) (firstP p) _ ⟨_, rfl, h5⟩ (fun k hk => Nat.ne_of_lt hk) (by omega) (by rw [hs6]; exact Nat.le_succ_of_le (Nat.le_trans HBEL.out.size HB5.out.size))
      rw [hs6] at h6
      exact Kd.R_alloc h6 _)
    have HB8 := Aside0.mk (show Below w.heap.size w w8 from HBEL.out.trans ((HB5.out.trans ((hb6.trans (hb8.mono hb6.size)).mono HB5.out.size)).mono HBEL.out.size))
    have HE8 := Aside0.mk (show w8 = ((w5.alloc (.cells (wrC (.slice none 0 0) (.slice A4 (grefs p (textsL L)).length q4) L a false) 69)).alloc (.cells #[.slice A5 (firstP p).length q5] 32)).alloc (.cells (fnsV w5.heap.size) 1) by rw [hw8, hw6])
    have HBW5 := Aside0.mk (show Below w.heap.size w w5 from HBEL.out.trans (HB5.out.mono HBEL.out.size))
    have HLT5 := Aside0.mk (show w.heap.size ≤ w5.heap.size from Nat.le_trans HBEL.out.size HB5.out.size)
    have HOB8 := Aside0.mk (show ∀ k, (Value.slice (some ⟨w5.heap.size + 1, 0, none⟩) 1 1).ownBlock = some k → w5.heap.size < k from fun k hk => by
      have h1 : w5.heap.size + 1 = k := by simpa [Value.ownBlock] using hk
      omega)
    clear ho5 hb hr4 hw6 hw8 hs6 hb6 hb8
    dsimp only
    go_wp2_with fail
    simp only [fnsV] at HE8
    rw [← HE8.out]
    clear hc0 hc1 hc2 hc3 hc4 hc5 hc6 hc7 hc8 hc9 hc10 hc11 hc12 hc13 hc14
    go_loopg [9, 46] 5 (fun kq v9 v46 w' => ∃ (j : Nat), v46 = .int .i64 (j : Int) ∧ Aside0 (j ≤ 5) ∧ Aside0 (5 - j = kq) ∧ Aside0 (Wn w5.heap.size (refsN p L j) L a (stepS p L j).2 w5 w') ∧ Aside0 (Kd.R (Kd.slice 5 (Kd.int .u8)) 32 w' w.heap.size (fun k => k ≠ w5.heap.size) v9 ((partsL p L).take (j + 1))) ∧ Aside0 (∀ k, v9.ownBlock = some k → w5.heap.size < k) ∧ Aside0 (w'.heap[w5.heap.size + 2]? = some (.cells (fnsV w5.heap.size) 1 (0, 0))) ∧ Aside0 (Below w.heap.size w w'))
    case atStart => exact ⟨0, rfl, ⟨by decide⟩, ⟨rfl⟩, HWN8, HO8, HOB8, HF8, HB8⟩
    case round =>
      obtain ⟨j, hv46, HJ, HKQ, HWJ, HOJ, HOB, HFJ, HBJ⟩ := hrel
      have hj6 : j = 0 ∨ j = 1 ∨ j = 2 ∨ j = 3 ∨ j = 4 ∨ j = 5 := by have := HJ.out; omega
      rcases hj6 with rfl | rfl | rfl | rfl | rfl | rfl
      · have hv : _ = Value.int .i64 0 := hv46
        clear hv46
        subst hv
        have hcf : wr.cell? ⟨w5.heap.size + 2, 0, none⟩ = some (.func (.func 26) #[.pointer (some ⟨w5.heap.size, 0, none⟩)] #[]) := fns_cell HFJ.out 0 (by decide)
        obtain ⟨bv, hcb, hfb⟩ := HWJ.out.cell
        have HST : Aside0 (Calls Try.prog 26 #[.pointer (some ⟨w5.heap.size, 0, none⟩)] (wr.setCell ⟨w5.heap.size, 0, none⟩ (.slice none 0 0)) fun e w' => e = .returned (.tuple #[]) ∧ Wt w5.heap.size (refsN p L 1) L a (stepS p L 1) w5 w' ∧ KeepBut (wr.setCell ⟨w5.heap.size, 0, none⟩ (.slice none 0 0)) w' w5.heap.size none) := Aside0.mk (step.calls 0 (by decide) w5.heap.size p L a w5 _ HLB.out HWJ.out.nil)
        go_wp2_with fail
        refine HST.out.mono ?_
        rintro e w10 ⟨rfl, hw, hk⟩
        have hk2 : KeepBut wr w10 w5.heap.size none := KeepBut.trans (KeepBut.put (KeepBut.refl wr w5.heap.size none) 0 (.slice none 0 0)) hk (.inl rfl)
        obtain ⟨Ab, cb, hcb2, hfb2, hrb⟩ := hw.row
        have HN := Aside0.mk (enc_after HOJ.out HOB.out HFJ.out HBW5.out hw hk2 hrb (by simp [partsL]))
        have HPS := Aside0.mk (parts_step p L 0 (by decide))
        clear hcf hcb hfb hk hk2 hrb hw
        dsimp only
        go_wp2_with ((with_reducible refine gate_builtin (b := .append) (xs := #[.tmp 55, .tmp 60]) rfl ?_); at_builtin; refine Kd.R_append (Kd.slice 5 (Kd.int .u8)) (w0 := w) w.heap.size rfl (.tmp 55) (.tmp 60) 70 32 (.slice none 0 0) 24 rfl Try.underlying70 info32 rfl (by decide) (by omega) u9 ((partsL p L).take (0 + 1)) (stepS p L 1).1 [.slice Ab (stepS p L 1).1.length cb] (fun k => k ≠ w5.heap.size) (fun k => w5.heap.size + 1 ≤ k ∧ some k ≠ (u9 : Value).ownBlock) rfl rfl ⟨_, rfl, HN.out.2.1⟩ (fun k hk => ⟨by omega, hk.2⟩) ?aF HN.out.1 HN.out.2.2.1 HN.out.2.2.2.1 ?aL ?_; (case aF => exact (fun k hk => by have := HN.out.2.2.2.2.1; omega)); (case aL => exact (show (_ + 1) * 24 ≤ 140737488355328 from by simp [partsL])); intro v11 w11 ho_ hb_ hg_ ha_; have HO11 := Aside0.mk ho_; have HB11 := Aside0.mk hb_; have HN11 := Aside0.mk (HN.out.2.2.2.2.2.2 v11 w11 hg_ ha_); clear ho_ hb_ hg_ ha_)
        rw [HPS.out] at HO11
        go_roundg 4
        case measure => have := HKQ.out; omega
        case rel => exact ⟨1, rfl, ⟨by decide⟩, ⟨rfl⟩, ⟨HN11.out.1⟩, HO11, ⟨HN11.out.2.1⟩, ⟨HN11.out.2.2⟩, HB11⟩
      · have hv : _ = Value.int .i64 1 := hv46
        clear hv46
        subst hv
        have hcf : wr.cell? ⟨w5.heap.size + 2, 1, none⟩ = some (.func (.func 27) #[.pointer (some ⟨w5.heap.size, 0, none⟩)] #[]) := fns_cell HFJ.out 1 (by decide)
        obtain ⟨bv, hcb, hfb⟩ := HWJ.out.cell
        have HST : Aside0 (Calls Try.prog 27 #[.pointer (some ⟨w5.heap.size, 0, none⟩)] (wr.setCell ⟨w5.heap.size, 0, none⟩ (.slice none 0 0)) fun e w' => e = .returned (.tuple #[]) ∧ Wt w5.heap.size (refsN p L 2) L a (stepS p L 2) w5 w' ∧ KeepBut (wr.setCell ⟨w5.heap.size, 0, none⟩ (.slice none 0 0)) w' w5.heap.size none) := Aside0.mk (step.calls 1 (by decide) w5.heap.size p L a w5 _ HLB.out HWJ.out.nil)
        go_wp2_with fail
        refine HST.out.mono ?_
        rintro e w10 ⟨rfl, hw, hk⟩
        have hk2 : KeepBut wr w10 w5.heap.size none := KeepBut.trans (KeepBut.put (KeepBut.refl wr w5.heap.size none) 0 (.slice none 0 0)) hk (.inl rfl)
        obtain ⟨Ab, cb, hcb2, hfb2, hrb⟩ := hw.row
        have HN := Aside0.mk (enc_after HOJ.out HOB.out HFJ.out HBW5.out hw hk2 hrb (by simp [partsL]))
        have HPS := Aside0.mk (parts_step p L 1 (by decide))
        clear hcf hcb hfb hk hk2 hrb hw
        dsimp only
        go_wp2_with ((with_reducible refine gate_builtin (b := .append) (xs := #[.tmp 55, .tmp 60]) rfl ?_); at_builtin; refine Kd.R_append (Kd.slice 5 (Kd.int .u8)) (w0 := w) w.heap.size rfl (.tmp 55) (.tmp 60) 70 32 (.slice none 0 0) 24 rfl Try.underlying70 info32 rfl (by decide) (by omega) u9 ((partsL p L).take (1 + 1)) (stepS p L 2).1 [.slice Ab (stepS p L 2).1.length cb] (fun k => k ≠ w5.heap.size) (fun k => w5.heap.size + 1 ≤ k ∧ some k ≠ (u9 : Value).ownBlock) rfl rfl ⟨_, rfl, HN.out.2.1⟩ (fun k hk => ⟨by omega, hk.2⟩) ?aF HN.out.1 HN.out.2.2.1 HN.out.2.2.2.1 ?aL ?_; (case aF => exact (fun k hk => by have := HN.out.2.2.2.2.1; omega)); (case aL => exact (show (_ + 1) * 24 ≤ 140737488355328 from by simp [partsL])); intro v11 w11 ho_ hb_ hg_ ha_; have HO11 := Aside0.mk ho_; have HB11 := Aside0.mk hb_; have HN11 := Aside0.mk (HN.out.2.2.2.2.2.2 v11 w11 hg_ ha_); clear ho_ hb_ hg_ ha_)
        rw [HPS.out] at HO11
        go_roundg 3
        case measure => have := HKQ.out; omega
        case rel => exact ⟨2, rfl, ⟨by decide⟩, ⟨rfl⟩, ⟨HN11.out.1⟩, HO11, ⟨HN11.out.2.1⟩, ⟨HN11.out.2.2⟩, HB11⟩
      · have hv : _ = Value.int .i64 2 := hv46
        clear hv46
        subst hv
        have hcf : wr.cell? ⟨w5.heap.size + 2, 2, none⟩ = some (.func (.func 28) #[.pointer (some ⟨w5.heap.size, 0, none⟩)] #[]) := fns_cell HFJ.out 2 (by decide)
        obtain ⟨bv, hcb, hfb⟩ := HWJ.out.cell
        have HST : Aside0 (Calls Try.prog 28 #[.pointer (some ⟨w5.heap.size, 0, none⟩)] (wr.setCell ⟨w5.heap.size, 0, none⟩ (.slice none 0 0)) fun e w' => e = .returned (.tuple #[]) ∧ Wt w5.heap.size (refsN p L 3) L a (stepS p L 3) w5 w' ∧ KeepBut (wr.setCell ⟨w5.heap.size, 0, none⟩ (.slice none 0 0)) w' w5.heap.size none) := Aside0.mk (step.calls 2 (by decide) w5.heap.size p L a w5 _ HLB.out HWJ.out.nil)
        go_wp2_with fail
        refine HST.out.mono ?_
        rintro e w10 ⟨rfl, hw, hk⟩
        have hk2 : KeepBut wr w10 w5.heap.size none := KeepBut.trans (KeepBut.put (KeepBut.refl wr w5.heap.size none) 0 (.slice none 0 0)) hk (.inl rfl)
        obtain ⟨Ab, cb, hcb2, hfb2, hrb⟩ := hw.row
        have HN := Aside0.mk (enc_after HOJ.out HOB.out HFJ.out HBW5.out hw hk2 hrb (by simp [partsL]))
        have HPS := Aside0.mk (parts_step p L 2 (by decide))
        clear hcf hcb hfb hk hk2 hrb hw
        dsimp only
        go_wp2_with ((with_reducible refine gate_builtin (b := .append) (xs := #[.tmp 55, .tmp 60]) rfl ?_); at_builtin; refine Kd.R_append (Kd.slice 5 (Kd.int .u8)) (w0 := w) w.heap.size rfl (.tmp 55) (.tmp 60) 70 32 (.slice none 0 0) 24 rfl Try.underlying70 info32 rfl (by decide) (by omega) u9 ((partsL p L).take (2 + 1)) (stepS p L 3).1 [.slice Ab (stepS p L 3).1.length cb] (fun k => k ≠ w5.heap.size) (fun k => w5.heap.size + 1 ≤ k ∧ some k ≠ (u9 : Value).ownBlock) rfl rfl ⟨_, rfl, HN.out.2.1⟩ (fun k hk => ⟨by omega, hk.2⟩) ?aF HN.out.1 HN.out.2.2.1 HN.out.2.2.2.1 ?aL ?_; (case aF => exact (fun k hk => by have := HN.out.2.2.2.2.1; omega)); (case aL => exact (show (_ + 1) * 24 ≤ 140737488355328 from by simp [partsL])); intro v11 w11 ho_ hb_ hg_ ha_; have HO11 := Aside0.mk ho_; have HB11 := Aside0.mk hb_; have HN11 := Aside0.mk (HN.out.2.2.2.2.2.2 v11 w11 hg_ ha_); clear ho_ hb_ hg_ ha_)
        rw [HPS.out] at HO11
        go_roundg 2
        case measure => have := HKQ.out; omega
        case rel => exact ⟨3, rfl, ⟨by decide⟩, ⟨rfl⟩, ⟨HN11.out.1⟩, HO11, ⟨HN11.out.2.1⟩, ⟨HN11.out.2.2⟩, HB11⟩
      · have hv : _ = Value.int .i64 3 := hv46
        clear hv46
        subst hv
        have hcf : wr.cell? ⟨w5.heap.size + 2, 3, none⟩ = some (.func (.func 29) #[.pointer (some ⟨w5.heap.size, 0, none⟩)] #[]) := fns_cell HFJ.out 3 (by decide)
        obtain ⟨bv, hcb, hfb⟩ := HWJ.out.cell
        have HST : Aside0 (Calls Try.prog 29 #[.pointer (some ⟨w5.heap.size, 0, none⟩)] (wr.setCell ⟨w5.heap.size, 0, none⟩ (.slice none 0 0)) fun e w' => e = .returned (.tuple #[]) ∧ Wt w5.heap.size (refsN p L 4) L a (stepS p L 4) w5 w' ∧ KeepBut (wr.setCell ⟨w5.heap.size, 0, none⟩ (.slice none 0 0)) w' w5.heap.size none) := Aside0.mk (step.calls 3 (by decide) w5.heap.size p L a w5 _ HLB.out HWJ.out.nil)
        go_wp2_with fail
        refine HST.out.mono ?_
        rintro e w10 ⟨rfl, hw, hk⟩
        have hk2 : KeepBut wr w10 w5.heap.size none := KeepBut.trans (KeepBut.put (KeepBut.refl wr w5.heap.size none) 0 (.slice none 0 0)) hk (.inl rfl)
        obtain ⟨Ab, cb, hcb2, hfb2, hrb⟩ := hw.row
        have HN := Aside0.mk (enc_after HOJ.out HOB.out HFJ.out HBW5.out hw hk2 hrb (by simp [partsL]))
        have HPS := Aside0.mk (parts_step p L 3 (by decide))
        clear hcf hcb hfb hk hk2 hrb hw
        dsimp only
        go_wp2_with ((with_reducible refine gate_builtin (b := .append) (xs := #[.tmp 55, .tmp 60]) rfl ?_); at_builtin; refine Kd.R_append (Kd.slice 5 (Kd.int .u8)) (w0 := w) w.heap.size rfl (.tmp 55) (.tmp 60) 70 32 (.slice none 0 0) 24 rfl Try.underlying70 info32 rfl (by decide) (by omega) u9 ((partsL p L).take (3 + 1)) (stepS p L 4).1 [.slice Ab (stepS p L 4).1.length cb] (fun k => k ≠ w5.heap.size) (fun k => w5.heap.size + 1 ≤ k ∧ some k ≠ (u9 : Value).ownBlock) rfl rfl ⟨_, rfl, HN.out.2.1⟩ (fun k hk => ⟨by omega, hk.2⟩) ?aF HN.out.1 HN.out.2.2.1 HN.out.2.2.2.1 ?aL ?_; (case aF => exact (fun k hk => by have := HN.out.2.2.2.2.1; omega)); (case aL => exact (show (_ + 1) * 24 ≤ 140737488355328 from by simp [partsL])); intro v11 w11 ho_ hb_ hg_ ha_; have HO11 := Aside0.mk ho_; have HB11 := Aside0.mk hb_; have HN11 := Aside0.mk (HN.out.2.2.2.2.2.2 v11 w11 hg_ ha_); clear ho_ hb_ hg_ ha_)
        rw [HPS.out] at HO11
        go_roundg 1
        case measure => have := HKQ.out; omega
        case rel => exact ⟨4, rfl, ⟨by decide⟩, ⟨rfl⟩, ⟨HN11.out.1⟩, HO11, ⟨HN11.out.2.1⟩, ⟨HN11.out.2.2⟩, HB11⟩
      · have hv : _ = Value.int .i64 4 := hv46
        clear hv46
        subst hv
        have hcf : wr.cell? ⟨w5.heap.size + 2, 4, none⟩ = some (.func (.func 30) #[.pointer (some ⟨w5.heap.size, 0, none⟩)] #[]) := fns_cell HFJ.out 4 (by decide)
        obtain ⟨bv, hcb, hfb⟩ := HWJ.out.cell
        have HST : Aside0 (Calls Try.prog 30 #[.pointer (some ⟨w5.heap.size, 0, none⟩)] (wr.setCell ⟨w5.heap.size, 0, none⟩ (.slice none 0 0)) fun e w' => e = .returned (.tuple #[]) ∧ Wt w5.heap.size (refsN p L 5) L a (stepS p L 5) w5 w' ∧ KeepBut (wr.setCell ⟨w5.heap.size, 0, none⟩ (.slice none 0 0)) w' w5.heap.size none) := Aside0.mk (step.calls 4 (by decide) w5.heap.size p L a w5 _ HLB.out HWJ.out.nil)
        go_wp2_with fail
        refine HST.out.mono ?_
        rintro e w10 ⟨rfl, hw, hk⟩
        have hk2 : KeepBut wr w10 w5.heap.size none := KeepBut.trans (KeepBut.put (KeepBut.refl wr w5.heap.size none) 0 (.slice none 0 0)) hk (.inl rfl)
        obtain ⟨Ab, cb, hcb2, hfb2, hrb⟩ := hw.row
        have HN := Aside0.mk (enc_after HOJ.out HOB.out HFJ.out HBW5.out hw hk2 hrb (by simp [partsL]))
        have HPS := Aside0.mk (parts_step p L 4 (by decide))
        clear hcf hcb hfb hk hk2 hrb hw
        dsimp only
        go_wp2_with ((with_reducible refine gate_builtin (b := .append) (xs := #[.tmp 55, .tmp 60]) rfl ?_); at_builtin; refine Kd.R_append (Kd.slice 5 (Kd.int .u8)) (w0 := w) w.heap.size rfl (.tmp 55) (.tmp 60) 70 32 (.slice none 0 0) 24 rfl Try.underlying70 info32 rfl (by decide) (by omega) u9 ((partsL p L).take (4 + 1)) (stepS p L 5).1 [.slice Ab (stepS p L 5).1.length cb] (fun k => k ≠ w5.heap.size) (fun k => w5.heap.size + 1 ≤ k ∧ some k ≠ (u9 : Value).ownBlock) rfl rfl ⟨_, rfl, HN.out.2.1⟩ (fun k hk => ⟨by omega, hk.2⟩) ?aF HN.out.1 HN.out.2.2.1 HN.out.2.2.2.1 ?aL ?_; (case aF => exact (fun k hk => by have := HN.out.2.2.2.2.1; omega)); (case aL => exact (show (_ + 1) * 24 ≤ 140737488355328 from by simp [partsL])); intro v11 w11 ho_ hb_ hg_ ha_; have HO11 := Aside0.mk ho_; have HB11 := Aside0.mk hb_; have HN11 := Aside0.mk (HN.out.2.2.2.2.2.2 v11 w11 hg_ ha_); clear ho_ hb_ hg_ ha_)
        rw [HPS.out] at HO11
        go_roundg 0
        case measure => have := HKQ.out; omega
        case rel => exact ⟨5, rfl, ⟨by decide⟩, ⟨rfl⟩, ⟨HN11.out.1⟩, HO11, ⟨HN11.out.2.1⟩, ⟨HN11.out.2.2⟩, HB11⟩
      · have hv : _ = Value.int .i64 5 := hv46
        clear hv46
        subst hv
        have hparts : (partsL p L).take (5 + 1) = partsL p L := rfl
        rw [hparts] at HOJ
        obtain ⟨A9, c9, h9⟩ := Kd.R_slice HOJ.out
        have h9' : u9 = .slice A9 6 c9 := h9
        clear h9
        subst h9'
        obtain ⟨bv, hcb, hfb⟩ := HWJ.out.cell
        have kc := fun (w : World) (C : Array Value) (n c : Nat) => Lib.run_convert_bytes_const (P := Try.prog) w 32 5 C n c Try.underlying32 Try.underlying5
        have HMG := Aside0.mk HWJ.out.magic
        obtain ⟨bv3, hcb3, hfb3⟩ := (HWJ.out.below ((Below.refl wr.heap.size wr).alloc (Nat.le_refl _) (.cells #[.int .u8 69, .int .u8 88, .int .u8 76, .int .u8 66] 5 (4, 5)))).cell
        go_wp2_with fail
        refine HMG.out.mono ?_
        rintro e w14 ⟨rfl, hw14, hk14⟩
        have HN14 := Aside0.mk (wtnum.calls _ _ L a _ 6 2 w5 w14 hw14 (by have := wnum_len 1 2 ([69, 88, 76, 66], (stepS p L 5).2); simp only [List.length_cons, List.length_nil] at this; omega))
        have HK14 := Aside0.mk hk14
        clear hw14 hk14 hcb hfb hcb3 hfb3
        dsimp only
        go_wp2_with fail
        refine HN14.out.mono ?_
        rintro e w15 ⟨rfl, hw15, hk15⟩
        have HW15 := Aside0.mk hw15
        have HO15 := Aside0.mk (Kd.R_keep HOJ.out (KeepBut.trans HK14.out hk15 (.inl rfl)) (fun k hk => hk))
        clear hw15 hk15
        dsimp only
        go_wp2_with fail
        have hT : ∃ T, T = headL p L := ⟨_, rfl⟩
        obtain ⟨T, hT⟩ := hT
        have HT := Aside0.mk hT
        have HTD := Aside0.mk (show wdir ((partsL p L).drop 0) 56 (wnum 6 2 (wnum 1 2 ([69, 88, 76, 66], (stepS p L 5).2))) = T from hT.symm)
        have HPL2 := Aside0.mk (parts_len (L := L) HLB.out HPO.out)
        have HSL := Aside0.mk (show (wnum 6 2 (wnum 1 2 ([69, 88, 76, 66], (stepS p L 5).2))).1.length ≤ 12 + 8 * 0 by
          have h1 := wnum_len 6 2 (wnum 1 2 ([69, 88, 76, 66], (stepS p L 5).2))
          have h2 := wnum_len 1 2 ([69, 88, 76, 66], (stepS p L 5).2)
          simp only [List.length_cons, List.length_nil] at h2
          omega)
        clear hT
        go_loopg [12, 74] 6 (fun kq v12 v74 w' => ∃ (j : Nat) (at_ : Nat) (st : List Int × Bool), v74 = .int .i64 (j : Int) ∧ v12 = .int .i64 (at_ : Int) ∧ Aside0 (j ≤ 6) ∧ Aside0 (6 - j = kq) ∧ Aside0 (Wt w5.heap.size [] L a st w5 w') ∧ Aside0 (wdir ((partsL p L).drop j) (at_ : Int) st = T) ∧ Aside0 (st.1.length ≤ 12 + 8 * j) ∧ Aside0 (at_ + ((partsL p L).drop j).flatten.length = 56 + (partsL p L).flatten.length) ∧ Aside0 (Kd.R (Kd.slice 5 (Kd.int .u8)) 32 w' w.heap.size (fun k => k ≠ w5.heap.size) (.slice A9 6 c9) (partsL p L)))
        case atStart => exact ⟨0, 56, _, rfl, rfl, ⟨by decide⟩, ⟨rfl⟩, HW15, HTD, HSL, ⟨rfl⟩, HO15⟩
        case round =>
          obtain ⟨j, at_, st, rfl, rfl, HJ, HKQ, HWJ, HTJ, HSJ, HAJ, HOJ⟩ := hrel
          by_cases hlt : j < 6
          · have hlt2 : (j : Int) < 6 := by omega
            have hjl : j < (partsL p L).length := hlt
            obtain ⟨q, hq⟩ : ∃ q, (partsL p L)[j]? = some q := ⟨_, List.getElem?_eq_getElem hjl⟩
            have eP : (partsL p L).drop j = q :: (partsL p L).drop (j + 1) := by
              rw [List.drop_eq_getElem_cons hjl]; congr 1
              rw [List.getElem?_eq_getElem hjl] at hq; exact Option.some.inj hq
            obtain ⟨ad, A1, c1, hA, hcell, hl1, hC1⟩ := at_L1 (Kd.R_reads' HOJ.out).2.2 (j : Int) (by omega) (by omega)
            subst hA
            rw [rdL1 hq, Int.toNat_natCast] at hcell
            rw [eP] at HTJ HAJ
            have h1 := wnum_len (at_ : Int) 4 st
            have h2 := wnum_len (q.length : Int) 4 (wnum (at_ : Int) 4 st)
            have HTX := Aside0.mk (show wdir ((partsL p L).drop (j + 1)) ((at_ + q.length : Nat) : Int) (wnum (q.length : Int) 4 (wnum (at_ : Int) 4 st)) = T by
              have := HTJ.out; rw [wdir] at this; rw [Int.natCast_add]; exact this)
            have hax := HAJ.out
            rw [List.flatten_cons, List.length_append] at hax
            have HAX := Aside0.mk (show (at_ + q.length) + ((partsL p L).drop (j + 1)).flatten.length = 56 + (partsL p L).flatten.length by omega)
            have HLEN := Aside0.mk (show st.1.length < 140737488350000 ∧ (wnum (at_ : Int) 4 st).1.length < 140737488350000 ∧ (wnum (q.length : Int) 4 (wnum (at_ : Int) 4 st)).1.length ≤ 12 + 8 * (j + 1) by have := HSJ.out; omega)
            have HN1 := Aside0.mk (wtnum.calls _ _ L a st (at_ : Int) 4 w5 _ HWJ.out (by have := HLEN.out.1; omega))
            have HWR := Aside0.mk (show wrap64 ((at_ : Int) + (q.length : Int)) = ((at_ + q.length : Nat) : Int) by have := HPL2.out.1; unfold wrap64; omega)
            have HLT := Aside0.mk hlt
            clear hlt hjl hq eP hl1 hC1 h1 h2 hax
            go_wp2_with fail
            refine HN1.out.mono ?_
            rintro e w20 ⟨rfl, hw20, hk20⟩
            have HN2 := Aside0.mk (wtnum.calls _ _ L a _ (q.length : Int) 4 w5 _ hw20 (by have := HLEN.out.2.1; omega))
            have HK20 := Aside0.mk hk20
            clear hw20 hk20 hcell
            dsimp only
            go_wp2_with fail
            refine HN2.out.mono ?_
            rintro e w21 ⟨rfl, hw21, hk21⟩
            have HW21 := Aside0.mk hw21
            have HO21 := Aside0.mk (Kd.R_keep HOJ.out (KeepBut.trans HK20.out hk21 (.inl rfl)) (fun k hk => hk))
            clear hw21 hk21
            dsimp only
            go_wp2
            go_roundg (6 - (j + 1))
            case measure => have := HLT.out; have := HKQ.out; omega
            case rel => exact ⟨j + 1, at_ + q.length, _, by have h1 := HLT.out; first | rfl | (congr 1; unfold wrap64; omega), by rw [← HWR.out], ⟨HLT.out⟩, ⟨rfl⟩, HW21, HTX, ⟨HLEN.out.2.2⟩, HAX, HO21⟩
          · have hj : j = 6 := by have := HJ.out; omega
            subst hj
            have hst : st = T := HTJ.out
            subst hst
            have hbd := HWJ.out.badc
            clear hlt
            cases hbad : st.2 with
            | true =>
              rw [hbad] at hbd
              have HBD := Aside0.mk hbad
              clear hbad
              go_wp2
              go_ret2
              have he : encIn L = none := by unfold encIn; rw [← HP.out, HPO.out, if_pos rfl, ← HT.out, HBD.out, if_pos rfl]
              have e1 : encE L = 1 := by unfold encE; rw [he]
              have e2 : encR L = [] := by unfold encR; rw [he]
              rw [e1, e2]
              exact ⟨_, rfl, Kd.R_nil _ _ _ _ _, HBW5.out.trans (HWJ.out.bel.1.mono HLT5.out)⟩
            | false =>
              rw [hbad] at hbd
              have HBD := Aside0.mk hbad
              clear hbad
              obtain ⟨Ab, cb, hcb, hfb, hrb⟩ := HWJ.out.row
              have HRB := Aside0.mk (Kd.R_lower (Kd.R_mono (ok' := fun _ => True) hrb (fun _ _ => trivial)) (show w.heap.size ≤ w5.heap.size + 1 by have := HLT5.out; omega))
              have HCB := Aside0.mk hcb
              have HCP := Aside0.mk (Kd.R_reads' HOJ.out)
              have HBR := Aside0.mk (HBW5.out.trans (HWJ.out.bel.1.mono HLT5.out))
              obtain ⟨F, hF⟩ : ∃ F, F = (partsL p L).flatten := ⟨_, rfl⟩
              obtain ⟨X, hX⟩ : ∃ X, X = st.1 ++ F := ⟨_, rfl⟩
              have HCC : Aside0 (∀ W, Kd.C (Kd.slice 5 (Kd.int .u8)) W A9 6 (partsL p L) → Calls Try.prog 33 #[.slice A9 6 c9] W fun e w' => ∃ v0_ : Value, e = .returned v0_ ∧ Kd.R (Kd.int .u8) 5 w' W.heap.size (fun _ => True) v0_ F ∧ Below W.heap.size W w') := ⟨fun W h => by rw [hF]; exact concat.calls A9 c9 (partsL p L) W h HCP.out.2.1 (by have := HPL2.out.1; omega)⟩
              have HXE := Aside0.mk hX
              have HXL := Aside0.mk (show X.length < 5000000 ∧ bytesOk X by
                have h1 := HPL2.out
                rw [← HT.out] at h1
                rw [← hF] at h1
                refine ⟨by rw [hX, List.length_append]; omega, fun x hx => ?_⟩
                rw [hX] at hx
                have h2 := parts_ok p L
                rw [← HT.out, ← hF] at h2
                exact (List.mem_append.1 hx).elim (h2.2 x) (h2.1 x))
              have HPUT := Aside0.mk (Put_c (k := 5000000) HXL.out.2 (by have := HXL.out.1; omega) HXL.out.1)
              have HEN := Aside0.mk (show encIn L = some X by unfold encIn; rw [← HP.out, HPO.out, if_pos rfl, ← HT.out, HBD.out, if_neg (by simp), ← hF, hX])
              clear hX hF hrb hfb
              go_wp2_with fail
              go_region_law (first | (go_simp; go_at_call 33; refine (HCC.out _ (Kd.C_drew HCP.out.2.2)).mono ?_; rintro e w22 ⟨v22, rfl, ho_, hb_⟩; obtain ⟨A22, c22, hv22⟩ := Kd.R_slice ho_; subst hv22; have HO22 := Aside0.mk ho_; have HB22 := Aside0.mk (HBR.out.drew.trans (hb_.mono HBR.out.size)); have HRB22 := Aside0.mk (Kd.R_below (Kd.R_drew HRB.out) hb_); have hcb22 := pw_cell_below hb_ (show wr.drew.cell? ⟨w5.heap.size, 0, none⟩ = _ from HCB.out); clear ho_ hb_) | (refine step_of_list rfl ?_; refine Kd.R_append_rows (Kd.int .u8) (w0 := w) w.heap.size rfl (.tmp 97) (.tmp 99) 32 5 (.int .u8 0) 1 rfl Try.underlying32 info5 rfl (by decide) (by omega) (.slice Ab st.1.length cb) st.1 F _ _ _ (fun _ => True) (fun _ => False) rfl rfl HRB22.out (Kd.R_reads' HO22.out).2.2 (fun _ _ h => h) (fun _ h => h.elim) (fun _ _ => trivial) HB22.out HB22.out.size ?aL ?_; (case aL => have h1 := HXL.out.1; rw [HXE.out, List.length_append] at h1; show (st.1.length + F.length) * 1 ≤ _; omega); intro v23 w23 ho_ hb_ _ _; rw [← HXE.out] at ho_; obtain ⟨A23, c23, hv23⟩ := Kd.R_slice ho_; subst hv23; have HO23 := Aside0.mk ho_; have HB23 := Aside0.mk hb_; clear ho_ hb_; refine ⟨rfl, ?_⟩) | (go_simp; go_at_call 32; refine (crc_Put.calls 5000000 A23 c23 X (putC X) w23 (Kd.R_reads' HO23.out).2.2 (Kd.R_reads' HO23.out).2.1 HPUT.out).mono ?_; rintro e w24 ⟨v24, rfl, ho_, hb_⟩; obtain ⟨A24, c24, hv24⟩ := Kd.R_slice ho_; subst hv24; have HO24 := Aside0.mk (Kd.R_lower ho_ HB23.out.size); have HB24 := Aside0.mk (HB23.out.trans (hb_.mono HB23.out.size)); clear ho_ hb_))
              all_goals
                go_wp2
                go_ret2
                have e1 : encE L = 0 := by unfold encE; rw [HEN.out]
                have e2 : encR L = putC X := by unfold encR; rw [HEN.out]
                rw [e1, e2]
                exact ⟨_, rfl, HO24.out, HB24.out⟩
end Go.Proofs.Ytmhpcjncngonbaa.Q
