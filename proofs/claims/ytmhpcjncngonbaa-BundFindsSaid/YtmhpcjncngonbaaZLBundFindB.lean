/- Texts of this claim, joined; the first one's sentence stands below. -/
import Derived.Test.YtmhpcjncngonbaaZLBundFindA
/- What the law BundFinds comes to where nothing is cut: true. -/
namespace Go.Proofs.Ytmhpcjncngonbaa.Q
open Go.RowKit Go.Proofs.Ytmhpcjncngonbaa.Mine Go.Proofs.YtmhpcjncngonbaaW.PrintWords Go.Proofs.YtmhpcjncngonbaaW.PrintLast Go.Proofs.YtmhpcjncngonbaaW.PrintMore
set_option linter.unusedVariables false
set_option linter.unusedSimpArgs false
set_option maxHeartbeats 16000000 in
set_option maxRecDepth 100000 in
theorem finds_yes0 (L : Loc) (a : Lat) (at_ q0 q1 q2 q3 cut : Int) (w : World) (hL : LocC L a w) (hT : LocT L) (ha : (Lit.int .i64 at_).wf = true) (w0 : (Lit.int .u8 q0).wf = true) (w1 : (Lit.int .u8 q1).wf = true) (w2 : (Lit.int .u8 q2).wf = true) (w3 : (Lit.int .u8 q3).wf = true) (hc : (Lit.int .i64 cut).wf = true) (hs : smallB L = true) (he : encE L = 0) (hE1 : ¬ at_ < 0) (hE2 : ¬ at_ > ((encR L).length : Int) - 4) (hE3 : [q0, q1, q2, q3] ≠ [0, 0, 0, 0]) (hK : cut < 0 ∨ cut ≥ ((encR L).length : Int)) :
    Calls Try.prog 7 #[finV L a at_ q0 q1 q2 q3 cut] w fun e w' => e = .returned (.bool true) ∧ Below w.heap.size w w' := by
  obtain ⟨W1, hw1, hf⟩ := Fi.start hL at_ q0 q1 q2 q3 cut
  have HF1 := Aside0.mk hf
  have HE1 := Aside0.mk hw1
  have HT := Aside0.mk hT
  have HWF := Aside0.mk (⟨w0, w1, w2, w3⟩ : _ ∧ _ ∧ _ ∧ _)
  have HS := Aside0.mk hs
  have HLB := Aside0.mk (small_b hs)
  have HE := Aside0.mk he
  have HE1' := Aside0.mk hE1
  have HE2' := Aside0.mk hE2
  have HE3' := Aside0.mk hE3
  have HK' := Aside0.mk hK
  clear hs he hE1 hE2 hE3 hK
  clear hL hT hw1 hf w0 w1 w2 w3 ha hc
  go_enter Try.func7, Try.ntmps7
  go_wp2_with fail
  rw [← HE1.out]
  refine (shown.calls W1).mono ?_
  rintro e W2 ⟨rfl, hb⟩
  have HF2 := Aside0.mk (HF1.out.below hb)
  obtain ⟨hx0, hx1, hx2, hx3, hx4, hx5, hx6, hx7, hx8, hx9, hx10, hx11, hx12, hx13, hx14⟩ := boxCells HF2.out.2.1
  clear hb
  dsimp only
  go_wp2_with fail
  refine (small.calls L a W2 HF2.out.1 HT.out).mono ?_
  rintro e W3 ⟨rfl, hb⟩
  have HF3 := Aside0.mk (HF2.out.below hb)
  clear hb hx0 hx1 hx2 hx3 hx4 hx5 hx6 hx7 hx8 hx9 hx10 hx11 hx12 hx13 hx14
  rw [HS.out]
  dsimp only
  obtain ⟨hx0, hx1, hx2, hx3, hx4, hx5, hx6, hx7, hx8, hx9, hx10, hx11, hx12, hx13, hx14⟩ := boxCells HF3.out.2.1
  go_wp2_with fail
  obtain ⟨x, hx, hR⟩ := enc_zero HE.out
  have hln := enc_len HLB.out hx
  obtain ⟨rest, hrest, hrl⟩ := enc_head HLB.out hx
  have hx60 : 100 ≤ x.length := by rw [hrest]; simp only [List.length_cons]; omega
  have heq0 : ∀ W, (Op.equalIn 10000 51 (.agg #[.int .u8 q0, .int .u8 q1, .int .u8 q2, .int .u8 q3]) (.agg #[.int .u8 0, .int .u8 0, .int .u8 0, .int .u8 0])).run Try.prog W = .ok (decide ([q0, q1, q2, q3] = [0, 0, 0, 0])) W := fun W => run_eq4 W 9998 51 5 .u8 _ q0 q1 q2 q3 _ _ _ _ Try.underlying51 Try.underlying5 (show Try.prog.info? 5 = some _ from rfl) (by kernel_rfl) (by kernel_rfl)
  obtain ⟨b, hbv⟩ : ∃ b, b = encR L := ⟨_, rfl⟩
  have HBL := Aside0.mk (show 104 ≤ b.length ∧ b.length < 5000100 by rw [hbv]; exact ⟨by rw [hR, putC_len]; omega, encR_len HLB.out⟩)
  have HDC := Aside0.mk (show ∀ n, n < b.length → (decR (b.take n)).2 ≠ 0 by rw [hbv]; exact fun n hn => dec_cut HLB.out HE.out n hn)
  have HBO := Aside0.mk (show bytesOk b by rw [hbv]; exact encR_ok L)
  have HFN := Aside0.mk (show ∀ n : Nat, n + 4 ≤ b.length → [q0, q1, q2, q3] ≠ [0, 0, 0, 0] → bytesOk (Spec.xb b [q0, q1, q2, q3] n 4) ∧ (decR (Spec.xb b [q0, q1, q2, q3] n 4)).2 = 6 by rw [hbv, hR]; exact fun n hn h4 => finds_plain hln.2.2 n q0 q1 q2 q3 HWF.out.1 HWF.out.2.1 HWF.out.2.2.1 HWF.out.2.2.2 hn h4)
  have HEN := Aside0.mk (enc_yes.calls HLB.out HE.out a W3 HF3.out.1)
  rw [← hbv] at HEN HE2' HK'
  clear hx hR hln hrest hrl hx60 hbv
  refine HEN.out.mono ?_
  rintro e W4 ⟨X, cx, rfl, hcx, hlx, hb⟩
  have HF4 := Aside0.mk (HF3.out.below hb)
  have HCX := Aside0.mk hcx
  have HLX := Aside0.mk hlx
  have h04 : ¬ (b.length : Int) < 4 := by have := HBL.out; omega
  have hw4 : wrap64 ((b.length : Int) - 4) = (b.length : Int) - 4 := by have := HBL.out; unfold wrap64; omega
  have hg0 := (blk_cell HF4.out.2.2.1 0).trans rfl
  have hg1 := (blk_cell HF4.out.2.2.1 1).trans rfl
  have hg2 := (blk_cell HF4.out.2.2.1 2).trans rfl
  have hg3 := (blk_cell HF4.out.2.2.1 3).trans rfl
  clear hb hcx hlx hx0 hx1 hx2 hx3 hx4 hx5 hx6 hx7 hx8 hx9 hx10 hx11 hx12 hx13 hx14
  dsimp only
  obtain ⟨n, rfl⟩ := Int.eq_ofNat_of_zero_le (show 0 ≤ at_ by have := HE1'.out; omega)
  have hn4 : n + 4 ≤ b.length := by have := HE2'.out; omega
  have HN4 := Aside0.mk hn4
  have h2 : ¬ (n : Int) < 0 := by omega
  have h3 : ¬ (n : Int) > (b.length : Int) - 4 := by omega
  have h4 := HE3'.out
  simp only [h4, decide_false] at heq0
  clear h4
  have HB := Aside0.mk (Below.refl W4.heap.size W4)
  go_wp2_with (first | ((with_reducible refine gate_dst (N := 58) rfl ?_); refine Kd.R_lit (Kd.int .u8) _ 5 ?hg (N := 58) ?hd (xs := ([] : List Int)) (inner := []) (ok := fun _ => True) (okp := fun _ => True) ?hr ?hp (fun _ hk => hk) trivial (Below.refl _ _) (Nat.le_refl _) (by simp) ?_; (case hd => rfl); (case hg => rfl); (case hr => first | (go_simp; done) | (go_simp; rfl)); (case hp => exact (Reps.none _ _)); intro v58 w5 ho hb hg_ hnew_; clear hg_ hnew_; have HO58 := Aside0.mk (Kd.R_lower ho HB.out.size); have n1_ := Aside0.mk (HB.out.trans (hb.mono HB.out.size)); clear HB; have HB := n1_; clear n1_ ho hb) | ((with_reducible refine gate_builtin (b := .append) (xs := #[.tmp 58, .tmp 59]) rfl ?_); at_builtin; refine Kd.R_append_rows (Kd.int .u8) (w0 := W4) W4.heap.size rfl (.tmp 58) (.tmp 59) 32 5 (.int .u8 0) 1 rfl Try.underlying32 info5 rfl (by decide) (by omega) v58 [] b _ _ _ (fun _ => True) (fun _ => False) rfl rfl ?aO ?aR (fun _ _ h => h) (fun _ h => h.elim) ?aF ?aB ?aS ?aL ?_; (case aR => exact (Kd.C_below HCX.out HB.out)); (case aB => exact HB.out); (case aF => exact (fun _ _ => trivial)); (case aO => exact HO58.out); (case aS => exact HB.out.size); (case aL => exact (by have := HBL.out; simp only [List.length_nil]; omega)); intro v60 w6 ho hb hg hat; rw [List.nil_append] at ho; have HO60 := Aside0.mk ho; clear HB; have HB := Aside0.mk hb; clear ho hb hg hat; obtain ⟨g, cap, eg, hbg, hlg, cells_, hcells_⟩ := Kd.R_form HO60.out (by have := HBL.out; omega); subst eg))
  have HG6 := Aside0.mk (blk_below HF4.out.2.2.1 HB.out)
  have HNE := Aside0.mk (blk_ne HG6.out hcells_ (by decide))
  have HLG := Aside0.mk (show W4.heap.size ≤ g from hbg)
  clear hbg hlg hcells_ hg0 hg1 hg2 hg3 heq0 h2 h3 h04 hw4
  go_loopg [11] 4 (fun kq v11 w' => ∃ i : Nat, v11 = .int .i64 (i : Int) ∧ Aside0 (i + kq = 4) ∧ Aside0 (Kd.R (Kd.int .u8) 5 w' W4.heap.size (fun _ => True) (.slice (some ⟨g, 0, none⟩) b.length cap) (Spec.xb b [q0, q1, q2, q3] n i)) ∧ Aside0 (w'.heap[w.heap.size + 2]? = some (.cells #[.int .u8 q0, .int .u8 q1, .int .u8 q2, .int .u8 q3] 51 (0, 0))) ∧ Aside0 (Below W4.heap.size W4 w'))
  case atStart => exact ⟨0, rfl, ⟨rfl⟩, HO60, HG6, HB⟩
  case round =>
    clear HB HG6 HO60
    obtain ⟨i, rfl, HI, HO, HG, HB⟩ := hrel
    have hg0 := (blk_cell HG.out 0).trans rfl
    have hg1 := (blk_cell HG.out 1).trans rfl
    have hg2 := (blk_cell HG.out 2).trans rfl
    have hg3 := (blk_cell HG.out 3).trans rfl
    have hn4 := HN4.out
    have hbm := HBL.out
    rcases (show i = 0 ∨ i = 1 ∨ i = 2 ∨ i = 3 ∨ i = 4 by have := HI.out; omega) with rfl | rfl | rfl | rfl | rfl
    · obtain ⟨hx, hf⟩ := Kd.R_celln 0 HO.out ((n : Nat) : Int) (by omega) (by first | omega | (rw [Spec.xb_len]; omega))
      have HP := Kd.R_putn HO.out ((n : Nat) : Int) (Go.bits .xor .u8 (rd (Spec.xb b [q0, q1, q2, q3] n 0) ((n : Nat) : Int)) q0)
      rw [Int.toNat_natCast] at hx hf HP
      have HPA := Aside0.mk HP
      clear HP
      have hwi : IntKind.i64.wrap (n : Int) = (n : Int) := by rw [IntKind.wrap_i64]; omega
      have hlo : (0 ≤ (n : Int)) = True := eq_true (by omega)
      have hhi : ((n : Int) < (b.length : Int)) = True := eq_true (by omega)
      have htn : ((n : Int)).toNat = n := by omega
      clear hn4 hbm
      go_wp2
      go_region_law fail
      all_goals
        go_wp2
        go_roundg 3
        case measure => have := HI.out; omega
        case rel => exact ⟨1, (by first | rfl | (simp; done)), ⟨by have := HI.out; omega⟩, HPA, ⟨blk_far (blk_drew HG.out) HNE.out _⟩, ⟨(HB.out.drew).setCell HLG.out _⟩⟩
    · obtain ⟨hx, hf⟩ := Kd.R_celln 0 HO.out ((n + 1 : Nat) : Int) (by omega) (by first | omega | (rw [Spec.xb_len]; omega))
      have HP := Kd.R_putn HO.out ((n + 1 : Nat) : Int) (Go.bits .xor .u8 (rd (Spec.xb b [q0, q1, q2, q3] n 1) ((n + 1 : Nat) : Int)) q1)
      rw [Int.toNat_natCast] at hx hf HP
      have HPA := Aside0.mk HP
      clear HP
      have hwi : IntKind.i64.wrap ((n : Int) + 1) = ((n : Int) + 1) := by rw [IntKind.wrap_i64]; omega
      have hlo : (0 ≤ ((n : Int) + 1)) = True := eq_true (by omega)
      have hhi : (((n : Int) + 1) < (b.length : Int)) = True := eq_true (by omega)
      have htn : (((n : Int) + 1)).toNat = n + 1 := by omega
      clear hn4 hbm
      go_wp2
      go_region_law fail
      all_goals
        go_wp2
        go_roundg 2
        case measure => have := HI.out; omega
        case rel => exact ⟨2, (by first | rfl | (simp; done)), ⟨by have := HI.out; omega⟩, HPA, ⟨blk_far (blk_drew HG.out) HNE.out _⟩, ⟨(HB.out.drew).setCell HLG.out _⟩⟩
    · obtain ⟨hx, hf⟩ := Kd.R_celln 0 HO.out ((n + 2 : Nat) : Int) (by omega) (by first | omega | (rw [Spec.xb_len]; omega))
      have HP := Kd.R_putn HO.out ((n + 2 : Nat) : Int) (Go.bits .xor .u8 (rd (Spec.xb b [q0, q1, q2, q3] n 2) ((n + 2 : Nat) : Int)) q2)
      rw [Int.toNat_natCast] at hx hf HP
      have HPA := Aside0.mk HP
      clear HP
      have hwi : IntKind.i64.wrap ((n : Int) + 2) = ((n : Int) + 2) := by rw [IntKind.wrap_i64]; omega
      have hlo : (0 ≤ ((n : Int) + 2)) = True := eq_true (by omega)
      have hhi : (((n : Int) + 2) < (b.length : Int)) = True := eq_true (by omega)
      have htn : (((n : Int) + 2)).toNat = n + 2 := by omega
      clear hn4 hbm
      go_wp2
      go_region_law fail
      all_goals
        go_wp2
        go_roundg 1
        case measure => have := HI.out; omega
        case rel => exact ⟨3, (by first | rfl | (simp; done)), ⟨by have := HI.out; omega⟩, HPA, ⟨blk_far (blk_drew HG.out) HNE.out _⟩, ⟨(HB.out.drew).setCell HLG.out _⟩⟩
    · obtain ⟨hx, hf⟩ := Kd.R_celln 0 HO.out ((n + 3 : Nat) : Int) (by omega) (by first | omega | (rw [Spec.xb_len]; omega))
      have HP := Kd.R_putn HO.out ((n + 3 : Nat) : Int) (Go.bits .xor .u8 (rd (Spec.xb b [q0, q1, q2, q3] n 3) ((n + 3 : Nat) : Int)) q3)
      rw [Int.toNat_natCast] at hx hf HP
      have HPA := Aside0.mk HP
      clear HP
      have hwi : IntKind.i64.wrap ((n : Int) + 3) = ((n : Int) + 3) := by rw [IntKind.wrap_i64]; omega
      have hlo : (0 ≤ ((n : Int) + 3)) = True := eq_true (by omega)
      have hhi : (((n : Int) + 3) < (b.length : Int)) = True := eq_true (by omega)
      have htn : (((n : Int) + 3)).toNat = n + 3 := by omega
      clear hn4 hbm
      go_wp2
      go_region_law fail
      all_goals
        go_wp2
        go_roundg 0
        case measure => have := HI.out; omega
        case rel => exact ⟨4, (by first | rfl | (simp; done)), ⟨by have := HI.out; omega⟩, HPA, ⟨blk_far (blk_drew HG.out) HNE.out _⟩, ⟨(HB.out.drew).setCell HLG.out _⟩⟩
    · have HC8 := Aside0.mk (Kd.R_reads' HO.out)
      have hxl : (Spec.xb b [q0, q1, q2, q3] n 4).length = b.length := Spec.xb_len _ _ _ _
      have hfn := HFN.out n hn4 HE3'.out
      have HCU := Aside0.mk (show ∀ W, (Kd.int .u8).C W (some ⟨g, 0, none⟩) (Spec.xb b [q0, q1, q2, q3] n 4).length (Spec.xb b [q0, q1, q2, q3] n 4) → Calls Try.prog 15 #[.slice (some ⟨g, 0, none⟩) b.length cap] W fun e w' => ∃ A3 c3 A4 c4 A5 c5, e = .returned (.tuple #[locV zeroL ⟨A3, c3, A4, c4, A5, c5⟩, .int .i64 6]) ∧ LocC zeroL ⟨A3, c3, A4, c4, A5, c5⟩ w' ∧ Below W.heap.size W w' from fun W hW => by
        have := dec_no.calls (z := 6) hfn.2 (by decide) hfn.1 (by rw [hxl]; omega) (some ⟨g, 0, none⟩) cap W hW (by rw [hxl]; exact HC8.out.2.1)
        rw [hxl] at this
        exact this)
      clear hxl hfn hn4 hbm hg0 hg1 hg2 hg3
      go_wp2_with fail
      refine (HCU.out _ HC8.out.2.2).mono ?_
      rintro e w8 ⟨B3, d3, B4, d4, B5, d5, rfl, hM, hb⟩
      have hB8 := HB.out.trans (hb.mono HB.out.size)
      obtain ⟨w9, hw9, hb9, hy9⟩ := new_box zeroL B3 d3 B4 d4 B5 d5 w8
      have HE9 := Aside0.mk (show w9 = w8.alloc (.cells #[.string ⟨#[]⟩, .int .i32 0, .int .i32 0, .int .i32 0, .int .i32 0, .int .i32 0, .int .i32 0, .int .i32 0, .string ⟨#[]⟩, .string ⟨#[]⟩, .string ⟨#[]⟩, .string ⟨#[]⟩, .slice B3 0 d3, .slice B4 0 d4, .slice B5 0 d5] 29) from hw9)
      have HB9 := Aside0.mk (hB8.trans (hb9.mono hB8.size))
      clear hb hM hB8 hw9 hb9 hy9
      dsimp only
      go_upto_region 17 with fail
      simp only [zeroL, List.length_nil]
      rw [← HE9.out]
      by_cases hc0 : cut < 0
      · go_wp2_with fail
        go_ret
        exact ⟨rfl, HF4.out.2.2.2.trans (HB9.out.mono HF4.out.2.2.2.size)⟩
      · have hc1 : cut ≥ (b.length : Int) := by rcases HK'.out with h | h <;> omega
        go_wp2_with fail
        go_ret
        exact ⟨rfl, HF4.out.2.2.2.trans (HB9.out.mono HF4.out.2.2.2.size)⟩
end Go.Proofs.Ytmhpcjncngonbaa.Q
