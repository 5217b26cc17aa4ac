/- Texts of this claim, joined; the first one's sentence stands below. -/
import Derived.Test.YtmhpcjncngonbaaZM8
/- What the law BundFinds comes to where nothing is asked: true. -/
namespace Go.Proofs.Ytmhpcjncngonbaa.Q
open Go.RowKit Go.Proofs.Ytmhpcjncngonbaa.Mine Go.Proofs.YtmhpcjncngonbaaW.PrintWords Go.Proofs.YtmhpcjncngonbaaW.PrintLast Go.Proofs.YtmhpcjncngonbaaW.PrintMore
set_option linter.unusedVariables false
set_option linter.unusedSimpArgs false
/-- what BundFinds is asked of, as a value -/
@[reducible] def finV (L : Loc) (a : Lat) (at_ : Int) (q0 q1 q2 q3 : Int) (cut : Int) : Value := .agg #[.string L.tag, .int .i32 L.s0, .int .i32 L.s1, .int .i32 L.s2, .int .i32 L.s3, .int .i32 L.s4, .int .i32 L.s5, .int .i32 L.s6, .string L.p0, .string L.p1, .string L.p2, .string L.p3, .slice a.A3 L.rules.length a.c3, .slice a.A4 L.curs.length a.c4, .slice a.A5 L.comps.length a.c5, .int .i64 at_, .int .u8 q0, .int .u8 q1, .int .u8 q2, .int .u8 q3, .int .i64 cut]
/-- the blocks of BundFinds -/
def Fi (L : Loc) (a : Lat) (q0 q1 q2 q3 : Int) (w w' : World) : Prop := LocC L a w' ∧ w'.heap[w.heap.size + 1]? = some (.cells (boxL L a) 29 (0, 0)) ∧ w'.heap[w.heap.size + 2]? = some (.cells #[.int .u8 q0, .int .u8 q1, .int .u8 q2, .int .u8 q3] 51 (0, 0)) ∧ Below w.heap.size w w'
theorem Fi.below {L : Loc} {a : Lat} {q0 q1 q2 q3 : Int} {w w1 w2 : World} (h : Fi L a q0 q1 q2 q3 w w1) (hb : Below w1.heap.size w1 w2) : Fi L a q0 q1 q2 q3 w w2 :=
  ⟨h.1.below hb, blk_below h.2.1 hb, blk_below h.2.2.1 hb, h.2.2.2.trans (hb.mono h.2.2.2.size)⟩
theorem Fi.start {L : Loc} {a : Lat} {w : World} (hL : LocC L a w) (at_ q0 q1 q2 q3 cut : Int) : ∃ w', w' = ((w.alloc (.cells #[.string L.tag, .int .i32 L.s0, .int .i32 L.s1, .int .i32 L.s2, .int .i32 L.s3, .int .i32 L.s4, .int .i32 L.s5, .int .i32 L.s6, .string L.p0, .string L.p1, .string L.p2, .string L.p3, .slice a.A3 L.rules.length a.c3, .slice a.A4 L.curs.length a.c4, .slice a.A5 L.comps.length a.c5, .int .i64 at_, .int .u8 q0, .int .u8 q1, .int .u8 q2, .int .u8 q3, .int .i64 cut] 53)).alloc (.cells #[.string L.tag, .int .i32 L.s0, .int .i32 L.s1, .int .i32 L.s2, .int .i32 L.s3, .int .i32 L.s4, .int .i32 L.s5, .int .i32 L.s6, .string L.p0, .string L.p1, .string L.p2, .string L.p3, .slice a.A3 L.rules.length a.c3, .slice a.A4 L.curs.length a.c4, .slice a.A5 L.comps.length a.c5] 29)).alloc (.cells #[.int .u8 q0, .int .u8 q1, .int .u8 q2, .int .u8 q3] 51) ∧ Fi L a q0 q1 q2 q3 w w' := by
  refine ⟨_, rfl, ?_⟩
  have h1 : Below w.heap.size w (w.alloc (.cells #[.string L.tag, .int .i32 L.s0, .int .i32 L.s1, .int .i32 L.s2, .int .i32 L.s3, .int .i32 L.s4, .int .i32 L.s5, .int .i32 L.s6, .string L.p0, .string L.p1, .string L.p2, .string L.p3, .slice a.A3 L.rules.length a.c3, .slice a.A4 L.curs.length a.c4, .slice a.A5 L.comps.length a.c5, .int .i64 at_, .int .u8 q0, .int .u8 q1, .int .u8 q2, .int .u8 q3, .int .i64 cut] 53)) := (Below.refl w.heap.size w).alloc (Nat.le_refl _) _
  generalize hw1 : w.alloc (.cells #[.string L.tag, .int .i32 L.s0, .int .i32 L.s1, .int .i32 L.s2, .int .i32 L.s3, .int .i32 L.s4, .int .i32 L.s5, .int .i32 L.s6, .string L.p0, .string L.p1, .string L.p2, .string L.p3, .slice a.A3 L.rules.length a.c3, .slice a.A4 L.curs.length a.c4, .slice a.A5 L.comps.length a.c5, .int .i64 at_, .int .u8 q0, .int .u8 q1, .int .u8 q2, .int .u8 q3, .int .i64 cut] 53) = w1 at *
  have s1 : w1.heap.size = w.heap.size + 1 := by rw [← hw1]; simp
  have h2 : Below w.heap.size w (w1.alloc (.cells #[.string L.tag, .int .i32 L.s0, .int .i32 L.s1, .int .i32 L.s2, .int .i32 L.s3, .int .i32 L.s4, .int .i32 L.s5, .int .i32 L.s6, .string L.p0, .string L.p1, .string L.p2, .string L.p3, .slice a.A3 L.rules.length a.c3, .slice a.A4 L.curs.length a.c4, .slice a.A5 L.comps.length a.c5] 29)) := h1.alloc (by omega) _
  have e2 := blk_new w1 (.cells #[.string L.tag, .int .i32 L.s0, .int .i32 L.s1, .int .i32 L.s2, .int .i32 L.s3, .int .i32 L.s4, .int .i32 L.s5, .int .i32 L.s6, .string L.p0, .string L.p1, .string L.p2, .string L.p3, .slice a.A3 L.rules.length a.c3, .slice a.A4 L.curs.length a.c4, .slice a.A5 L.comps.length a.c5] 29)
  generalize hw2 : w1.alloc (.cells #[.string L.tag, .int .i32 L.s0, .int .i32 L.s1, .int .i32 L.s2, .int .i32 L.s3, .int .i32 L.s4, .int .i32 L.s5, .int .i32 L.s6, .string L.p0, .string L.p1, .string L.p2, .string L.p3, .slice a.A3 L.rules.length a.c3, .slice a.A4 L.curs.length a.c4, .slice a.A5 L.comps.length a.c5] 29) = w2 at *
  have s2 : w2.heap.size = w.heap.size + 2 := by rw [← hw2]; simp [s1]
  have h3 : Below w.heap.size w (w2.alloc (.cells #[.int .u8 q0, .int .u8 q1, .int .u8 q2, .int .u8 q3] 51)) := h2.alloc (by omega) _
  have e3 := blk_new w2 (.cells #[.int .u8 q0, .int .u8 q1, .int .u8 q2, .int .u8 q3] 51)
  rw [s1] at e2
  rw [s2] at e3
  exact ⟨hL.below h3, blk_alloc e2 _, e3, h3⟩
theorem finds_plain {x : List Int} (hx : bytesOk x) (n : Nat) (q0 q1 q2 q3 : Int) (w0 : (Lit.int .u8 q0).wf = true) (w1 : (Lit.int .u8 q1).wf = true) (w2 : (Lit.int .u8 q2).wf = true) (w3 : (Lit.int .u8 q3).wf = true) (hn : n + 4 ≤ (putC x).length) (h4 : [q0, q1, q2, q3] ≠ [0, 0, 0, 0]) : bytesOk (Spec.xb (putC x) [q0, q1, q2, q3] n 4) ∧ (decR (Spec.xb (putC x) [q0, q1, q2, q3] n 4)).2 = 6 := by
  obtain ⟨a, rfl⟩ := Spec.Y_of w0
  obtain ⟨b, rfl⟩ := Spec.Y_of w1
  obtain ⟨c, rfl⟩ := Spec.Y_of w2
  obtain ⟨d, rfl⟩ := Spec.Y_of w3
  have hput : (putC x).length = (Spec.put (toY x)).length := by unfold putC; rw [Spec.I_len]
  rw [hput] at hn
  obtain ⟨m, hm, hxx⟩ := Spec.xb_I (Spec.put (toY x)) n a b c d hn
  have hB := Spec.four_ne h4 n m
  have hl : (Spec.put (toY x)).length = (Spec.zeros n ++ [a, b, c, d] ++ Spec.zeros m).length := by simp [Spec.zeros]; omega
  have hxl := Spec.xs_len' hl
  have hc : Spec.cut (Spec.xs (Spec.put (toY x)) (Spec.zeros n ++ [a, b, c, d] ++ Spec.zeros m)) = ([], 6) := by
    refine Spec.cut_bad _ (by omega) ?_
    rw [Spec.F_xs _ _ _ hl, Spec.F_put]
    exact Spec.xor_ne hB
  show bytesOk (Spec.xb (Spec.I (Spec.put (toY x))) _ n 4) ∧ (decR (Spec.xb (Spec.I (Spec.put (toY x))) _ n 4)).2 = 6
  rw [hxx]
  refine ⟨I_ok _, ?_⟩
  unfold decR cutC
  rw [toY_of, hc]
  rfl
set_option maxHeartbeats 16000000 in
set_option maxRecDepth 100000 in
theorem finds_s0 (L : Loc) (a : Lat) (at_ q0 q1 q2 q3 cut : Int) (w : World) (hL : LocC L a w) (hT : LocT L) (ha : (Lit.int .i64 at_).wf = true) (w0 : (Lit.int .u8 q0).wf = true) (w1 : (Lit.int .u8 q1).wf = true) (w2 : (Lit.int .u8 q2).wf = true) (w3 : (Lit.int .u8 q3).wf = true) (hc : (Lit.int .i64 cut).wf = true) (hs : smallB L = false) :
    Calls Try.prog 7 #[finV L a at_ q0 q1 q2 q3 cut] w fun e w' => e = .returned (.bool true) ∧ Below w.heap.size w w' := by
  obtain ⟨W1, hw1, hf⟩ := Fi.start hL at_ q0 q1 q2 q3 cut
  have HF1 := Aside0.mk hf
  have HE1 := Aside0.mk hw1
  have HT := Aside0.mk hT
  have HWF := Aside0.mk (⟨w0, w1, w2, w3⟩ : _ ∧ _ ∧ _ ∧ _)
  have HS := Aside0.mk hs
  clear hs
  clear hL hT hw1 hf w0 w1 w2 w3 ha hc
  go_enter Try.func7, Try.ntmps7
  go_wp2_with fail
  rw [← HE1.out]
  refine (shown.calls W1).mono ?_
  rintro e W2 ⟨rfl, hb⟩
  have HF2 := Aside0.mk (HF1.out.below hb)
  obtain ⟨hx0, hx1, hx2, hx3, hx4, hx5, hx6, hx7, hx8, hx9, hx10, hx11, hx12, hx13, hx14⟩ := boxCells HF2.out.2.1
  clear hb
  dsimp only
  go_wp2_with fail
  refine (small.calls L a W2 HF2.out.1 HT.out).mono ?_
  rintro e W3 ⟨rfl, hb⟩
  have HF3 := Aside0.mk (HF2.out.below hb)
  clear hb hx0 hx1 hx2 hx3 hx4 hx5 hx6 hx7 hx8 hx9 hx10 hx11 hx12 hx13 hx14
  rw [HS.out]
  dsimp only
  go_wp2_with fail
  go_ret
  exact ⟨rfl, HF3.out.2.2.2⟩
set_option maxHeartbeats 16000000 in
set_option maxRecDepth 100000 in
theorem finds_e1 (L : Loc) (a : Lat) (at_ q0 q1 q2 q3 cut : Int) (w : World) (hL : LocC L a w) (hT : LocT L) (ha : (Lit.int .i64 at_).wf = true) (w0 : (Lit.int .u8 q0).wf = true) (w1 : (Lit.int .u8 q1).wf = true) (w2 : (Lit.int .u8 q2).wf = true) (w3 : (Lit.int .u8 q3).wf = true) (hc : (Lit.int .i64 cut).wf = true) (hs : smallB L = true) (he : ¬ encE L = 0) :
    Calls Try.prog 7 #[finV L a at_ q0 q1 q2 q3 cut] w fun e w' => e = .returned (.bool true) ∧ Below w.heap.size w w' := by
  obtain ⟨W1, hw1, hf⟩ := Fi.start hL at_ q0 q1 q2 q3 cut
  have HF1 := Aside0.mk hf
  have HE1 := Aside0.mk hw1
  have HT := Aside0.mk hT
  have HWF := Aside0.mk (⟨w0, w1, w2, w3⟩ : _ ∧ _ ∧ _ ∧ _)
  have HS := Aside0.mk hs
  have HLB := Aside0.mk (small_b hs)
  have HE := Aside0.mk he
  clear hs he
  clear hL hT hw1 hf w0 w1 w2 w3 ha hc
  go_enter Try.func7, Try.ntmps7
  go_wp2_with fail
  rw [← HE1.out]
  refine (shown.calls W1).mono ?_
  rintro e W2 ⟨rfl, hb⟩
  have HF2 := Aside0.mk (HF1.out.below hb)
  obtain ⟨hx0, hx1, hx2, hx3, hx4, hx5, hx6, hx7, hx8, hx9, hx10, hx11, hx12, hx13, hx14⟩ := boxCells HF2.out.2.1
  clear hb
  dsimp only
  go_wp2_with fail
  refine (small.calls L a W2 HF2.out.1 HT.out).mono ?_
  rintro e W3 ⟨rfl, hb⟩
  have HF3 := Aside0.mk (HF2.out.below hb)
  clear hb hx0 hx1 hx2 hx3 hx4 hx5 hx6 hx7 hx8 hx9 hx10 hx11 hx12 hx13 hx14
  rw [HS.out]
  dsimp only
  obtain ⟨hx0, hx1, hx2, hx3, hx4, hx5, hx6, hx7, hx8, hx9, hx10, hx11, hx12, hx13, hx14⟩ := boxCells HF3.out.2.1
  go_wp2_with fail
  refine (enc_no.calls HLB.out HE.out a W3 HF3.out.1).mono ?_
  rintro e W4 ⟨X, cx, rfl, hb⟩
  have HF4 := Aside0.mk (HF3.out.below hb)
  clear hb hx0 hx1 hx2 hx3 hx4 hx5 hx6 hx7 hx8 hx9 hx10 hx11 hx12 hx13 hx14
  dsimp only
  go_wp2_with fail
  go_ret
  exact ⟨rfl, HF4.out.2.2.2⟩
set_option maxHeartbeats 16000000 in
set_option maxRecDepth 100000 in
theorem finds_nb (L : Loc) (a : Lat) (at_ q0 q1 q2 q3 cut : Int) (w : World) (hL : LocC L a w) (hT : LocT L) (ha : (Lit.int .i64 at_).wf = true) (w0 : (Lit.int .u8 q0).wf = true) (w1 : (Lit.int .u8 q1).wf = true) (w2 : (Lit.int .u8 q2).wf = true) (w3 : (Lit.int .u8 q3).wf = true) (hc : (Lit.int .i64 cut).wf = true) (hs : smallB L = true) (he : encE L = 0) (hE : at_ < 0 ∨ at_ > ((encR L).length : Int) - 4 ∨ [q0, q1, q2, q3] = [0, 0, 0, 0]) :
    Calls Try.prog 7 #[finV L a at_ q0 q1 q2 q3 cut] w fun e w' => e = .returned (.bool true) ∧ Below w.heap.size w w' := by
  obtain ⟨W1, hw1, hf⟩ := Fi.start hL at_ q0 q1 q2 q3 cut
  have HF1 := Aside0.mk hf
  have HE1 := Aside0.mk hw1
  have HT := Aside0.mk hT
  have HWF := Aside0.mk (⟨w0, w1, w2, w3⟩ : _ ∧ _ ∧ _ ∧ _)
  have HS := Aside0.mk hs
  have HLB := Aside0.mk (small_b hs)
  have HE := Aside0.mk he
  have HEE := Aside0.mk hE
  clear hs he hE
  clear hL hT hw1 hf w0 w1 w2 w3 ha hc
  go_enter Try.func7, Try.ntmps7
  go_wp2_with fail
  rw [← HE1.out]
  refine (shown.calls W1).mono ?_
  rintro e W2 ⟨rfl, hb⟩
  have HF2 := Aside0.mk (HF1.out.below hb)
  obtain ⟨hx0, hx1, hx2, hx3, hx4, hx5, hx6, hx7, hx8, hx9, hx10, hx11, hx12, hx13, hx14⟩ := boxCells HF2.out.2.1
  clear hb
  dsimp only
  go_wp2_with fail
  refine (small.calls L a W2 HF2.out.1 HT.out).mono ?_
  rintro e W3 ⟨rfl, hb⟩
  have HF3 := Aside0.mk (HF2.out.below hb)
  clear hb hx0 hx1 hx2 hx3 hx4 hx5 hx6 hx7 hx8 hx9 hx10 hx11 hx12 hx13 hx14
  rw [HS.out]
  dsimp only
  obtain ⟨hx0, hx1, hx2, hx3, hx4, hx5, hx6, hx7, hx8, hx9, hx10, hx11, hx12, hx13, hx14⟩ := boxCells HF3.out.2.1
  go_wp2_with fail
  obtain ⟨x, hx, hR⟩ := enc_zero HE.out
  have hln := enc_len HLB.out hx
  obtain ⟨rest, hrest, hrl⟩ := enc_head HLB.out hx
  have hx60 : 100 ≤ x.length := by rw [hrest]; simp only [List.length_cons]; omega
  have heq0 : ∀ W, (Op.equalIn 10000 51 (.agg #[.int .u8 q0, .int .u8 q1, .int .u8 q2, .int .u8 q3]) (.agg #[.int .u8 0, .int .u8 0, .int .u8 0, .int .u8 0])).run Try.prog W = .ok (decide ([q0, q1, q2, q3] = [0, 0, 0, 0])) W := fun W => run_eq4 W 9998 51 5 .u8 _ q0 q1 q2 q3 _ _ _ _ Try.underlying51 Try.underlying5 (show Try.prog.info? 5 = some _ from rfl) (by kernel_rfl) (by kernel_rfl)
  obtain ⟨b, hbv⟩ : ∃ b, b = encR L := ⟨_, rfl⟩
  have HBL := Aside0.mk (show 104 ≤ b.length ∧ b.length < 5000100 by rw [hbv]; exact ⟨by rw [hR, putC_len]; omega, encR_len HLB.out⟩)
  have HDC := Aside0.mk (show ∀ n, n < b.length → (decR (b.take n)).2 ≠ 0 by rw [hbv]; exact fun n hn => dec_cut HLB.out HE.out n hn)
  have HBO := Aside0.mk (show bytesOk b by rw [hbv]; exact encR_ok L)
  have HFN := Aside0.mk (show ∀ n : Nat, n + 4 ≤ b.length → [q0, q1, q2, q3] ≠ [0, 0, 0, 0] → bytesOk (Spec.xb b [q0, q1, q2, q3] n 4) ∧ (decR (Spec.xb b [q0, q1, q2, q3] n 4)).2 = 6 by rw [hbv, hR]; exact fun n hn h4 => finds_plain hln.2.2 n q0 q1 q2 q3 HWF.out.1 HWF.out.2.1 HWF.out.2.2.1 HWF.out.2.2.2 hn h4)
  have HEN := Aside0.mk (enc_yes.calls HLB.out HE.out a W3 HF3.out.1)
  rw [← hbv] at HEN HEE
  clear hx hR hln hrest hrl hx60 hbv
  refine HEN.out.mono ?_
  rintro e W4 ⟨X, cx, rfl, hcx, hlx, hb⟩
  have HF4 := Aside0.mk (HF3.out.below hb)
  have HCX := Aside0.mk hcx
  have HLX := Aside0.mk hlx
  have h04 : ¬ (b.length : Int) < 4 := by have := HBL.out; omega
  have hw4 : wrap64 ((b.length : Int) - 4) = (b.length : Int) - 4 := by have := HBL.out; unfold wrap64; omega
  have hg0 := (blk_cell HF4.out.2.2.1 0).trans rfl
  have hg1 := (blk_cell HF4.out.2.2.1 1).trans rfl
  have hg2 := (blk_cell HF4.out.2.2.1 2).trans rfl
  have hg3 := (blk_cell HF4.out.2.2.1 3).trans rfl
  clear hb hcx hlx hx0 hx1 hx2 hx3 hx4 hx5 hx6 hx7 hx8 hx9 hx10 hx11 hx12 hx13 hx14
  dsimp only
  by_cases h2 : at_ < 0
  · go_wp2_with fail
    go_ret
    exact ⟨rfl, HF4.out.2.2.2⟩
  by_cases h3 : at_ > (b.length : Int) - 4
  · go_wp2_with fail
    go_ret
    exact ⟨rfl, HF4.out.2.2.2⟩
  have h4 : [q0, q1, q2, q3] = [0, 0, 0, 0] := by rcases HEE.out with h | h | h <;> first | exact absurd h (by assumption) | exact h
  simp only [h4, decide_true] at heq0
  clear h4
  go_wp2_with fail
  go_ret
  exact ⟨rfl, HF4.out.2.2.2⟩
end Go.Proofs.Ytmhpcjncngonbaa.Q
