/- Texts of this claim, joined; the first one's sentence stands below. -/
import Derived.Test.YtmhpcjncngonbaaZM6
import Derived.Laws.StructEq
/- What the reference's Same comes to; rows of 65535 at most. -/
namespace Go.Proofs.Ytmhpcjncngonbaa.Q
open Go.RowKit Go.Proofs.Ytmhpcjncngonbaa.Mine Go.Proofs.YtmhpcjncngonbaaW.PrintWords Go.Proofs.YtmhpcjncngonbaaW.PrintLast Go.Proofs.YtmhpcjncngonbaaW.PrintMore
set_option linter.unusedVariables false
set_option linter.unusedSimpArgs false
set_option maxRecDepth 100000 in
theorem run_eq23 (w : World) (a0 a1 a2 a3 a4 a5 a6 b0 b1 b2 b3 b4 b5 b6 : Int) : (Op.equalIn 10000 23 (.agg #[.int .i32 a0, .int .i32 a1, .int .i32 a2, .int .i32 a3, .int .i32 a4, .int .i32 a5, .int .i32 a6]) (.agg #[.int .i32 b0, .int .i32 b1, .int .i32 b2, .int .i32 b3, .int .i32 b4, .int .i32 b5, .int .i32 b6])).run Try.prog w = .ok (decide ([a0, a1, a2, a3, a4, a5, a6] = [b0, b1, b2, b3, b4, b5, b6])) w := by
  have q : ∀ (e : TypeId) (xs : Array Value) (off : Nat) (v : Value), Try.prog.plainKey e = true → xs[off]? = some v → (part e xs off).run Try.prog w = .ok v w := fun e xs off v hk h => run_part_plain w hk h
  have h : (Op.equalIn (9999 + 1) 23 (.agg #[.int .i32 a0, .int .i32 a1, .int .i32 a2, .int .i32 a3, .int .i32 a4, .int .i32 a5, .int .i32 a6]) (.agg #[.int .i32 b0, .int .i32 b1, .int .i32 b2, .int .i32 b3, .int .i32 b4, .int .i32 b5, .int .i32 b6])).run Try.prog w = .ok ((a0 == b0) && ((a1 == b1) && ((a2 == b2) && ((a3 == b3) && ((a4 == b4) && ((a5 == b5) && (a6 == b6))))))) w := by
    refine eqA_of Try.underlying23 (by kernel_rfl) ?_
    refine eqf_cons (by rfl) (q 21 _ 0 _ (by kernel_rfl) rfl) (q 21 _ 0 _ (by kernel_rfl) rfl) (run_equalIn_int w 9998 21 .i32 .i32 _ _ Try.underlying21) ?_
    refine eqf_cons (by rfl) (q 21 _ 1 _ (by kernel_rfl) rfl) (q 21 _ 1 _ (by kernel_rfl) rfl) (run_equalIn_int w 9998 21 .i32 .i32 _ _ Try.underlying21) ?_
    refine eqf_cons (by rfl) (q 21 _ 2 _ (by kernel_rfl) rfl) (q 21 _ 2 _ (by kernel_rfl) rfl) (run_equalIn_int w 9998 21 .i32 .i32 _ _ Try.underlying21) ?_
    refine eqf_cons (by rfl) (q 21 _ 3 _ (by kernel_rfl) rfl) (q 21 _ 3 _ (by kernel_rfl) rfl) (run_equalIn_int w 9998 21 .i32 .i32 _ _ Try.underlying21) ?_
    refine eqf_cons (by rfl) (q 21 _ 4 _ (by kernel_rfl) rfl) (q 21 _ 4 _ (by kernel_rfl) rfl) (run_equalIn_int w 9998 21 .i32 .i32 _ _ Try.underlying21) ?_
    refine eqf_cons (by rfl) (q 21 _ 5 _ (by kernel_rfl) rfl) (q 21 _ 5 _ (by kernel_rfl) rfl) (run_equalIn_int w 9998 21 .i32 .i32 _ _ Try.underlying21) ?_
    exact eqf_last (by rfl) (q 21 _ 6 _ (by kernel_rfl) rfl) (q 21 _ 6 _ (by kernel_rfl) rfl) (run_equalIn_int w 9998 21 .i32 .i32 _ _ Try.underlying21)
  have e : ((a0 == b0) && ((a1 == b1) && ((a2 == b2) && ((a3 == b3) && ((a4 == b4) && ((a5 == b5) && (a6 == b6))))))) = decide ([a0, a1, a2, a3, a4, a5, a6] = [b0, b1, b2, b3, b4, b5, b6]) := by
    rw [Bool.eq_iff_iff]
    simp only [Bool.and_eq_true, beq_iff_eq, decide_eq_true_eq, List.cons.injEq, and_true]
  rw [e] at h
  exact h
set_option maxRecDepth 100000 in
theorem run_eq24 (w : World) (a0 a1 a2 a3 b0 b1 b2 b3 : ByteArray) : (Op.equalIn 10000 24 (.agg #[.string a0, .string a1, .string a2, .string a3]) (.agg #[.string b0, .string b1, .string b2, .string b3])).run Try.prog w = .ok (decide ([a0, a1, a2, a3] = [b0, b1, b2, b3])) w := by
  have q : ∀ (xs : Array Value) (off : Nat) (v : Value) (w : World), xs[off]? = some v → (part 9 xs off).run Try.prog w = .ok v w := fun xs off v w h => run_part_plain w (by kernel_rfl) h
  have g : ∀ (a b : ByteArray) (w : World), (Op.equalIn (9998 + 1) 9 (.string a) (.string b)).run Try.prog w = .ok (decide (a = b)) w := fun a b w => by rw [run_equalIn_string w _ _ _ _ Try.underlying9, toList_eq_iff]
  have e3 : List.range 4 = [0, 1, 2, 3] := rfl
  have hc : Try.prog.cellsOf 9 = 1 := by kernel_rfl
  show (Op.equalIn (9999 + 1) 24 _ _).run Try.prog w = _
  rw [run_equalIn_array w 9999 _ _ Try.underlying24 (show Try.prog.info? 9 = some _ from rfl), hc, e3]
  have aa0 := fun w => q #[.string a0, .string a1, .string a2, .string a3] 0 (.string a0) w rfl
  have aa1 := fun w => q #[.string a0, .string a1, .string a2, .string a3] 1 (.string a1) w rfl
  have aa2 := fun w => q #[.string a0, .string a1, .string a2, .string a3] 2 (.string a2) w rfl
  have aa3 := fun w => q #[.string a0, .string a1, .string a2, .string a3] 3 (.string a3) w rfl
  have bb0 := fun w => q #[.string b0, .string b1, .string b2, .string b3] 0 (.string b0) w rfl
  have bb1 := fun w => q #[.string b0, .string b1, .string b2, .string b3] 1 (.string b1) w rfl
  have bb2 := fun w => q #[.string b0, .string b1, .string b2, .string b3] 2 (.string b2) w rfl
  have bb3 := fun w => q #[.string b0, .string b1, .string b2, .string b3] 3 (.string b3) w rfl
  clear q
  simp only [Op.eqItems, Sem.run_bind, Nat.mul_one, aa0, bb0, g, Result.andThen_ok]
  by_cases c0 : a0 = b0
  case neg => simp [c0]
  subst c0
  simp only [decide_true, Bool.not_true, Bool.false_eq_true, if_false, Sem.run_bind, aa1, bb1, g, Result.andThen_ok]
  by_cases c1 : a1 = b1
  case neg => simp [c1]
  subst c1
  simp only [decide_true, Bool.not_true, Bool.false_eq_true, if_false, Sem.run_bind, aa2, bb2, g, Result.andThen_ok]
  by_cases c2 : a2 = b2
  case neg => simp [c2]
  subst c2
  simp only [decide_true, Bool.not_true, Bool.false_eq_true, if_false, Sem.run_bind, aa3, bb3, g, Result.andThen_ok]
  by_cases c3 : a3 = b3
  case neg => simp [c3]
  subst c3
  simp
theorem run_eq58 (w : World) (x y : Int × ByteArray) : (Op.equalIn 10000 58 (.agg #[.int .i64 x.1, .string x.2]) (.agg #[.int .i64 y.1, .string y.2])).run Try.prog w = .ok (decide (x = y)) w := by
  have q : ∀ (e : TypeId) (xs : Array Value) (off : Nat) (v : Value), Try.prog.plainKey e = true → xs[off]? = some v → (part e xs off).run Try.prog w = .ok v w := fun e xs off v hk h => run_part_plain w hk h
  have h : (Op.equalIn (9999 + 1) 58 (.agg #[.int .i64 x.1, .string x.2]) (.agg #[.int .i64 y.1, .string y.2])).run Try.prog w = .ok ((x.1 == y.1) && (x.2.toList == y.2.toList)) w := by
    refine eqA_of Try.underlying58 (by kernel_rfl) ?_
    refine eqf_cons (by rfl) (q 3 _ 0 _ (by kernel_rfl) rfl) (q 3 _ 0 _ (by kernel_rfl) rfl) (run_equalIn_int w 9998 3 .i64 .i64 _ _ Try.underlying3) ?_
    exact eqf_last (by rfl) (q 9 _ 1 _ (by kernel_rfl) rfl) (q 9 _ 1 _ (by kernel_rfl) rfl) (run_equalIn_string w 9998 9 _ _ Try.underlying9)
  have e : ((x.1 == y.1) && (x.2.toList == y.2.toList)) = decide (x = y) := by
    rw [toList_eq_iff, Bool.eq_iff_iff]
    simp [Prod.ext_iff]
  rw [e] at h
  exact h
theorem run_eq60 (w : World) (x y : ByteArray × ByteArray × Int) : (Op.equalIn 10000 60 (.agg #[.string x.1, .string x.2.1, .int .i64 x.2.2]) (.agg #[.string y.1, .string y.2.1, .int .i64 y.2.2])).run Try.prog w = .ok (decide (x = y)) w := by
  have q : ∀ (e : TypeId) (xs : Array Value) (off : Nat) (v : Value), Try.prog.plainKey e = true → xs[off]? = some v → (part e xs off).run Try.prog w = .ok v w := fun e xs off v hk h => run_part_plain w hk h
  have h : (Op.equalIn (9999 + 1) 60 (.agg #[.string x.1, .string x.2.1, .int .i64 x.2.2]) (.agg #[.string y.1, .string y.2.1, .int .i64 y.2.2])).run Try.prog w = .ok ((x.1.toList == y.1.toList) && ((x.2.1.toList == y.2.1.toList) && (x.2.2 == y.2.2))) w := by
    refine eqA_of Try.underlying60 (by kernel_rfl) ?_
    refine eqf_cons (by rfl) (q 9 _ 0 _ (by kernel_rfl) rfl) (q 9 _ 0 _ (by kernel_rfl) rfl) (run_equalIn_string w 9998 9 _ _ Try.underlying9) ?_
    refine eqf_cons (by rfl) (q 9 _ 1 _ (by kernel_rfl) rfl) (q 9 _ 1 _ (by kernel_rfl) rfl) (run_equalIn_string w 9998 9 _ _ Try.underlying9) ?_
    exact eqf_last (by rfl) (q 3 _ 2 _ (by kernel_rfl) rfl) (q 3 _ 2 _ (by kernel_rfl) rfl) (run_equalIn_int w 9998 3 .i64 .i64 _ _ Try.underlying3)
  have e : ((x.1.toList == y.1.toList) && ((x.2.1.toList == y.2.1.toList) && (x.2.2 == y.2.2))) = decide (x = y) := by
    rw [toList_eq_iff, toList_eq_iff, Bool.eq_iff_iff]
    simp [Prod.ext_iff]
  rw [e] at h
  exact h
theorem run_eq62 (w : World) (x y : Int × Int × ByteArray) : (Op.equalIn 10000 62 (.agg #[.int .i64 x.1, .int .i64 x.2.1, .string x.2.2]) (.agg #[.int .i64 y.1, .int .i64 y.2.1, .string y.2.2])).run Try.prog w = .ok (decide (x = y)) w := by
  have q : ∀ (e : TypeId) (xs : Array Value) (off : Nat) (v : Value), Try.prog.plainKey e = true → xs[off]? = some v → (part e xs off).run Try.prog w = .ok v w := fun e xs off v hk h => run_part_plain w hk h
  have h : (Op.equalIn (9999 + 1) 62 (.agg #[.int .i64 x.1, .int .i64 x.2.1, .string x.2.2]) (.agg #[.int .i64 y.1, .int .i64 y.2.1, .string y.2.2])).run Try.prog w = .ok ((x.1 == y.1) && ((x.2.1 == y.2.1) && (x.2.2.toList == y.2.2.toList))) w := by
    refine eqA_of Try.underlying62 (by kernel_rfl) ?_
    refine eqf_cons (by rfl) (q 3 _ 0 _ (by kernel_rfl) rfl) (q 3 _ 0 _ (by kernel_rfl) rfl) (run_equalIn_int w 9998 3 .i64 .i64 _ _ Try.underlying3) ?_
    refine eqf_cons (by rfl) (q 3 _ 1 _ (by kernel_rfl) rfl) (q 3 _ 1 _ (by kernel_rfl) rfl) (run_equalIn_int w 9998 3 .i64 .i64 _ _ Try.underlying3) ?_
    exact eqf_last (by rfl) (q 9 _ 2 _ (by kernel_rfl) rfl) (q 9 _ 2 _ (by kernel_rfl) rfl) (run_equalIn_string w 9998 9 _ _ Try.underlying9)
  have e : ((x.1 == y.1) && ((x.2.1 == y.2.1) && (x.2.2.toList == y.2.2.toList))) = decide (x = y) := by
    rw [toList_eq_iff, Bool.eq_iff_iff]
    simp [Prod.ext_iff]
  rw [e] at h
  exact h
/-- two locales' blocks -/
def Two (L M : Loc) (a b : Lat) (w w' : World) : Prop := LocC L a w' ∧ LocC M b w' ∧ w'.heap[w.heap.size]? = some (.cells (boxL L a) 29 (0, 0)) ∧ w'.heap[w.heap.size + 1]? = some (.cells (boxL M b) 29 (0, 0)) ∧ Below w.heap.size w w'
theorem Two.drew {L M : Loc} {a b : Lat} {w w' : World} (h : Two L M a b w w') : Two L M a b w w'.drew :=
  have hb := (Below.refl w'.heap.size w').drew
  ⟨h.1.below hb, h.2.1.below hb, h.2.2.1, h.2.2.2.1, h.2.2.2.2.trans (hb.mono h.2.2.2.2.size)⟩
theorem Two.start {L M : Loc} {a b : Lat} {w : World} (hL : LocC L a w) (hM : LocC M b w) : Two L M a b w ((w.alloc (.cells (boxL L a) 29)).alloc (.cells (boxL M b) 29)) := by
  have h1 : Below w.heap.size w (w.alloc (.cells (boxL L a) 29)) := (Below.refl w.heap.size w).alloc (Nat.le_refl _) _
  have h2 : Below w.heap.size w ((w.alloc (.cells (boxL L a) 29)).alloc (.cells (boxL M b) 29)) := h1.alloc (by simp) _
  have h3 := blk_new (w.alloc (.cells (boxL L a) 29)) (.cells (boxL M b) 29)
  rw [show (w.alloc (.cells (boxL L a) 29)).heap.size = w.heap.size + 1 by simp] at h3
  exact ⟨hL.below h2, hM.below h2, blk_alloc (blk_new w _) _, h3, h2⟩
set_option maxHeartbeats 16000000 in
set_option maxRecDepth 100000 in
theorem same.calls (L M : Loc) (a b : Lat) (w : World) (hL : LocC L a w) (hM : LocC M b w) (hLB : LocB L) (hMB : LocB M) :
    Calls Try.prog 17 #[locV L a, locV M b] w fun e w' => e = .returned (.bool (decide (L = M))) ∧ Below w.heap.size w w' := by
  obtain ⟨w1, hw1⟩ : ∃ w1, w1 = (w.alloc (.cells (boxL L a) 29)).alloc (.cells (boxL M b) 29) := ⟨_, rfl⟩
  have HT := Aside0.mk (show Two L M a b w w1 by rw [hw1]; exact Two.start hL hM)
  have HE := Aside0.mk hw1
  have HLB := Aside0.mk hLB
  have HMB := Aside0.mk hMB
  have e23 := fun w => run_eq23 w L.s0 L.s1 L.s2 L.s3 L.s4 L.s5 L.s6 M.s0 M.s1 M.s2 M.s3 M.s4 M.s5 M.s6
  have e24 := fun w => run_eq24 w L.p0 L.p1 L.p2 L.p3 M.p0 M.p1 M.p2 M.p3
  have e9 := toList_eq_iff L.tag M.tag
  obtain ⟨hx0, hx1, hx2, hx3, hx4, hx5, hx6, hx7, hx8, hx9, hx10, hx11, hx12, hx13, hx14⟩ := boxCells HT.out.2.2.1
  obtain ⟨hy0, hy1, hy2, hy3, hy4, hy5, hy6, hy7, hy8, hy9, hy10, hy11, hy12, hy13, hy14⟩ := boxCells HT.out.2.2.2.1
  clear hL hM hw1 hLB hMB
  by_cases h0 : L.tag = M.tag
  case neg =>
    have HN := Aside0.mk (show decide (L = M) = false from decide_eq_false (fun h => h0 (by rw [h])))
    rw [decide_eq_false h0] at e9
    clear h0 e23 e24
    go_enter Try.func17, Try.ntmps17
    go_wp2_with fail
    rw [← HE.out]
    go_ret
    exact ⟨by rw [HN.out]; rfl, HT.out.2.2.2.2⟩
  rw [decide_eq_true h0] at e9
  have H0 := Aside0.mk h0
  clear h0
  by_cases h1 : [L.s0, L.s1, L.s2, L.s3, L.s4, L.s5, L.s6] = [M.s0, M.s1, M.s2, M.s3, M.s4, M.s5, M.s6]
  case neg =>
    have HN := Aside0.mk (show decide (L = M) = false from decide_eq_false (fun h => h1 (by rw [h])))
    simp only [decide_eq_false h1] at e23
    clear h1 e24
    go_enter Try.func17, Try.ntmps17
    go_wp2_with fail
    rw [← HE.out]
    go_ret
    exact ⟨by rw [HN.out]; rfl, HT.out.2.2.2.2⟩
  simp only [decide_eq_true h1] at e23
  have H1 := Aside0.mk h1
  clear h1
  by_cases h2 : [L.p0, L.p1, L.p2, L.p3] = [M.p0, M.p1, M.p2, M.p3]
  case neg =>
    have HN := Aside0.mk (show decide (L = M) = false from decide_eq_false (fun h => h2 (by rw [h])))
    simp only [decide_eq_false h2] at e24
    clear h2
    go_enter Try.func17, Try.ntmps17
    go_wp2_with fail
    rw [← HE.out]
    go_ret
    exact ⟨by rw [HN.out]; rfl, HT.out.2.2.2.2⟩
  simp only [decide_eq_true h2] at e24
  have H2 := Aside0.mk h2
  clear h2
  by_cases h3 : L.rules.length = M.rules.length
  case neg =>
    have HN := Aside0.mk (show decide (L = M) = false from decide_eq_false (fun h => h3 (by rw [h])))
    have n1 : ((L.rules.length : Int) == (M.rules.length : Int)) = false := beq_eq_false_iff_ne.2 (fun h => h3 (Int.ofNat.inj h))
    have n2 : ((L.rules.length : Int) != (M.rules.length : Int)) = true := bne_iff_ne.2 (fun h => h3 (Int.ofNat.inj h))
    clear h3
    go_enter Try.func17, Try.ntmps17
    go_wp2_with fail
    rw [← HE.out]
    go_ret
    exact ⟨by rw [HN.out]; rfl, HT.out.2.2.2.2⟩
  have m3 : ((L.rules.length : Int) == (M.rules.length : Int)) = true := by rw [h3]; exact beq_self_eq_true _
  have l3 : ((L.rules.length : Int) != (M.rules.length : Int)) = false := by rw [h3]; exact bne_self_eq_false _
  have H3 := Aside0.mk h3
  clear h3
  by_cases h4 : L.curs.length = M.curs.length
  case neg =>
    have HN := Aside0.mk (show decide (L = M) = false from decide_eq_false (fun h => h4 (by rw [h])))
    have n1 : ((L.curs.length : Int) == (M.curs.length : Int)) = false := beq_eq_false_iff_ne.2 (fun h => h4 (Int.ofNat.inj h))
    have n2 : ((L.curs.length : Int) != (M.curs.length : Int)) = true := bne_iff_ne.2 (fun h => h4 (Int.ofNat.inj h))
    clear h4
    go_enter Try.func17, Try.ntmps17
    go_wp2_with fail
    rw [← HE.out]
    go_ret
    exact ⟨by rw [HN.out]; rfl, HT.out.2.2.2.2⟩
  have m4 : ((L.curs.length : Int) == (M.curs.length : Int)) = true := by rw [h4]; exact beq_self_eq_true _
  have l4 : ((L.curs.length : Int) != (M.curs.length : Int)) = false := by rw [h4]; exact bne_self_eq_false _
  have H4 := Aside0.mk h4
  clear h4
  by_cases h5 : L.comps.length = M.comps.length
  case neg =>
    have HN := Aside0.mk (show decide (L = M) = false from decide_eq_false (fun h => h5 (by rw [h])))
    have n1 : ((L.comps.length : Int) == (M.comps.length : Int)) = false := beq_eq_false_iff_ne.2 (fun h => h5 (Int.ofNat.inj h))
    have n2 : ((L.comps.length : Int) != (M.comps.length : Int)) = true := bne_iff_ne.2 (fun h => h5 (Int.ofNat.inj h))
    clear h5
    go_enter Try.func17, Try.ntmps17
    go_wp2_with fail
    rw [← HE.out]
    go_ret
    exact ⟨by rw [HN.out]; rfl, HT.out.2.2.2.2⟩
  have m5 : ((L.comps.length : Int) == (M.comps.length : Int)) = true := by rw [h5]; exact beq_self_eq_true _
  have l5 : ((L.comps.length : Int) != (M.comps.length : Int)) = false := by rw [h5]; exact bne_self_eq_false _
  have H5 := Aside0.mk h5
  clear h5
  obtain ⟨A3, c3, A4, c4, A5, c5⟩ := a
  obtain ⟨B3, d3, B4, d4, B5, d5⟩ := b
  clear hx0 hx1 hx2 hx3 hx4 hx5 hx6 hx7 hx8 hx9 hx10 hx11 hx12 hx13 hx14 hy0 hy1 hy2 hy3 hy4 hy5 hy6 hy7 hy8 hy9 hy10 hy11 hy12 hy13 hy14
  go_enter Try.func17, Try.ntmps17
  go_wp2_with fail
  rw [← HE.out]
  clear e9 e23 e24 m3 l3 m4 l4 m5 l5
  go_loopg [5] (L.rules.length) (fun kq v5 w' => ∃ j : Nat, v5 = .int .i64 (j : Int) ∧ Aside0 (j ≤ L.rules.length) ∧ Aside0 (L.rules.length - j = kq) ∧ Aside0 (Two L M ⟨A3, c3, A4, c4, A5, c5⟩ ⟨B3, d3, B4, d4, B5, d5⟩ w w') ∧ Aside0 (L.rules.take j = M.rules.take j))
  case atStart => exact ⟨0, rfl, ⟨Nat.zero_le _⟩, ⟨rfl⟩, HT, ⟨rfl⟩⟩
  case round =>
    obtain ⟨j, rfl, HJ, HKQ, HT, HQ⟩ := hrel
    have hc1 : wr.cell? ⟨w.heap.size, 12, none⟩ = some (.slice A3 L.rules.length c3) := (blk_cell HT.out.2.2.1 12).trans rfl
    have hc2 : wr.cell? ⟨w.heap.size + 1, 12, none⟩ = some (.slice B3 M.rules.length d3) := (blk_cell HT.out.2.2.2.1 12).trans rfl
    by_cases hlt : j < L.rules.length
    · have hlt2 : (j : Int) < (L.rules.length : Int) := by omega
      have hlm : j < M.rules.length := by have := H3.out; omega
      have hlm2 : (j : Int) < (M.rules.length : Int) := by omega
      obtain ⟨x, hx⟩ : ∃ x, L.rules[j]? = some x := ⟨_, List.getElem?_eq_getElem hlt⟩
      obtain ⟨y, hy⟩ : ∃ y, M.rules[j]? = some y := ⟨_, List.getElem?_eq_getElem hlm⟩
      obtain ⟨ad, hA, hp1, hp2⟩ := at_rule HT.out.1.1.1 j hlt x hx
      obtain ⟨bd, hB, hq1, hq2⟩ := at_rule HT.out.2.1.1.1 j hlm y hy
      simp only at hA hB
      subst hA hB
      have eq := fun w => run_eq58 w x y
      have HLT := Aside0.mk hlt
      by_cases hxy : x = y
      case neg =>
        have HN := Aside0.mk (show decide (L = M) = false from decide_eq_false (fun h => hxy (Option.some.inj (by rw [← hx, ← hy, h]))))
        simp only [decide_eq_false hxy] at eq
        clear hlt hlm hx hy hxy
        go_wp2_with fail
        go_region_law fail
        all_goals
          go_wp2_with fail
          go_ret
          exact ⟨by rw [HN.out]; rfl, HT.out.drew.2.2.2.2⟩
      case pos =>
        have HS := Aside0.mk (show L.rules.take (j + 1) = M.rules.take (j + 1) by
          rw [List.take_add_one, List.take_add_one, HQ.out, hx, hy, hxy])
        have HB := Aside0.mk HLB.out
        simp only [decide_eq_true hxy] at eq
        clear hlt hlm hx hy hxy
        go_wp2_with fail
        go_region_law fail
        all_goals
          go_wp2
          go_roundg (L.rules.length - (j + 1))
          case measure => have := HLT.out; have := HKQ.out; omega
          case rel => exact ⟨j + 1, by have h1 := HLT.out; have h2 := HB.out.1; have h3 := HB.out.2.1; have h4 := HB.out.2.2; first | rfl | (congr 1; unfold wrap64; omega), ⟨HLT.out⟩, ⟨rfl⟩, ⟨HT.out.drew⟩, HS⟩
    · have hj : j = L.rules.length := by have := HJ.out; omega
      subst hj
      have H3E := Aside0.mk (show L.rules = M.rules by
        have := HQ.out
        rw [List.take_length] at this
        rw [this]
        exact List.take_of_length_le (by rw [H3.out]; exact Nat.le_refl _))
      clear hlt HQ HKQ HJ
      go_wp2_with fail
      go_loopg [6] (L.curs.length) (fun kq v5 w' => ∃ j : Nat, v5 = .int .i64 (j : Int) ∧ Aside0 (j ≤ L.curs.length) ∧ Aside0 (L.curs.length - j = kq) ∧ Aside0 (Two L M ⟨A3, c3, A4, c4, A5, c5⟩ ⟨B3, d3, B4, d4, B5, d5⟩ w w') ∧ Aside0 (L.curs.take j = M.curs.take j))
      case atStart => exact ⟨0, rfl, ⟨Nat.zero_le _⟩, ⟨rfl⟩, HT, ⟨rfl⟩⟩
      case round =>
        obtain ⟨j, rfl, HJ, HKQ, HT, HQ⟩ := hrel
        have hc1 : wr.cell? ⟨w.heap.size, 13, none⟩ = some (.slice A4 L.curs.length c4) := (blk_cell HT.out.2.2.1 13).trans rfl
        have hc2 : wr.cell? ⟨w.heap.size + 1, 13, none⟩ = some (.slice B4 M.curs.length d4) := (blk_cell HT.out.2.2.2.1 13).trans rfl
        by_cases hlt : j < L.curs.length
        · have hlt2 : (j : Int) < (L.curs.length : Int) := by omega
          have hlm : j < M.curs.length := by have := H4.out; omega
          have hlm2 : (j : Int) < (M.curs.length : Int) := by omega
          obtain ⟨x, hx⟩ : ∃ x, L.curs[j]? = some x := ⟨_, List.getElem?_eq_getElem hlt⟩
          obtain ⟨y, hy⟩ : ∃ y, M.curs[j]? = some y := ⟨_, List.getElem?_eq_getElem hlm⟩
          obtain ⟨ad, hA, hp1, hp2, hp3⟩ := at_cur HT.out.1.2.1.1 j hlt x hx
          obtain ⟨bd, hB, hq1, hq2, hq3⟩ := at_cur HT.out.2.1.2.1.1 j hlm y hy
          simp only at hA hB
          subst hA hB
          have eq := fun w => run_eq60 w x y
          have HLT := Aside0.mk hlt
          by_cases hxy : x = y
          case neg =>
            have HN := Aside0.mk (show decide (L = M) = false from decide_eq_false (fun h => hxy (Option.some.inj (by rw [← hx, ← hy, h]))))
            simp only [decide_eq_false hxy] at eq
            clear hlt hlm hx hy hxy
            go_wp2_with fail
            go_region_law fail
            all_goals
              go_wp2_with fail
              go_ret
              exact ⟨by rw [HN.out]; rfl, HT.out.drew.2.2.2.2⟩
          case pos =>
            have HS := Aside0.mk (show L.curs.take (j + 1) = M.curs.take (j + 1) by
              rw [List.take_add_one, List.take_add_one, HQ.out, hx, hy, hxy])
            have HB := Aside0.mk HLB.out
            simp only [decide_eq_true hxy] at eq
            clear hlt hlm hx hy hxy
            go_wp2_with fail
            go_region_law fail
            all_goals
              go_wp2
              go_roundg (L.curs.length - (j + 1))
              case measure => have := HLT.out; have := HKQ.out; omega
              case rel => exact ⟨j + 1, by have h1 := HLT.out; have h2 := HB.out.1; have h3 := HB.out.2.1; have h4 := HB.out.2.2; first | rfl | (congr 1; unfold wrap64; omega), ⟨HLT.out⟩, ⟨rfl⟩, ⟨HT.out.drew⟩, HS⟩
        · have hj : j = L.curs.length := by have := HJ.out; omega
          subst hj
          have H4E := Aside0.mk (show L.curs = M.curs by
            have := HQ.out
            rw [List.take_length] at this
            rw [this]
            exact List.take_of_length_le (by rw [H4.out]; exact Nat.le_refl _))
          clear hlt HQ HKQ HJ
          go_wp2_with fail
          go_loopg [7] (L.comps.length) (fun kq v5 w' => ∃ j : Nat, v5 = .int .i64 (j : Int) ∧ Aside0 (j ≤ L.comps.length) ∧ Aside0 (L.comps.length - j = kq) ∧ Aside0 (Two L M ⟨A3, c3, A4, c4, A5, c5⟩ ⟨B3, d3, B4, d4, B5, d5⟩ w w') ∧ Aside0 (L.comps.take j = M.comps.take j))
          case atStart => exact ⟨0, rfl, ⟨Nat.zero_le _⟩, ⟨rfl⟩, HT, ⟨rfl⟩⟩
          case round =>
            obtain ⟨j, rfl, HJ, HKQ, HT, HQ⟩ := hrel
            have hc1 : wr.cell? ⟨w.heap.size, 14, none⟩ = some (.slice A5 L.comps.length c5) := (blk_cell HT.out.2.2.1 14).trans rfl
            have hc2 : wr.cell? ⟨w.heap.size + 1, 14, none⟩ = some (.slice B5 M.comps.length d5) := (blk_cell HT.out.2.2.2.1 14).trans rfl
            by_cases hlt : j < L.comps.length
            · have hlt2 : (j : Int) < (L.comps.length : Int) := by omega
              have hlm : j < M.comps.length := by have := H5.out; omega
              have hlm2 : (j : Int) < (M.comps.length : Int) := by omega
              obtain ⟨x, hx⟩ : ∃ x, L.comps[j]? = some x := ⟨_, List.getElem?_eq_getElem hlt⟩
              obtain ⟨y, hy⟩ : ∃ y, M.comps[j]? = some y := ⟨_, List.getElem?_eq_getElem hlm⟩
              obtain ⟨ad, hA, hp1, hp2, hp3⟩ := at_comp HT.out.1.2.2.1.1 j hlt x hx
              obtain ⟨bd, hB, hq1, hq2, hq3⟩ := at_comp HT.out.2.1.2.2.1.1 j hlm y hy
              simp only at hA hB
              subst hA hB
              have eq := fun w => run_eq62 w x y
              have HLT := Aside0.mk hlt
              by_cases hxy : x = y
              case neg =>
                have HN := Aside0.mk (show decide (L = M) = false from decide_eq_false (fun h => hxy (Option.some.inj (by rw [← hx, ← hy, h]))))
                simp only [decide_eq_false hxy] at eq
                clear hlt hlm hx hy hxy
                go_wp2_with fail
                go_region_law fail
                all_goals
                  go_wp2_with fail
                  go_ret
                  exact ⟨by rw [HN.out]; rfl, HT.out.drew.2.2.2.2⟩
              case pos =>
                have HS := Aside0.mk (show L.comps.take (j + 1) = M.comps.take (j + 1) by
                  rw [List.take_add_one, List.take_add_one, HQ.out, hx, hy, hxy])
                have HB := Aside0.mk HLB.out
                simp only [decide_eq_true hxy] at eq
                clear hlt hlm hx hy hxy
                go_wp2_with fail
                go_region_law fail
                all_goals
                  go_wp2
                  go_roundg (L.comps.length - (j + 1))
                  case measure => have := HLT.out; have := HKQ.out; omega
                  case rel => exact ⟨j + 1, by have h1 := HLT.out; have h2 := HB.out.1; have h3 := HB.out.2.1; have h4 := HB.out.2.2; first | rfl | (congr 1; unfold wrap64; omega), ⟨HLT.out⟩, ⟨rfl⟩, ⟨HT.out.drew⟩, HS⟩
            · have hj : j = L.comps.length := by have := HJ.out; omega
              subst hj
              have H5E := Aside0.mk (show L.comps = M.comps by
                have := HQ.out
                rw [List.take_length] at this
                rw [this]
                exact List.take_of_length_le (by rw [H5.out]; exact Nat.le_refl _))
              clear hlt HQ HKQ HJ
              go_wp2_with fail
              go_ret
              have hLM : L = M := by
                have h1 := H1.out
                have h2 := H2.out
                simp only [List.cons.injEq, and_true] at h1 h2
                have h0 := H0.out
                have h3 := H3E.out
                have h4 := H4E.out
                have h5 := H5E.out
                clear HT H0 H1 H2 H3 H4 H5 H3E H4E H5E HLB HMB
                cases L
                cases M
                dsimp only at h0 h1 h2 h3 h4 h5
                obtain ⟨g0, g1, g2, g3, g4, g5, g6⟩ := h1
                obtain ⟨i0, i1, i2, i3⟩ := h2
                subst h0 g0 g1 g2 g3 g4 g5 g6 i0 i1 i2 i3 h3 h4 h5
                rfl
              exact ⟨by rw [decide_eq_true hLM]; rfl, HT.out.2.2.2.2⟩
end Go.Proofs.Ytmhpcjncngonbaa.Q
