/- Functions of the translation as plain Lean functions, each with a proof that the Go code comes to its answers, wherever the function has one; no other condition. Written by this session's own program (wip/myprint.py). -/
import Derived.Test.YthejhhklphjhmaaQx0
import Derived.Test.YthejhhklphjhmaaQx11
namespace Go.Proofs.Ythejhhklphjhmaa.Q
open Go.RowKit Go.Proofs.Ythejhhklphjhmaa.Mine Go.Proofs.YthejhhklphjhmaaW.PrintWords Go.Proofs.YthejhhklphjhmaaW.PrintLast Go.Proofs.YthejhhklphjhmaaW.PrintMore
attribute [local go_sem] max2_int min2_int max_two min_two max_three min_three max_four min_four   -- for this text's walks alone
set_option linter.unusedVariables false
set_option linter.unusedSimpArgs false

/-! ### exergueref08_Put: function 21 -/
def exergueref08_Put.f (k : Nat) (l0 : List Int) : Option (List Int) := (exergueref08_Of.f k l0).bind fun t122 => ((some (([] : List Int) : List Int)).bind fun y123 => (if y123.length + l0.length < 140737488355328 then ((some (y123 ++ l0 : List Int)).bind fun y126 => ((some (([(Int.tmod t122 256) % 256, ((Int.tdiv t122 256) % 4294967296) % 256, ((Int.tdiv t122 65536) % 4294967296) % 256, ((Int.tdiv t122 16777216) % 4294967296) % 256] : List Int) : List Int)).bind fun y129 => (if y126.length + y129.length < 140737488355328 then (some (y126 ++ y129)) else (none)))) else (none)))
theorem exergueref08_Put.mono : ∀ a0 k, LeO (exergueref08_Put.f k a0) (exergueref08_Put.f (k + 1) a0) := by
  intro a0 k
  unfold exergueref08_Put.f
  repeat' first
      | (with_reducible exact exergueref08_Of.mono _ _)
      | (with_reducible exact LeO.refl _)
      | (with_reducible exact LeO.none _)
      | (with_reducible refine LeO.ite ?_ ?_)
      | (with_reducible refine LeO.bind ?_ (fun _ => ?_))
      | exact exergueref08_Of.mono _ _
      | exact LeO.none _
      | refine LeO.ite ?_ ?_
      | refine LeO.bind ?_ (fun _ => ?_)
set_option maxHeartbeats 8000000 in
set_option maxRecDepth 100000 in
theorem exergueref08_Put.calls (k : Nat) (A0 : Option Addr) (c0 : Nat) (l0 : List Int) (r : List Int) (w : World) (hr0 : Kd.C (Kd.int .u8) w A0 l0.length l0) (hc0 : l0.length ≤ c0) (h : exergueref08_Put.f k l0 = some r) :
    Calls Try.prog 21 #[.slice A0 l0.length c0] w fun e w' => ∃ v0_ : Value, e = .returned (v0_) ∧ Kd.R (Kd.int .u8) 5 w' w.heap.size (fun _ => True) v0_ r ∧ Below w.heap.size w w' := by
  have HR0 := Aside0.mk hr0
  have HC0 := Aside0.mk hc0
  clear hr0 hc0
  have HB := Aside0.mk (Below.refl w.heap.size w)
  have H : ((exergueref08_Of.f k l0).bind fun t122 => ((some (([] : List Int) : List Int)).bind fun y123 => (if y123.length + l0.length < 140737488355328 then ((some (y123 ++ l0 : List Int)).bind fun y126 => ((some (([(Int.tmod t122 256) % 256, ((Int.tdiv t122 256) % 4294967296) % 256, ((Int.tdiv t122 65536) % 4294967296) % 256, ((Int.tdiv t122 16777216) % 4294967296) % 256] : List Int) : List Int)).bind fun y129 => (if y126.length + y129.length < 140737488355328 then (some (y126 ++ y129)) else (none)))) else (none)))) = some r := h
  clear h
  replace H := Option.bind_eq_some_iff.mp H
  obtain ⟨t122, A20, H⟩ := H
  replace H : ((some (([] : List Int) : List Int)).bind fun y123 => (if y123.length + l0.length < 140737488355328 then ((some (y123 ++ l0 : List Int)).bind fun y126 => ((some (([(Int.tmod t122 256) % 256, ((Int.tdiv t122 256) % 4294967296) % 256, ((Int.tdiv t122 65536) % 4294967296) % 256, ((Int.tdiv t122 16777216) % 4294967296) % 256] : List Int) : List Int)).bind fun y129 => (if y126.length + y129.length < 140737488355328 then (some (y126 ++ y129)) else (none)))) else (none))) = some r := H
  have A2 := Aside0.mk A20
  clear A20
  obtain ⟨y123, hy123⟩ : ∃ y_ : List Int, y_ = (([] : List Int)) := ⟨_, rfl⟩
  replace H : (if y123.length + l0.length < 140737488355328 then ((some (y123 ++ l0 : List Int)).bind fun y126 => ((some (([(Int.tmod t122 256) % 256, ((Int.tdiv t122 256) % 4294967296) % 256, ((Int.tdiv t122 65536) % 4294967296) % 256, ((Int.tdiv t122 16777216) % 4294967296) % 256] : List Int) : List Int)).bind fun y129 => (if y126.length + y129.length < 140737488355328 then (some (y126 ++ y129)) else (none)))) else (none)) = some r := by first | (rw [hy123]; with_reducible exact H) | (have H2_ := (Option.bind_some _ _).symm.trans H; rw [hy123]; with_reducible exact H2_) | (have H2_ := (Option.bind_some _ _).symm.trans H; with_reducible exact H2_) | with_reducible exact H | (rw [hy123]; exact H) | exact H
  have Ny123 := Aside0.mk hy123
  clear hy123
  by_cases c3 : y123.length + l0.length < 140737488355328
  · rw [if_pos c3] at H
    have LMc3 := Aside0.mk c3
    clear c3
    obtain ⟨y126, hy126⟩ : ∃ y_ : List Int, y_ = (y123 ++ l0) := ⟨_, rfl⟩
    replace H : ((some (([(Int.tmod t122 256) % 256, ((Int.tdiv t122 256) % 4294967296) % 256, ((Int.tdiv t122 65536) % 4294967296) % 256, ((Int.tdiv t122 16777216) % 4294967296) % 256] : List Int) : List Int)).bind fun y129 => (if y126.length + y129.length < 140737488355328 then (some (y126 ++ y129)) else (none))) = some r := by first | (rw [hy126]; with_reducible exact H) | (have H2_ := (Option.bind_some _ _).symm.trans H; rw [hy126]; with_reducible exact H2_) | (have H2_ := (Option.bind_some _ _).symm.trans H; with_reducible exact H2_) | with_reducible exact H | (rw [hy126]; exact H) | exact H
    have Ny126 := Aside0.mk hy126
    clear hy126
    obtain ⟨y129, hy129⟩ : ∃ y_ : List Int, y_ = (([(Int.tmod t122 256) % 256, ((Int.tdiv t122 256) % 4294967296) % 256, ((Int.tdiv t122 65536) % 4294967296) % 256, ((Int.tdiv t122 16777216) % 4294967296) % 256] : List Int)) := ⟨_, rfl⟩
    replace H : (if y126.length + y129.length < 140737488355328 then (some (y126 ++ y129)) else (none)) = some r := by first | (rw [hy129]; with_reducible exact H) | (have H2_ := (Option.bind_some _ _).symm.trans H; rw [hy129]; with_reducible exact H2_) | (have H2_ := (Option.bind_some _ _).symm.trans H; with_reducible exact H2_) | with_reducible exact H | (rw [hy129]; exact H) | exact H
    have Ny129 := Aside0.mk hy129
    clear hy129
    by_cases c4 : y126.length + y129.length < 140737488355328
    · rw [if_pos c4] at H
      have LMc4 := Aside0.mk c4
      clear c4
      obtain ⟨y132, hy132⟩ : ∃ y_ : List Int, y_ = (y126 ++ y129) := ⟨_, rfl⟩
      replace H : (some y132) = some r := by first | (rw [hy132]; with_reducible exact H) | (have H2_ := (Option.bind_some _ _).symm.trans H; rw [hy132]; with_reducible exact H2_) | (have H2_ := (Option.bind_some _ _).symm.trans H; with_reducible exact H2_) | with_reducible exact H | (rw [hy132]; exact H) | exact H
      have Ny132 := Aside0.mk hy132
      clear hy132
      obtain rfl := Option.some.inj H
      go_enter Try.func21, Try.ntmps21
      go_wp2_with (first | ((with_reducible refine gate_callee (f := 18) rfl ?_); refine goesL_ (some 6) rfl rfl Try.func18 (by kernel_rfl) rfl #[.slice A0 l0.length c0] rfl (by (try simp only [List.map_toArray, List.map_cons, List.map_nil]); first | done | rfl | (simp only [List.length_drop, List.length_take]; rfl)) ?_; (with_reducible refine (exergueref08_Of.calls k _ _ l0 t122 _ ?side1 ?side2 A2.out).mono ?_); (case side1 => repeat (first | exact HR0.out | (with_reducible refine Kd.C_alloc ?_ _) | (with_reducible refine Kd.C_drewN ?_ _) | (with_reducible refine Kd.C_drew ?_))); (case side2 => exact HC0.out); rintro e w' ⟨rfl, ⟨nd, rfl⟩⟩; refine ⟨_, rfl, ?_⟩) | ((with_reducible refine gate_dst (N := 7) rfl ?_); refine Kd.R_lit (Kd.int .u8) _ 5 ?hg (N := 7) ?hd (xs := ([] : List Int)) (inner := []) (ok := fun _ => True) (okp := fun _ => True) ?hr ?hp (fun _ hk => hk) trivial (Below.refl _ _) (Nat.le_refl _) (by simp) ?_; (case hd => rfl); (case hg => rfl); (case hr => first | (go_simp; done) | (go_simp; rfl)); (case hp => exact (Reps.none _ _)); intro v124 w5 ho6 hb hg_ hnew_; clear hg_ hnew_; (first | rw [← Ny123.out] at ho6 | (simp only [Int.reduceToNat] at ho6; rw [← Ny123.out] at ho6)); have n0_ := Aside0.mk (Kd.R_lower ho6 (below_size (by repeat (first | (with_reducible first | exact HB.out | apply below_alloc | apply pw_below_drewN | apply below_drew1) | exact HB.out)))); have n1_ := Aside0.mk (below_step (by repeat (first | (with_reducible first | exact HB.out | apply below_alloc | apply pw_below_drewN | apply below_drew1) | exact HB.out)) hb); clear HB; have HO125 := n0_; have HB := n1_; clear n0_ n1_; clear hb ho6) | ((with_reducible refine gate_builtin (b := .append) (xs := #[.tmp 7, .tmp 8]) rfl ?_); at_builtin; refine Kd.R_append_rows (Kd.int .u8) (w0 := w) w.heap.size rfl (.tmp 7) (.tmp 8) 23 5 (.int .u8 0) 1 rfl Try.underlying23 info5 rfl (by decide) (by omega) v124 y123 l0 _ _ _ (fun _ => True) (fun _ => False) rfl rfl ?aO ?aR (fun _ _ h => h) (fun _ h => h.elim) ?aF ?aB ?aS ?aL ?_; (case aR => repeat (first | exact (Kd.C_below HR0.out HB.out) | (with_reducible refine Kd.C_alloc ?_ _) | (with_reducible refine Kd.C_drewN ?_ _) | (with_reducible refine Kd.C_drew ?_))); (case aB => exact (by repeat (first | (with_reducible first | exact HB.out | apply below_alloc | apply pw_below_drewN | apply below_drew1) | exact HB.out))); (case aF => exact (fun _ _ => trivial)); (case aO => exact (by (with_reducible repeat (first | apply Kd.R_alloc | apply Kd.R_drewN | apply Kd.R_drew)); exact HO125.out)); (case aS => exact (below_size (by repeat (first | (with_reducible first | exact HB.out | apply below_alloc | apply pw_below_drewN | apply below_drew1) | exact HB.out)))); (case aL => have := LMc3.out; omega); intro v127 w7 ho hb hg hat; rw [← Ny126.out] at ho; have n0_ := Aside0.mk (hb); have n1_ := Aside0.mk (ho); clear HB; clear HO125; have HB := n0_; have HO128 := n1_; clear n0_ n1_; clear ho hb hg hat) | ((with_reducible refine gate_dst (N := 25) rfl ?_); refine Kd.R_lit (Kd.int .u8) _ 5 ?hg (N := 25) ?hd (xs := ([(Int.tmod t122 256) % 256, ((Int.tdiv t122 256) % 4294967296) % 256, ((Int.tdiv t122 65536) % 4294967296) % 256, ((Int.tdiv t122 16777216) % 4294967296) % 256] : List Int)) (inner := [.int .u8 ((Int.tmod t122 256) % 256), .int .u8 (((Int.tdiv t122 256) % 4294967296) % 256), .int .u8 (((Int.tdiv t122 65536) % 4294967296) % 256), .int .u8 (((Int.tdiv t122 16777216) % 4294967296) % 256)]) (ok := fun _ => True) (okp := fun _ => True) ?hr ?hp (fun _ hk => hk) trivial (Below.refl _ _) (Nat.le_refl _) (by simp) ?_; (case hd => rfl); (case hg => rfl); (case hr => first | (go_simp; done) | (go_simp; rfl)); (case hp => exact (Reps.one (show Kd.M (Kd.int .u8) _ _ _ ((Int.tmod t122 256) % 256) [.int .u8 ((Int.tmod t122 256) % 256)] from rfl) (Reps.one (show Kd.M (Kd.int .u8) _ _ _ (((Int.tdiv t122 256) % 4294967296) % 256) [.int .u8 (((Int.tdiv t122 256) % 4294967296) % 256)] from rfl) (Reps.one (show Kd.M (Kd.int .u8) _ _ _ (((Int.tdiv t122 65536) % 4294967296) % 256) [.int .u8 (((Int.tdiv t122 65536) % 4294967296) % 256)] from rfl) (Reps.one (show Kd.M (Kd.int .u8) _ _ _ (((Int.tdiv t122 16777216) % 4294967296) % 256) [.int .u8 (((Int.tdiv t122 16777216) % 4294967296) % 256)] from rfl) (Reps.none _ _)))))); intro v130 w8 ho9 hb hg_ hnew_; clear hg_ hnew_; (first | rw [← Ny129.out] at ho9 | (simp only [Int.reduceToNat] at ho9; rw [← Ny129.out] at ho9)); have n0_ := Aside0.mk (Kd.R_elder' (by (with_reducible repeat (first | apply Kd.R_alloc | apply Kd.R_drewN | apply Kd.R_drew)); exact HO128.out) (Kd.R_base ho9) hb); have n1_ := Aside0.mk (Kd.R_lower (Kd.R_new' ho9 (Kd.R_lt (by (with_reducible repeat (first | apply Kd.R_alloc | apply Kd.R_drewN | apply Kd.R_drew)); exact HO128.out))) (below_size (by repeat (first | (with_reducible first | exact HB.out | apply below_alloc | apply pw_below_drewN | apply below_drew1) | exact HB.out)))); have n2_ := Aside0.mk (below_step (by repeat (first | (with_reducible first | exact HB.out | apply below_alloc | apply pw_below_drewN | apply below_drew1) | exact HB.out)) hb); clear HO128; clear HB; have HO128 := n0_; have HO131 := n1_; have HB := n2_; clear n0_ n1_ n2_; clear hb ho9; obtain ⟨Ao11, co11, eo11⟩ := Kd.R_slice HO131.out; subst eo11) | ((with_reducible refine gate_builtin (b := .append) (xs := #[.tmp 10, .tmp 25]) rfl ?_); at_builtin; refine Kd.R_append_rows (Kd.int .u8) (w0 := w) w.heap.size rfl (.tmp 10) (.tmp 25) 23 5 (.int .u8 0) 1 rfl Try.underlying23 info5 rfl (by decide) (by omega) v127 y126 y129 _ _ _ (fun k_ => some k_ ≠ (.slice Ao11 y129.length co11 : Value).ownBlock) (fun _ => False) rfl rfl ?aO ?aR (fun _ _ h => h) (fun _ h => h.elim) ?aF ?aB ?aS ?aL ?_; (case aR => repeat (first | exact (Kd.R_reads' HO131.out).2.2 | (with_reducible refine Kd.C_alloc ?_ _) | (with_reducible refine Kd.C_drewN ?_ _) | (with_reducible refine Kd.C_drew ?_))); (case aB => exact (by repeat (first | (with_reducible first | exact HB.out | apply below_alloc | apply pw_below_drewN | apply below_drew1) | exact HB.out))); (case aF => exact (fun k_ hk => Kd.fresh' (Kd.R_lt (by (with_reducible repeat (first | apply Kd.R_alloc | apply Kd.R_drewN | apply Kd.R_drew)); exact HO131.out)) k_ hk)); (case aO => exact (by (with_reducible repeat (first | apply Kd.R_alloc | apply Kd.R_drewN | apply Kd.R_drew)); exact Kd.R_mono HO128.out (fun _ hk => hk.2))); (case aS => exact (below_size (by repeat (first | (with_reducible first | exact HB.out | apply below_alloc | apply pw_below_drewN | apply below_drew1) | exact HB.out)))); (case aL => have := LMc4.out; omega); intro v133 w10 ho hb hg hat; rw [← Ny132.out] at ho; have n0_ := Aside0.mk (Kd.R_after (ok := (fun _ => True)) (by (with_reducible repeat (first | apply Kd.R_alloc | apply Kd.R_drewN | apply Kd.R_drew)); exact HO131.out) hg hat); have n1_ := Aside0.mk (hb); have n2_ := Aside0.mk (ho); clear HO131; clear HB; clear HO128; have HO131 := n0_; have HB := n1_; have HO134 := n2_; clear n0_ n1_ n2_; clear ho hb hg hat))
      go_ret
      exact ⟨_, by first | rfl | (simp [errW_none, errW_some] <;> rfl) | (simp [*, errW_none, errW_some] <;> rfl), by (with_reducible repeat (first | apply Kd.R_alloc | apply Kd.R_drewN | apply Kd.R_drew)); exact Kd.R_mono HO134.out (fun _ hk => trivial), by repeat (first | (with_reducible first | exact HB.out | apply below_alloc | apply pw_below_drewN | apply below_drew1) | exact HB.out)⟩
    · rw [if_neg c4] at H
      exact absurd H (by simp)
  · rw [if_neg c3] at H
    exact absurd H (by simp)

end Go.Proofs.Ythejhhklphjhmaa.Q
