/- The law PackNumbers returns true for every input, and each argument reads afterwards as it read before; no condition. (Written by wip/myprint.py.) -/
import Derived.Test.YtmgkfklkdedpgaaRows
import Derived.Test.YtmgkfklkdedpgaaLPackNumbers
import Derived.Test.YtmgkfklkdedpgaaQPurePackNumbers
import Derived.Test.YtmgkfklkdedpgaaOpen
import Derived.WalkKit
import Derived.ProofKit
import Derived.OpenShut
import Derived.ShutString
import Derived.ChangeOld
import Derived.Below
import Derived.SizedLaws
namespace Go.Proofs.Ytmgkfklkdedpgaa.packNumbers
open Go.ChangeShapes Go.WideShapes Go.ChangeAt Go.RowKit Go.Proofs.YtmgkfklkdedpgaaW.PrintWords
open Go.ChangeMaps (open_string shut_string)
set_option linter.unusedVariables false
set_option linter.unusedSimpArgs false
theorem own : ownKnob Try.prog.godebug = none := by kernel_rfl
theorem laidOut : laidOutB Try.prog = true := by kernel_rfl
theorem arr4 (cs : Array Value) (h : cs.size = 4) : ∃ x0 x1 x2 x3, cs = #[x0, x1, x2, x3] := by
  rcases cs with ⟨l_⟩
  match l_, h with
  | [x0, x1, x2, x3], _ => exact ⟨_, _, _, _, rfl⟩
set_option maxRecDepth 100000 in
theorem lifted (os : Os) (started : os.Started) (H : Type) (enc : TypeId × Value → H) :
    ReturnsInHanded {} Try.checked os 3 .any (Rows.packNumbersSpec.pre6 enc Try.prog Try.f3 Rows.packNumbersRow.domain false) (Rows.packNumbersSpec.post enc Try.prog Try.f3 false true false false) := by
  refine returnsInHanded_of_change_sized (C := Try.checked) own started (by kernel_rfl) Try.func3
    (ChangeSpec.witness6 (enc := enc) (C := Try.checked) false ⟨#[], #[.agg #[.slice none 0 0, .int .u32 0, .int .i64 0, .int .i64 0]], []⟩ 8 (by kernel_rfl) (by kernel_rfl) (by kernel_rfl) (by kernel_rfl)) ?_
  intro W base args ds gs before hval0 hW hcnd hsz0 _
  have hsz : (DataW.weightsEach Try.prog (Try.f3.params.toList ++ Rows.packNumbersSpec.plain.varTypes Try.prog) (ds ++ gs)).all (· ≤ reachBytes) = true := hsz0
  have hval : ∀ (j : Nat) t v, Try.f3.params[j]? = some t → args[j]? = some v → Value.okWide Try.prog W .any base t v := hval0
  have hW' := hW
  obtain ⟨p, q, hA0, hV, rfl, hfz, hnd⟩ := hW
  have hA : DataW.TrodAll enc Try.prog W 0 (fun _ => true) true Try.f3.params.toList args.toList ds p := hA0
  rw [Try.params3] at hA hval hsz
  obtain ⟨v0, vs0, d0, ds0, p0, q0, hargs, rfl, rfl, h0, r0⟩ := trodAll_cons hA
  obtain ⟨rfl, rfl, rfl⟩ := trodAll_nil r0
  obtain rfl : args = #[v0] := by cases args; simp_all
  obtain ⟨rfl, rfl⟩ := trodVars_none hV
  have k0 := h0
  have lt0 : ∀ x ∈ p0, x.block < W.heap.size := by obtain ⟨m, hm⟩ := k0; exact DataW.trod_lt m _ _ _ hm
  have light0 : Open.Light Try.prog 25 d0 := Open.Light.of hsz (j := 0) rfl rfl
  obtain ⟨fuel0, hf0⟩ := h0
  obtain ⟨cs0, rfl, hn0⟩ := okWide_struct Try.underlying25 (hval 0 25 v0 rfl rfl)
  rw [show Try.prog.cellsOf 25 = 4 by kernel_rfl] at hn0
  obtain ⟨c0_0, c0_1, c0_2, c0_3, rfl⟩ := arr4 cs0 hn0
  obtain ⟨hl0, fld0⟩ := Open.opens_field Try.underlying25 hf0 light0
  have hcl0 : (Value.agg #[c0_0, c0_1, c0_2, c0_3]).cells.toList = [c0_0, c0_1, c0_2, c0_3] := rfl
  obtain ⟨y0_0, z0_0, q0_0⟩ := fld0 0 _ rfl (Open.opens_slice 5 1 Try.underlying22 (by kernel_rfl) (by kernel_rfl) (Open.opens_int Try.underlying5))
  have g0_0 := (show (Kd.slice 5 (Kd.int .u8)).K W y0_0 (List.take (Try.prog.cellsOf 22) (List.drop 0 _)) from z0_0)
  clear z0_0
  rw [show Try.prog.cellsOf 22 = 1 by kernel_rfl] at g0_0
  obtain ⟨A0_0, C0_0, e0_0, m0_0, g0_0⟩ := g0_0
  obtain rfl := (List.cons.inj (show [c0_0] = [Value.slice A0_0 y0_0.length C0_0] from e0_0)).1
  obtain ⟨y0_1, z0_1, q0_1⟩ := fld0 1 _ rfl (Open.opens_int Try.underlying23)
  have g0_1 := (show (Kd.int .u32).K W y0_1 (List.take (Try.prog.cellsOf 23) (List.drop 1 _)) from z0_1)
  clear z0_1
  rw [show Try.prog.cellsOf 23 = 1 by kernel_rfl] at g0_1
  obtain rfl := (List.cons.inj (show [c0_1] = [Value.int .u32 y0_1] from g0_1)).1
  obtain ⟨y0_2, z0_2, q0_2⟩ := fld0 2 _ rfl (Open.opens_int Try.underlying3)
  have g0_2 := (show (Kd.int .i64).K W y0_2 (List.take (Try.prog.cellsOf 3) (List.drop 2 _)) from z0_2)
  clear z0_2
  rw [show Try.prog.cellsOf 3 = 1 by kernel_rfl] at g0_2
  obtain rfl := (List.cons.inj (show [c0_2] = [Value.int .i64 y0_2] from g0_2)).1
  obtain ⟨y0_3, z0_3, q0_3⟩ := fld0 3 _ rfl (Open.opens_int Try.underlying3)
  have g0_3 := (show (Kd.int .i64).K W y0_3 (List.take (Try.prog.cellsOf 3) (List.drop 3 _)) from z0_3)
  clear z0_3
  rw [show Try.prog.cellsOf 3 = 1 by kernel_rfl] at g0_3
  obtain rfl := (List.cons.inj (show [c0_3] = [Value.int .i64 y0_3] from g0_3)).1
  clear hA0 hval0 hsz0 hsz
  obtain ⟨k_, hk_⟩ := Pure.PackNumbers y0_0 y0_1 y0_2 y0_3 q0_0 q0_1 q0_2 q0_3
  refine (Q.exerguelaw09_PackNumbers.calls k_ A0_0 C0_0 y0_0 y0_1 y0_2 y0_3 true W g0_0 m0_0 hk_).mono fun e W' ⟨he, bel0⟩ => ?_
  have bel : Below W.heap.size W W' := bel0
  subst he
  exact ⟨_, rfl, _, _, _, [], _, [], hW', trodAll_mk1 (shut_bool Try.underlying4 _), (trodAll_cons_mk (Below.trod laidOut (by kernel_rfl) (of_decide_eq_true (by kernel_rfl)) k0 bel lt0) trodAll_mk0), rfl, bel.frame _, fun h => by cases h⟩
theorem over : Rows.packNumbersRow.holds Try.pinned (OpenSpec.ofChange Rows.packNumbersSpec) :=
  OpenClaim.holds_of_wide 3 Try.f3 rfl rfl rfl rfl rfl rfl rfl ⟨rfl, rfl, rfl, rfl, rfl⟩ rfl rfl rfl rfl rfl (by kernel_rfl) Try.func3 (by kernel_rfl)
    (of_decide_eq_true (by kernel_rfl)) (by unfold Func.isWrapper; first | (rw [if_pos (by decide +kernel)]; kernel_rfl) | (rw [if_neg (by decide +kernel)]; exact ⟨rfl, rfl⟩))
    (fun os started H enc _ => lifted os started H enc)
theorem proved : Rows.PackNumbersSaid := over
#print axioms proved
end Go.Proofs.Ytmgkfklkdedpgaa.packNumbers
namespace Go.Proofs.Ytmgkfklkdedpgaa
theorem packNumbers_holds : Rows.PackNumbersSaid := packNumbers.proved
end Go.Proofs.Ytmgkfklkdedpgaa
