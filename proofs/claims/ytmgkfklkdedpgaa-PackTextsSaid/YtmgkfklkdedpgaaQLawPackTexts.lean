/- The law PackTexts returns true for every input, and each argument reads afterwards as it read before; no condition. (Written by wip/myprint.py.) -/
import Derived.Test.YtmgkfklkdedpgaaRows
import Derived.Test.YtmgkfklkdedpgaaLPackTexts
import Derived.Test.YtmgkfklkdedpgaaQPurePackTexts
import Derived.Test.YtmgkfklkdedpgaaOpen
import Derived.WalkKit
import Derived.ProofKit
import Derived.OpenShut
import Derived.ShutString
import Derived.ChangeOld
import Derived.Below
import Derived.SizedLaws
namespace Go.Proofs.Ytmgkfklkdedpgaa.packTexts
open Go.ChangeShapes Go.WideShapes Go.ChangeAt Go.RowKit Go.Proofs.YtmgkfklkdedpgaaW.PrintWords
open Go.ChangeMaps (open_string shut_string)
set_option linter.unusedVariables false
set_option linter.unusedSimpArgs false
theorem own : ownKnob Try.prog.godebug = none := by kernel_rfl
theorem laidOut : laidOutB Try.prog = true := by kernel_rfl
set_option maxRecDepth 100000 in
theorem lifted (os : Os) (started : os.Started) (H : Type) (enc : TypeId × Value → H) :
    ReturnsInHanded {} Try.checked os 5 .any (Rows.packTextsSpec.pre6 enc Try.prog Try.f5 Rows.packTextsRow.domain false) (Rows.packTextsSpec.post enc Try.prog Try.f5 false true false false) := by
  refine returnsInHanded_of_change_sized (C := Try.checked) own started (by kernel_rfl) Try.func5
    (ChangeSpec.witness6 (enc := enc) (C := Try.checked) false ⟨#[], #[.slice none 0 0, .slice none 0 0], []⟩ 8 (by kernel_rfl) (by kernel_rfl) (by kernel_rfl) (by kernel_rfl)) ?_
  intro W base args ds gs before hval0 hW hcnd hsz0 _
  have hsz : (DataW.weightsEach Try.prog (Try.f5.params.toList ++ Rows.packTextsSpec.plain.varTypes Try.prog) (ds ++ gs)).all (· ≤ reachBytes) = true := hsz0
  have hval : ∀ (j : Nat) t v, Try.f5.params[j]? = some t → args[j]? = some v → Value.okWide Try.prog W .any base t v := hval0
  have hW' := hW
  obtain ⟨p, q, hA0, hV, rfl, hfz, hnd⟩ := hW
  have hA : DataW.TrodAll enc Try.prog W 0 (fun _ => true) true Try.f5.params.toList args.toList ds p := hA0
  rw [Try.params5] at hA hval hsz
  obtain ⟨v0, vs0, d0, ds0, p0, q0, hargs, rfl, rfl, h0, r0⟩ := trodAll_cons hA
  obtain ⟨v1, vs1, d1, ds1, p1, q1, rfl, rfl, rfl, h1, r1⟩ := trodAll_cons r0
  obtain ⟨rfl, rfl, rfl⟩ := trodAll_nil r1
  obtain rfl : args = #[v0, v1] := by cases args; simp_all
  obtain ⟨rfl, rfl⟩ := trodVars_none hV
  have k0 := h0
  have lt0 : ∀ x ∈ p0, x.block < W.heap.size := by obtain ⟨m, hm⟩ := k0; exact DataW.trod_lt m _ _ _ hm
  have light0 : Open.Light Try.prog 40 d0 := Open.Light.of hsz (j := 0) rfl rfl
  obtain ⟨fuel0, hf0⟩ := h0
  obtain ⟨b0, len0, cap0, rfl⟩ := okWide_slice Try.underlying40 (hval 0 40 v0 rfl rfl)
  obtain ⟨y0, g0, q0⟩ := (Open.opens_slice 9 16 Try.underlying40 (by kernel_rfl) (by kernel_rfl) (Open.opens_string Try.underlying9)) fuel0 _ _ hf0 light0
  obtain ⟨A0, C0, e0, m0, g0⟩ := g0
  obtain ⟨rfl, rfl, rfl⟩ := Value.slice.inj (List.cons.inj (show [Value.slice b0 len0 cap0] = [Value.slice A0 y0.length C0] from e0)).1
  have k1 := h1
  have lt1 : ∀ x ∈ p1, x.block < W.heap.size := by obtain ⟨m, hm⟩ := k1; exact DataW.trod_lt m _ _ _ hm
  have light1 : Open.Light Try.prog 41 d1 := Open.Light.of hsz (j := 1) rfl rfl
  obtain ⟨fuel1, hf1⟩ := h1
  obtain ⟨b1, len1, cap1, rfl⟩ := okWide_slice Try.underlying41 (hval 1 41 v1 rfl rfl)
  obtain ⟨y1, g1, q1⟩ := (Open.opens_slice 3 8 Try.underlying41 (by kernel_rfl) (by kernel_rfl) (Open.opens_int Try.underlying3)) fuel1 _ _ hf1 light1
  obtain ⟨A1, C1, e1, m1, g1⟩ := g1
  obtain ⟨rfl, rfl, rfl⟩ := Value.slice.inj (List.cons.inj (show [Value.slice b1 len1 cap1] = [Value.slice A1 y1.length C1] from e1)).1
  clear hA0 hval0 hsz0 hsz
  obtain ⟨k_, hk_⟩ := Pure.PackTexts y0 y1 q0 q1
  refine (Q.exerguelaw09_PackTexts.calls k_ b0 cap0 y0 b1 cap1 y1 true W g0 m0 g1 m1 hk_).mono fun e W' ⟨he, bel0⟩ => ?_
  have bel : Below W.heap.size W W' := bel0
  subst he
  exact ⟨_, rfl, _, _, _, [], _, [], hW', trodAll_mk1 (shut_bool Try.underlying4 _), (trodAll_cons_mk (Below.trod laidOut (by kernel_rfl) (of_decide_eq_true (by kernel_rfl)) k0 bel lt0) (trodAll_cons_mk (Below.trod laidOut (by kernel_rfl) (of_decide_eq_true (by kernel_rfl)) k1 bel lt1) trodAll_mk0)), rfl, bel.frame _, fun h => by cases h⟩
theorem over : Rows.packTextsRow.holds Try.pinned (OpenSpec.ofChange Rows.packTextsSpec) :=
  OpenClaim.holds_of_wide 5 Try.f5 rfl rfl rfl rfl rfl rfl rfl ⟨rfl, rfl, rfl, rfl, rfl⟩ rfl rfl rfl rfl rfl (by kernel_rfl) Try.func5 (by kernel_rfl)
    (of_decide_eq_true (by kernel_rfl)) (by unfold Func.isWrapper; first | (rw [if_pos (by decide +kernel)]; kernel_rfl) | (rw [if_neg (by decide +kernel)]; exact ⟨rfl, rfl⟩))
    (fun os started H enc _ => lifted os started H enc)
theorem proved : Rows.PackTextsSaid := over
#print axioms proved
end Go.Proofs.Ytmgkfklkdedpgaa.packTexts
namespace Go.Proofs.Ytmgkfklkdedpgaa
theorem packTexts_holds : Rows.PackTextsSaid := packTexts.proved
end Go.Proofs.Ytmgkfklkdedpgaa
