/- Texts of this claim, joined; the first one's sentence stands below. -/
import Derived.Test.YtmhpcjncngonbaaRows
import Derived.Test.YtmhpcjncngonbaaZLBundTells
import Derived.Test.YtmhpcjncngonbaaZM8
import Derived.WalkKit
import Derived.ProofKit
import Derived.OpenShut
import Derived.ShutString
import Derived.ChangeOld
import Derived.Below
import Derived.SizedLaws
/- The law BundTells returns true for every input, and each argument reads afterwards as it read before; no condition. -/
namespace Go.Proofs.Ytmhpcjncngonbaa.bundTells
open Go.ChangeShapes Go.WideShapes Go.ChangeAt Go.RowKit Go.Proofs.YtmhpcjncngonbaaW.PrintWords
open Go.ChangeMaps (open_string shut_string)
set_option linter.unusedVariables false
set_option linter.unusedSimpArgs false
theorem own : ownKnob Try.prog.godebug = none := by kernel_rfl
theorem laidOut : laidOutB Try.prog = true := by kernel_rfl
set_option maxRecDepth 100000 in
theorem lifted (os : Os) (started : os.Started) (H : Type) (enc : TypeId × Value → H) :
    ReturnsInHanded {} Try.checked os 5 .any (Rows.bundTellsSpec.pre6 enc Try.prog Try.f5 Rows.bundTellsRow.domain false) (Rows.bundTellsSpec.post enc Try.prog Try.f5 false true false false) := by
  refine returnsInHanded_of_change_sized (C := Try.checked) own started (by kernel_rfl) Try.func5
    (ChangeSpec.witness6 (enc := enc) (C := Try.checked) false ⟨#[], #[.agg #[.string ByteArray.empty, .int .i32 0, .int .i32 0, .int .i32 0, .int .i32 0, .int .i32 0, .int .i32 0, .int .i32 0, .string ByteArray.empty, .string ByteArray.empty, .string ByteArray.empty, .string ByteArray.empty, .slice none 0 0, .slice none 0 0, .slice none 0 0], .slice none 0 0], []⟩ 8 (by kernel_rfl) (by kernel_rfl) (by kernel_rfl) (by kernel_rfl)) ?_
  intro W base args ds gs before hval0 hW hcnd hsz0 _
  have hsz : (DataW.weightsEach Try.prog (Try.f5.params.toList ++ Rows.bundTellsSpec.plain.varTypes Try.prog) (ds ++ gs)).all (· ≤ reachBytes) = true := hsz0
  have hval : ∀ (j : Nat) t v, Try.f5.params[j]? = some t → args[j]? = some v → Value.okWide Try.prog W .any base t v := hval0
  have hW' := hW
  obtain ⟨p, q, hA0, hV, rfl, hfz, hnd⟩ := hW
  have hA : DataW.TrodAll enc Try.prog W 0 (fun _ => true) true Try.f5.params.toList args.toList ds p := hA0
  rw [Try.params5] at hA hval hsz
  obtain ⟨v0, vs0, d0, ds0, p0, q0, hargs, rfl, rfl, h0, r0⟩ := trodAll_cons hA
  obtain ⟨v1, vs1, d1, ds1, p1, q1, rfl, rfl, rfl, h1, r1⟩ := trodAll_cons r0
  obtain ⟨rfl, rfl, rfl⟩ := trodAll_nil r1
  obtain rfl : args = #[v0, v1] := by cases args; simp_all
  obtain ⟨rfl, rfl⟩ := trodVars_none hV
  have k0 := h0
  have lt0 : ∀ x ∈ p0, x.block < W.heap.size := by obtain ⟨m, hm⟩ := k0; exact DataW.trod_lt m _ _ _ hm
  have light0 : Open.Light Try.prog 29 d0 := Open.Light.of hsz (j := 0) rfl rfl
  obtain ⟨fuel0, hf0⟩ := h0
  obtain ⟨cs0, rfl, hn0⟩ := okWide_struct Try.underlying29 (hval 0 29 v0 rfl rfl)
  obtain ⟨⟨L0, a0⟩, ⟨e0, g0⟩, t0⟩ := Q.opens_loc fuel0 _ _ hf0 light0
  have e0 := Q.cells_eq e0
  rw [e0]
  have k1 := h1
  have lt1 : ∀ x ∈ p1, x.block < W.heap.size := by obtain ⟨m, hm⟩ := k1; exact DataW.trod_lt m _ _ _ hm
  have light1 : Open.Light Try.prog 32 d1 := Open.Light.of hsz (j := 1) rfl rfl
  obtain ⟨fuel1, hf1⟩ := h1
  obtain ⟨b1, len1, cap1, rfl⟩ := okWide_slice Try.underlying32 (hval 1 32 v1 rfl rfl)
  obtain ⟨y1, g1, q1⟩ := (Open.opens_slice 5 1 Try.underlying32 (by kernel_rfl) (by kernel_rfl) (Open.opens_int Try.underlying5)) fuel1 _ _ hf1 light1
  obtain ⟨A1, C1, e1, m1, g1⟩ := g1
  obtain ⟨rfl, rfl, rfl⟩ := Value.slice.inj (List.cons.inj (show [Value.slice b1 len1 cap1] = [Value.slice A1 y1.length C1] from e1)).1
  clear hA0 hval0 hsz0 hsz
  refine (Q.bundTells.calls L0 a0 b1 cap1 y1 W g0 t0 g1 m1 (Q.wf8 q1.2)).mono fun e W' ⟨he, bel⟩ => ?_
  subst he
  rw [e0] at k0 hW'
  exact ⟨_, rfl, _, _, _, [], _, [], hW', trodAll_mk1 (shut_bool Try.underlying4 _), (trodAll_cons_mk (Below.trod laidOut (by kernel_rfl) (of_decide_eq_true (by kernel_rfl)) k0 bel lt0) (trodAll_cons_mk (Below.trod laidOut (by kernel_rfl) (of_decide_eq_true (by kernel_rfl)) k1 bel lt1) trodAll_mk0)), rfl, bel.frame _, fun h => by cases h⟩
theorem over : Rows.bundTellsRow.holds Try.pinned (OpenSpec.ofChange Rows.bundTellsSpec) :=
  OpenClaim.holds_of_wide 5 Try.f5 rfl rfl rfl rfl rfl rfl rfl ⟨rfl, rfl, rfl, rfl, rfl⟩ rfl rfl rfl rfl rfl (by kernel_rfl) Try.func5 (by kernel_rfl)
    (of_decide_eq_true (by kernel_rfl)) (by unfold Func.isWrapper; first | (rw [if_pos (by decide +kernel)]; kernel_rfl) | (rw [if_neg (by decide +kernel)]; exact ⟨rfl, rfl⟩))
    (fun os started H enc _ => lifted os started H enc)
theorem proved : Rows.BundTellsSaid := over
#print axioms proved
end Go.Proofs.Ytmhpcjncngonbaa.bundTells
namespace Go.Proofs.Ytmhpcjncngonbaa
theorem bundTells_holds : Rows.BundTellsSaid := bundTells.proved
end Go.Proofs.Ytmhpcjncngonbaa
