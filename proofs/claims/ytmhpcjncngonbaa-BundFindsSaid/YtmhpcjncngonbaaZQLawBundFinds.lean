/- Texts of this claim, joined; the first one's sentence stands below. -/
import Derived.Test.YtmhpcjncngonbaaRows
import Derived.Test.YtmhpcjncngonbaaZLBundFinds
import Derived.Test.YtmhpcjncngonbaaZOpenF
import Derived.WalkKit
import Derived.ProofKit
import Derived.OpenShut
import Derived.ShutString
import Derived.ChangeOld
import Derived.Below
import Derived.SizedLaws
/- The law BundFinds returns true for every input, and each argument reads afterwards as it read before; no condition. -/
namespace Go.Proofs.Ytmhpcjncngonbaa.bundFinds
open Go.ChangeShapes Go.WideShapes Go.ChangeAt Go.RowKit Go.Proofs.YtmhpcjncngonbaaW.PrintWords
open Go.ChangeMaps (open_string shut_string)
set_option linter.unusedVariables false
set_option linter.unusedSimpArgs false
theorem own : ownKnob Try.prog.godebug = none := by kernel_rfl
theorem laidOut : laidOutB Try.prog = true := by kernel_rfl
set_option maxRecDepth 100000 in
theorem lifted (os : Os) (started : os.Started) (H : Type) (enc : TypeId × Value → H) :
    ReturnsInHanded {} Try.checked os 7 .any (Rows.bundFindsSpec.pre6 enc Try.prog Try.f7 Rows.bundFindsRow.domain false) (Rows.bundFindsSpec.post enc Try.prog Try.f7 false true false false) := by
  refine returnsInHanded_of_change_sized (C := Try.checked) own started (by kernel_rfl) Try.func7
    (ChangeSpec.witness6 (enc := enc) (C := Try.checked) false ⟨#[], #[.agg #[.string ByteArray.empty, .int .i32 0, .int .i32 0, .int .i32 0, .int .i32 0, .int .i32 0, .int .i32 0, .int .i32 0, .string ByteArray.empty, .string ByteArray.empty, .string ByteArray.empty, .string ByteArray.empty, .slice none 0 0, .slice none 0 0, .slice none 0 0, .int .i64 0, .int .u8 0, .int .u8 0, .int .u8 0, .int .u8 0, .int .i64 0]], []⟩ 8 (by kernel_rfl) (by kernel_rfl) (by kernel_rfl) (by kernel_rfl)) ?_
  intro W base args ds gs before hval0 hW hcnd hsz0 _
  have hsz : (DataW.weightsEach Try.prog (Try.f7.params.toList ++ Rows.bundFindsSpec.plain.varTypes Try.prog) (ds ++ gs)).all (· ≤ reachBytes) = true := hsz0
  have hval : ∀ (j : Nat) t v, Try.f7.params[j]? = some t → args[j]? = some v → Value.okWide Try.prog W .any base t v := hval0
  have hW' := hW
  obtain ⟨p, q, hA0, hV, rfl, hfz, hnd⟩ := hW
  have hA : DataW.TrodAll enc Try.prog W 0 (fun _ => true) true Try.f7.params.toList args.toList ds p := hA0
  rw [Try.params7] at hA hval hsz
  obtain ⟨v0, vs0, d0, ds0, p0, q0, hargs, rfl, rfl, h0, r0⟩ := trodAll_cons hA
  obtain ⟨rfl, rfl, rfl⟩ := trodAll_nil r0
  obtain rfl : args = #[v0] := by cases args; simp_all
  obtain ⟨rfl, rfl⟩ := trodVars_none hV
  have k0 := h0
  have lt0 : ∀ x ∈ p0, x.block < W.heap.size := by obtain ⟨m, hm⟩ := k0; exact DataW.trod_lt m _ _ _ hm
  have light0 : Open.Light Try.prog 53 d0 := Open.Light.of hsz (j := 0) rfl rfl
  obtain ⟨fuel0, hf0⟩ := h0
  obtain ⟨cs0, rfl, hn0⟩ := okWide_struct Try.underlying53 (hval 0 53 v0 rfl rfl)
  obtain ⟨L0, a0, at0, b0, b1, b2, b3, cut0, e0, g0, t0, qa, qb0, qb1, qb2, qb3, qc⟩ := Q.opens_finds hf0 light0
  have e0 := Q.cells_eqF e0
  rw [e0]
  clear hA0 hval0 hsz0 hsz
  refine (Q.bundFinds.calls L0 a0 at0 b0 b1 b2 b3 cut0 W g0 t0 qa qb0 qb1 qb2 qb3 qc).mono fun e W' ⟨he, bel⟩ => ?_
  subst he
  rw [e0] at k0 hW'
  exact ⟨_, rfl, _, _, _, [], _, [], hW', trodAll_mk1 (shut_bool Try.underlying4 _), (trodAll_cons_mk (Below.trod laidOut (by kernel_rfl) (of_decide_eq_true (by kernel_rfl)) k0 bel lt0) trodAll_mk0), rfl, bel.frame _, fun h => by cases h⟩
theorem over : Rows.bundFindsRow.holds Try.pinned (OpenSpec.ofChange Rows.bundFindsSpec) :=
  OpenClaim.holds_of_wide 7 Try.f7 rfl rfl rfl rfl rfl rfl rfl ⟨rfl, rfl, rfl, rfl, rfl⟩ rfl rfl rfl rfl rfl (by kernel_rfl) Try.func7 (by kernel_rfl)
    (of_decide_eq_true (by kernel_rfl)) (by unfold Func.isWrapper; first | (rw [if_pos (by decide +kernel)]; kernel_rfl) | (rw [if_neg (by decide +kernel)]; exact ⟨rfl, rfl⟩))
    (fun os started H enc _ => lifted os started H enc)
theorem proved : Rows.BundFindsSaid := over
#print axioms proved
end Go.Proofs.Ytmhpcjncngonbaa.bundFinds
namespace Go.Proofs.Ytmhpcjncngonbaa
theorem bundFinds_holds : Rows.BundFindsSaid := bundFinds.proved
end Go.Proofs.Ytmhpcjncngonbaa
