/- The law TankBurns returns true for every input, and each argument reads afterwards as it read before; no condition. (Written by wip/myprint.py.) -/
import Derived.Test.YtlmgpjeienhihaaRows
import Derived.Test.YtlmgpjeienhihaaQx13
import Derived.Test.YtlmgpjeienhihaaQPureTankBurns
import Derived.Test.YtlmgpjeienhihaaOpen
import Derived.WalkKit
import Derived.ProofKit
import Derived.OpenShut
import Derived.ShutString
import Derived.ChangeOld
import Derived.Below
import Derived.SizedLaws
namespace Go.Proofs.Ytlmgpjeienhihaa.tankBurns
open Go.ChangeShapes Go.WideShapes Go.ChangeAt Go.RowKit Go.Proofs.YtlmgpjeienhihaaW.PrintWords
open Go.ChangeMaps (open_string shut_string)
set_option linter.unusedVariables false
set_option linter.unusedSimpArgs false
theorem own : ownKnob Try.prog.godebug = none := by kernel_rfl
theorem laidOut : laidOutB Try.prog = true := by kernel_rfl
theorem arr3 (cs : Array Value) (h : cs.size = 3) : ∃ x0 x1 x2, cs = #[x0, x1, x2] := by
  rcases cs with ⟨l_⟩
  match l_, h with
  | [x0, x1, x2], _ => exact ⟨_, _, _, rfl⟩
set_option maxRecDepth 100000 in
theorem lifted (os : Os) (started : os.Started) (H : Type) (enc : TypeId × Value → H) :
    ReturnsInHanded {} Try.checked os 5 .any (Rows.tankBurnsSpec.pre6 enc Try.prog Try.f5 Rows.tankBurnsRow.domain false) (Rows.tankBurnsSpec.post enc Try.prog Try.f5 false true false false) := by
  refine returnsInHanded_of_change_sized (C := Try.checked) own started (by kernel_rfl) Try.func5
    (ChangeSpec.witness6 (enc := enc) (C := Try.checked) false ⟨#[], #[.agg #[.int .i64 0, .int .i64 0, .slice none 0 0], .int .u16 0, .int .u16 0], []⟩ 8 (by kernel_rfl) (by kernel_rfl) (by kernel_rfl) (by kernel_rfl)) ?_
  intro W base args ds gs before hval0 hW hcnd hsz0 _
  have hsz : (DataW.weightsEach Try.prog (Try.f5.params.toList ++ Rows.tankBurnsSpec.plain.varTypes Try.prog) (ds ++ gs)).all (· ≤ reachBytes) = true := hsz0
  have hval : ∀ (j : Nat) t v, Try.f5.params[j]? = some t → args[j]? = some v → Value.okWide Try.prog W .any base t v := hval0
  have hW' := hW
  obtain ⟨p, q, hA0, hV, rfl, hfz, hnd⟩ := hW
  have hA : DataW.TrodAll enc Try.prog W 0 (fun _ => true) true Try.f5.params.toList args.toList ds p := hA0
  rw [Try.params5] at hA hval hsz
  obtain ⟨v0, vs0, d0, ds0, p0, q0, hargs, rfl, rfl, h0, r0⟩ := trodAll_cons hA
  obtain ⟨v1, vs1, d1, ds1, p1, q1, rfl, rfl, rfl, h1, r1⟩ := trodAll_cons r0
  obtain ⟨v2, vs2, d2, ds2, p2, q2, rfl, rfl, rfl, h2, r2⟩ := trodAll_cons r1
  obtain ⟨rfl, rfl, rfl⟩ := trodAll_nil r2
  obtain rfl : args = #[v0, v1, v2] := by cases args; simp_all
  obtain ⟨rfl, rfl⟩ := trodVars_none hV
  have k0 := h0
  have lt0 : ∀ x ∈ p0, x.block < W.heap.size := by obtain ⟨m, hm⟩ := k0; exact DataW.trod_lt m _ _ _ hm
  have light0 : Open.Light Try.prog 24 d0 := Open.Light.of hsz (j := 0) rfl rfl
  obtain ⟨fuel0, hf0⟩ := h0
  obtain ⟨cs0, rfl, hn0⟩ := okWide_struct Try.underlying24 (hval 0 24 v0 rfl rfl)
  rw [show Try.prog.cellsOf 24 = 3 by kernel_rfl] at hn0
  obtain ⟨c0_0, c0_1, c0_2, rfl⟩ := arr3 cs0 hn0
  obtain ⟨hl0, fld0⟩ := Open.opens_field Try.underlying24 hf0 light0
  have hcl0 : (Value.agg #[c0_0, c0_1, c0_2]).cells.toList = [c0_0, c0_1, c0_2] := rfl
  obtain ⟨y0_0, z0_0, q0_0⟩ := fld0 0 _ rfl (Open.opens_int Try.underlying3)
  have g0_0 := (show (Kd.int .i64).K W y0_0 (List.take (Try.prog.cellsOf 3) (List.drop 0 _)) from z0_0)
  clear z0_0
  rw [show Try.prog.cellsOf 3 = 1 by kernel_rfl] at g0_0
  obtain rfl := (List.cons.inj (show [c0_0] = [Value.int .i64 y0_0] from g0_0)).1
  obtain ⟨y0_1, z0_1, q0_1⟩ := fld0 1 _ rfl (Open.opens_int Try.underlying3)
  have g0_1 := (show (Kd.int .i64).K W y0_1 (List.take (Try.prog.cellsOf 3) (List.drop 1 _)) from z0_1)
  clear z0_1
  rw [show Try.prog.cellsOf 3 = 1 by kernel_rfl] at g0_1
  obtain rfl := (List.cons.inj (show [c0_1] = [Value.int .i64 y0_1] from g0_1)).1
  obtain ⟨y0_2, z0_2, q0_2⟩ := fld0 2 _ rfl (Open.opens_slice 21 4 Try.underlying22 (by kernel_rfl) (by kernel_rfl) (Open.opens_int Try.underlying21))
  have g0_2 := (show (Kd.slice 21 (Kd.int .i32)).K W y0_2 (List.take (Try.prog.cellsOf 22) (List.drop 2 _)) from z0_2)
  clear z0_2
  rw [show Try.prog.cellsOf 22 = 1 by kernel_rfl] at g0_2
  obtain ⟨A0_2, C0_2, e0_2, m0_2, g0_2⟩ := g0_2
  obtain rfl := (List.cons.inj (show [c0_2] = [Value.slice A0_2 y0_2.length C0_2] from e0_2)).1
  have k1 := h1
  have lt1 : ∀ x ∈ p1, x.block < W.heap.size := by obtain ⟨m, hm⟩ := k1; exact DataW.trod_lt m _ _ _ hm
  have light1 : Open.Light Try.prog 34 d1 := Open.Light.of hsz (j := 1) rfl rfl
  obtain ⟨fuel1, hf1⟩ := h1
  obtain ⟨n1, rfl, _, _, _⟩ := open_int Try.underlying34 (hval 1 34 v1 rfl rfl) k1
  obtain ⟨y1, g1, q1⟩ := (Open.opens_int Try.underlying34) fuel1 _ _ hf1 light1
  obtain rfl := (Value.int.inj (List.cons.inj (show [Value.int .u16 n1] = [Value.int .u16 y1] from g1)).1).2
  have k2 := h2
  have lt2 : ∀ x ∈ p2, x.block < W.heap.size := by obtain ⟨m, hm⟩ := k2; exact DataW.trod_lt m _ _ _ hm
  have light2 : Open.Light Try.prog 34 d2 := Open.Light.of hsz (j := 2) rfl rfl
  obtain ⟨fuel2, hf2⟩ := h2
  obtain ⟨n2, rfl, _, _, _⟩ := open_int Try.underlying34 (hval 2 34 v2 rfl rfl) k2
  obtain ⟨y2, g2, q2⟩ := (Open.opens_int Try.underlying34) fuel2 _ _ hf2 light2
  obtain rfl := (Value.int.inj (List.cons.inj (show [Value.int .u16 n2] = [Value.int .u16 y2] from g2)).1).2
  clear hA0 hval0 hsz0 hsz
  obtain ⟨k_, hk_⟩ := Pure.TankBurns y0_0 y0_1 y0_2 n1 n2 q0_0 q0_1 q0_2 q1 q2
  refine (Q.exerguelaw04_TankBurns.calls k_ y0_0 y0_1 A0_2 C0_2 y0_2 n1 n2 true W g0_2 m0_2 hk_).mono fun e W' ⟨he, bel0⟩ => ?_
  have bel : Below W.heap.size W W' := bel0
  subst he
  exact ⟨_, rfl, _, _, _, [], _, [], hW', trodAll_mk1 (shut_bool Try.underlying4 _), (trodAll_cons_mk (Below.trod laidOut (by kernel_rfl) (of_decide_eq_true (by kernel_rfl)) k0 bel lt0) (trodAll_cons_mk (Below.trod laidOut (by kernel_rfl) (of_decide_eq_true (by kernel_rfl)) k1 bel lt1) (trodAll_cons_mk (Below.trod laidOut (by kernel_rfl) (of_decide_eq_true (by kernel_rfl)) k2 bel lt2) trodAll_mk0))), rfl, bel.frame _, fun h => by cases h⟩
theorem over : Rows.tankBurnsRow.holds Try.pinned (OpenSpec.ofChange Rows.tankBurnsSpec) :=
  OpenClaim.holds_of_wide 5 Try.f5 rfl rfl rfl rfl rfl rfl rfl ⟨rfl, rfl, rfl, rfl, rfl⟩ rfl rfl rfl rfl rfl (by kernel_rfl) Try.func5 (by kernel_rfl)
    (of_decide_eq_true (by kernel_rfl)) (by unfold Func.isWrapper; first | (rw [if_pos (by decide +kernel)]; kernel_rfl) | (rw [if_neg (by decide +kernel)]; exact ⟨rfl, rfl⟩))
    (fun os started H enc _ => lifted os started H enc)
theorem proved : Rows.TankBurnsSaid := over
#print axioms proved
end Go.Proofs.Ytlmgpjeienhihaa.tankBurns
namespace Go.Proofs.Ytlmgpjeienhihaa
theorem tankBurns_holds : Rows.TankBurnsSaid := tankBurns.proved
end Go.Proofs.Ytlmgpjeienhihaa
