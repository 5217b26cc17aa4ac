/- The law CrcCuts returns true for every input, and each argument reads afterwards as it read before; no condition. (Written by wip/myprint.py.) -/
import Derived.Test.YthejhhklphjhmaaRows
import Derived.Test.YthejhhklphjhmaaQx20
import Derived.Test.YthejhhklphjhmaaQPureCrcCuts
import Derived.Test.YthejhhklphjhmaaOpen
import Derived.WalkKit
import Derived.ProofKit
import Derived.OpenShut
import Derived.ShutString
import Derived.ChangeOld
import Derived.Below
import Derived.SizedLaws
namespace Go.Proofs.Ythejhhklphjhmaa.crcCuts
open Go.ChangeShapes Go.WideShapes Go.ChangeAt Go.RowKit Go.Proofs.YthejhhklphjhmaaW.PrintWords
open Go.ChangeMaps (open_string shut_string)
set_option linter.unusedVariables false
set_option linter.unusedSimpArgs false
theorem own : ownKnob Try.prog.godebug = none := by kernel_rfl
theorem laidOut : laidOutB Try.prog = true := by kernel_rfl
theorem okWide_array {P : Program} {w : World} {r : Reach} {base : Nat} {t : TypeId} {v : Value} {m : Nat} {e : TypeId} (ht : P.underlying t = some (.array m e)) (h : Value.okWide P w r base t v) : ∃ cs, v = .agg cs ∧ cs.size = P.cellsOf t := by
  simp only [Value.okWide, ht] at h
  obtain ⟨cs, h1, h2, _⟩ := h
  exact ⟨cs, h1, h2⟩
theorem arr4 (cs : Array Value) (h : cs.size = 4) : ∃ x0 x1 x2 x3, cs = #[x0, x1, x2, x3] := by
  rcases cs with ⟨l_⟩
  match l_, h with
  | [x0, x1, x2, x3], _ => exact ⟨_, _, _, _, rfl⟩
set_option maxRecDepth 100000 in
theorem lifted (os : Os) (started : os.Started) (H : Type) (enc : TypeId × Value → H) :
    ReturnsInHanded {} Try.checked os 8 .any (Rows.crcCutsSpec.pre6 enc Try.prog Try.f8 Rows.crcCutsRow.domain false) (Rows.crcCutsSpec.post enc Try.prog Try.f8 false true false false) := by
  refine returnsInHanded_of_change_sized (C := Try.checked) own started (by kernel_rfl) Try.func8
    (ChangeSpec.witness6 (enc := enc) (C := Try.checked) false ⟨#[], #[.slice none 0 0, .agg #[.int .u8 0, .int .u8 0, .int .u8 0, .int .u8 0]], []⟩ 8 (by kernel_rfl) (by kernel_rfl) (by kernel_rfl) (by kernel_rfl)) ?_
  intro W base args ds gs before hval0 hW hcnd hsz0 _
  have hsz : (DataW.weightsEach Try.prog (Try.f8.params.toList ++ Rows.crcCutsSpec.plain.varTypes Try.prog) (ds ++ gs)).all (· ≤ reachBytes) = true := hsz0
  have hval : ∀ (j : Nat) t v, Try.f8.params[j]? = some t → args[j]? = some v → Value.okWide Try.prog W .any base t v := hval0
  have hW' := hW
  obtain ⟨p, q, hA0, hV, rfl, hfz, hnd⟩ := hW
  have hA : DataW.TrodAll enc Try.prog W 0 (fun _ => true) true Try.f8.params.toList args.toList ds p := hA0
  rw [Try.params8] at hA hval hsz
  obtain ⟨v0, vs0, d0, ds0, p0, q0, hargs, rfl, rfl, h0, r0⟩ := trodAll_cons hA
  obtain ⟨v1, vs1, d1, ds1, p1, q1, rfl, rfl, rfl, h1, r1⟩ := trodAll_cons r0
  obtain ⟨rfl, rfl, rfl⟩ := trodAll_nil r1
  obtain rfl : args = #[v0, v1] := by cases args; simp_all
  obtain ⟨rfl, rfl⟩ := trodVars_none hV
  have k0 := h0
  have lt0 : ∀ x ∈ p0, x.block < W.heap.size := by obtain ⟨m, hm⟩ := k0; exact DataW.trod_lt m _ _ _ hm
  have light0 : Open.Light Try.prog 23 d0 := Open.Light.of hsz (j := 0) rfl rfl
  obtain ⟨fuel0, hf0⟩ := h0
  obtain ⟨b0, len0, cap0, rfl⟩ := okWide_slice Try.underlying23 (hval 0 23 v0 rfl rfl)
  obtain ⟨y0, g0, q0⟩ := (Open.opens_slice 5 1 Try.underlying23 (by kernel_rfl) (by kernel_rfl) (Open.opens_int Try.underlying5)) fuel0 _ _ hf0 light0
  obtain ⟨A0, C0, e0, m0, g0⟩ := g0
  obtain ⟨rfl, rfl, rfl⟩ := Value.slice.inj (List.cons.inj (show [Value.slice b0 len0 cap0] = [Value.slice A0 y0.length C0] from e0)).1
  have k1 := h1
  have lt1 : ∀ x ∈ p1, x.block < W.heap.size := by obtain ⟨m, hm⟩ := k1; exact DataW.trod_lt m _ _ _ hm
  have light1 : Open.Light Try.prog 36 d1 := Open.Light.of hsz (j := 1) rfl rfl
  obtain ⟨fuel1, hf1⟩ := h1
  obtain ⟨cs1, rfl, hn1⟩ := okWide_array Try.underlying36 (hval 1 36 v1 rfl rfl)
  rw [show Try.prog.cellsOf 36 = 4 by kernel_rfl] at hn1
  obtain ⟨c1_0, c1_1, c1_2, c1_3, rfl⟩ := arr4 cs1 hn1
  obtain ⟨hl1, fld1⟩ := Open.opens_elem Try.underlying36 hf1 light1
  obtain ⟨y1_0, z1_0, q1_0⟩ := fld1 0 (by decide) (Open.opens_int Try.underlying5)
  have g1_0 := (show (Kd.int .u8).K W y1_0 (List.take (Try.prog.cellsOf 5) (List.drop (0 * Try.prog.cellsOf 5) _)) from z1_0)
  clear z1_0
  rw [show Try.prog.cellsOf 5 = 1 by kernel_rfl] at g1_0
  obtain rfl := (List.cons.inj (show [c1_0] = [Value.int .u8 y1_0] from g1_0)).1
  obtain ⟨y1_1, z1_1, q1_1⟩ := fld1 1 (by decide) (Open.opens_int Try.underlying5)
  have g1_1 := (show (Kd.int .u8).K W y1_1 (List.take (Try.prog.cellsOf 5) (List.drop (1 * Try.prog.cellsOf 5) _)) from z1_1)
  clear z1_1
  rw [show Try.prog.cellsOf 5 = 1 by kernel_rfl] at g1_1
  obtain rfl := (List.cons.inj (show [c1_1] = [Value.int .u8 y1_1] from g1_1)).1
  obtain ⟨y1_2, z1_2, q1_2⟩ := fld1 2 (by decide) (Open.opens_int Try.underlying5)
  have g1_2 := (show (Kd.int .u8).K W y1_2 (List.take (Try.prog.cellsOf 5) (List.drop (2 * Try.prog.cellsOf 5) _)) from z1_2)
  clear z1_2
  rw [show Try.prog.cellsOf 5 = 1 by kernel_rfl] at g1_2
  obtain rfl := (List.cons.inj (show [c1_2] = [Value.int .u8 y1_2] from g1_2)).1
  obtain ⟨y1_3, z1_3, q1_3⟩ := fld1 3 (by decide) (Open.opens_int Try.underlying5)
  have g1_3 := (show (Kd.int .u8).K W y1_3 (List.take (Try.prog.cellsOf 5) (List.drop (3 * Try.prog.cellsOf 5) _)) from z1_3)
  clear z1_3
  rw [show Try.prog.cellsOf 5 = 1 by kernel_rfl] at g1_3
  obtain rfl := (List.cons.inj (show [c1_3] = [Value.int .u8 y1_3] from g1_3)).1
  clear hA0 hval0 hsz0 hsz
  obtain ⟨k_, hk_⟩ := Pure.CrcCuts y0 y1_0 y1_1 y1_2 y1_3 q0 q1_0 q1_1 q1_2 q1_3
  refine (Q.exerguelaw08_CrcCuts.calls k_ b0 cap0 y0 y1_0 y1_1 y1_2 y1_3 true W g0 m0 hk_).mono fun e W' ⟨he, bel0⟩ => ?_
  have bel : Below W.heap.size W W' := bel0
  subst he
  exact ⟨_, rfl, _, _, _, [], _, [], hW', trodAll_mk1 (shut_bool Try.underlying4 _), (trodAll_cons_mk (Below.trod laidOut (by kernel_rfl) (of_decide_eq_true (by kernel_rfl)) k0 bel lt0) (trodAll_cons_mk (Below.trod laidOut (by kernel_rfl) (of_decide_eq_true (by kernel_rfl)) k1 bel lt1) trodAll_mk0)), rfl, bel.frame _, fun h => by cases h⟩
theorem over : Rows.crcCutsRow.holds Try.pinned (OpenSpec.ofChange Rows.crcCutsSpec) :=
  OpenClaim.holds_of_wide 8 Try.f8 rfl rfl rfl rfl rfl rfl rfl ⟨rfl, rfl, rfl, rfl, rfl⟩ rfl rfl rfl rfl rfl (by kernel_rfl) Try.func8 (by kernel_rfl)
    (of_decide_eq_true (by kernel_rfl)) (by unfold Func.isWrapper; first | (rw [if_pos (by decide +kernel)]; kernel_rfl) | (rw [if_neg (by decide +kernel)]; exact ⟨rfl, rfl⟩))
    (fun os started H enc _ => lifted os started H enc)
theorem proved : Rows.CrcCutsSaid := over
#print axioms proved
end Go.Proofs.Ythejhhklphjhmaa.crcCuts
namespace Go.Proofs.Ythejhhklphjhmaa
theorem crcCuts_holds : Rows.CrcCutsSaid := crcCuts.proved
end Go.Proofs.Ythejhhklphjhmaa
