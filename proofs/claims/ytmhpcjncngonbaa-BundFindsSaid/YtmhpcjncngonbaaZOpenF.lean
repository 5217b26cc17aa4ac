/- Texts of this claim, joined; the first one's sentence stands below. -/
import Derived.Test.YtmhpcjncngonbaaZM8
import Derived.Test.YtmhpcjncngonbaaZLBundFindA
/- What BundFinds is asked of, as it comes in: what it holds; sizes as memory has room. -/
namespace Go.Proofs.Ytmhpcjncngonbaa.Q
open Go.RowKit Go.Proofs.Ytmhpcjncngonbaa.Mine Go.Proofs.YtmhpcjncngonbaaW.PrintWords Go.Proofs.YtmhpcjncngonbaaW.PrintLast Go.Proofs.YtmhpcjncngonbaaW.PrintMore
set_option linter.unusedVariables false
set_option linter.unusedSimpArgs false
open Go.Proofs.Ytmhpcjncngonbaa.Open Go.ChangeShapes Go.WideShapes
section
variable {H : Type} {enc : TypeId × Value → H} {w : World} {base : Nat} {spare : Nat → Bool} {held : Bool}
theorem cells53 : Try.prog.cellsOf 53 = 21 := by kernel_rfl
theorem cells51 : Try.prog.cellsOf 51 = 4 := by kernel_rfl
theorem cells5 : Try.prog.cellsOf 5 = 1 := by kernel_rfl
theorem list21 {cs : List Value} (h : cs.length = 21) : ∃ a0 a1 a2 a3 a4 a5 a6 a7 a8 a9 a10 a11 a12 a13 a14 a15 a16 a17 a18 a19 a20, cs = [a0, a1, a2, a3, a4, a5, a6, a7, a8, a9, a10, a11, a12, a13, a14, a15, a16, a17, a18, a19, a20] := by
  match cs, h with
  | [a0, a1, a2, a3, a4, a5, a6, a7, a8, a9, a10, a11, a12, a13, a14, a15, a16, a17, a18, a19, a20], _ => exact ⟨a0, a1, a2, a3, a4, a5, a6, a7, a8, a9, a10, a11, a12, a13, a14, a15, a16, a17, a18, a19, a20, rfl⟩
theorem opens_four : Opens enc Try.prog w base spare held 51 (fun _ (f : Nat → Int) cs => cs = [.int .u8 (f 0), .int .u8 (f 1), .int .u8 (f 2), .int .u8 (f 3)]) (fun f => ∀ i, i < 4 → (Lit.int .u8 (f i)).wf = true) := by
  intro fuel cs x h hl
  obtain ⟨hn, fld⟩ := opens_elem Try.underlying51 h hl
  rw [cells51] at hn
  obtain ⟨a, b, c, d, rfl⟩ := list4 hn
  obtain ⟨s0, h0, q0⟩ := fld 0 (by decide) (opens_int Try.underlying5)
  obtain ⟨s1, h1, q1⟩ := fld 1 (by decide) (opens_int Try.underlying5)
  obtain ⟨s2, h2, q2⟩ := fld 2 (by decide) (opens_int Try.underlying5)
  obtain ⟨s3, h3, q3⟩ := fld 3 (by decide) (opens_int Try.underlying5)
  simp only [cells5] at h0 h1 h2 h3
  obtain rfl := one_eq (show [a] = [Value.int .u8 s0] from h0)
  obtain rfl := one_eq (show [b] = [Value.int .u8 s1] from h1)
  obtain rfl := one_eq (show [c] = [Value.int .u8 s2] from h2)
  obtain rfl := one_eq (show [d] = [Value.int .u8 s3] from h3)
  refine ⟨fun i => match i with | 0 => s0 | 1 => s1 | 2 => s2 | _ => s3, rfl, fun i hi => ?_⟩
  match i, hi with
  | 0, _ => exact q0
  | 1, _ => exact q1
  | 2, _ => exact q2
  | 3, _ => exact q3
set_option maxRecDepth 100000 in
theorem opens_finds {fuel : Nat} {cs : List Value} {x : DataW H × List MemPlace} (h : DataW.trod enc Try.prog w base spare held fuel 53 cs = some x) (hl : Light Try.prog 53 x.1) :
    ∃ (L : Loc) (a : Lat) (at_ q0 q1 q2 q3 cut : Int), cs = cellsL L a ++ ([.int .i64 at_, .int .u8 q0, .int .u8 q1, .int .u8 q2, .int .u8 q3, .int .i64 cut] : List Value) ∧ LocC L a w ∧ LocT L ∧ (Lit.int .i64 at_).wf = true ∧ (Lit.int .u8 q0).wf = true ∧ (Lit.int .u8 q1).wf = true ∧ (Lit.int .u8 q2).wf = true ∧ (Lit.int .u8 q3).wf = true ∧ (Lit.int .i64 cut).wf = true := by
  obtain ⟨hn, fld⟩ := opens_field Try.underlying53 h hl
  rw [cells53] at hn
  obtain ⟨a0, a1, a2, a3, a4, a5, a6, a7, a8, a9, a10, a11, a12, a13, a14, a15, a16, a17, a18, a19, a20, rfl⟩ := list21 hn
  obtain ⟨⟨L, a⟩, ⟨h0, hc⟩, ht⟩ := fld 0 _ rfl opens_loc
  obtain ⟨n, h1, qa⟩ := fld 1 _ rfl (opens_int Try.underlying3)
  obtain ⟨f, h2, qb⟩ := fld 2 _ rfl opens_four
  obtain ⟨m, h3, qc⟩ := fld 3 _ rfl (opens_int Try.underlying3)
  have h0 : List.take (Try.prog.cellsOf 29) (List.drop 0 _) = _ := h0
  have h1 : (Kd.int .i64).K w n (List.take (Try.prog.cellsOf 3) (List.drop 15 _)) := h1
  replace h2 : List.take (Try.prog.cellsOf 51) (List.drop 16 _) = _ := h2
  have h3 : (Kd.int .i64).K w m (List.take (Try.prog.cellsOf 3) (List.drop 20 _)) := h3
  rw [cells29] at h0
  rw [cells3] at h1 h3
  rw [cells51] at h2
  have h0 : [a0, a1, a2, a3, a4, a5, a6, a7, a8, a9, a10, a11, a12, a13, a14] = cellsL L a := h0
  have g2 : [a16, a17, a18, a19] = ([.int .u8 (f 0), .int .u8 (f 1), .int .u8 (f 2), .int .u8 (f 3)] : List Value) := h2
  clear h2
  obtain rfl := one_eq (show [a15] = [Value.int .i64 n] from h1)
  obtain rfl := one_eq (show [a20] = [Value.int .i64 m] from h3)
  obtain ⟨rfl, g3⟩ := List.cons.inj g2
  clear g2
  obtain ⟨rfl, g4⟩ := List.cons.inj g3
  clear g3
  obtain ⟨rfl, g5⟩ := List.cons.inj g4
  clear g4
  obtain ⟨rfl, g6⟩ := List.cons.inj g5
  clear g5
  refine ⟨L, a, n, f 0, f 1, f 2, f 3, m, ?_, hc, ht, qa, qb 0 (by decide), qb 1 (by decide), qb 2 (by decide), qb 3 (by decide), qc⟩
  rw [← h0]
  rfl
end
theorem cells_eqF {cs : Array Value} {L : Loc} {a : Lat} {at_ q0 q1 q2 q3 cut : Int} (h : (Value.agg cs).cells.toList = cellsL L a ++ ([.int .i64 at_, .int .u8 q0, .int .u8 q1, .int .u8 q2, .int .u8 q3, .int .i64 cut] : List Value)) : Value.agg cs = finV L a at_ q0 q1 q2 q3 cut := by
  have h2 : cs.toList = cellsL L a ++ ([.int .i64 at_, .int .u8 q0, .int .u8 q1, .int .u8 q2, .int .u8 q3, .int .i64 cut] : List Value) := h
  have h3 : cs = (cellsL L a ++ ([.int .i64 at_, .int .u8 q0, .int .u8 q1, .int .u8 q2, .int .u8 q3, .int .i64 cut] : List Value)).toArray := by rw [← h2]
  rw [h3]
  rfl
end Go.Proofs.Ytmhpcjncngonbaa.Q
