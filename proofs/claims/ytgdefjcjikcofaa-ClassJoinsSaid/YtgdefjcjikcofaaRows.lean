/-
  No cell of these rows narrows 'for every input' (looked for: loops, veiled, ifaces, maps, wideKeys, modest, calm, conditions, laid).
  DERIVED. THE GIVEN ROWS OF THIS SEAT. 6 by the template 'for every input the law returns true; each argument reads behind the call as it read before'; 0 by the template 'total and deterministic' (their statements: YtgdefjcjikcofaaTotals.lean).
  GIVEN WITH THE SEED: the statements are not yours to turn. If you find one false, say at which input.
  Laid BY PROGRAM, IN A SANDBOX (cutbox-rows.mjs): the forced cells as the released guide's own fill.sh prints them over the translation 0902c8dc17edc74b… (all of the seat's roots in one cut). By AI agents, Wed Nov 11 2026. No macro, syntax, notation, axiom, sorry.
-/
import Derived.Test.YtgdefjcjikcofaaChecked
import GoSem.Claim
import GoSem.ClaimJoined
import GoSem.ClaimMapViews
import Derived.JoinedTies
import Derived.KernelRfl
namespace Go.Proofs.Ytgdefjcjikcofaa
/- THE CELL 'sum', in the pinned program and in every row, IS THE sha256 OF THE DUMP (.gsa) THAT YtgdefjcjikcofaaProg.lean LOADS. Nothing in Lean hashes anything: it is a label: what it is worth is what the hold of that sum in a sandbox is worth. -/
noncomputable def Try.pinned : Pinned := { name := "ytgdefjcjikcofaa", sum := "0902c8dc17edc74b7a29d5cca73cea24b377a0653deb046476c38182dc3d0ac9", checked := Try.checked }
namespace Rows
def none {H : Type} : Left H := { results := [], args := [] }

/-- 'exerguelaw02.ClassTells': WHATEVER THE INPUT: true; the input reads as it did. -/
def classTellsSpec : ChangeSpec := { name := "classTells", fn := fun _ => fun
  | [d] => { results := [.lit (.bool true)], args := [d] }
  | _ => none }
def classTellsRow : OpenClaim := { program := "ytgdefjcjikcofaa", sum := "0902c8dc17edc74b7a29d5cca73cea24b377a0653deb046476c38182dc3d0ac9", func := "exergue/exerguelaw02.ClassTells", spec := "classTells", unfollowed := true, recurses := true, plainKeys := false, apart := false }
def ClassTellsSaid : Prop := classTellsRow.holds Try.pinned (OpenSpec.ofChange classTellsSpec)

/-- ITS FALSE NEIGHBOUR: 'it returns false'. Refute it at one input. -/
def classTellsWrong : ChangeSpec := { name := "classTells", fn := fun _ => fun
  | [d] => { results := [.lit (.bool false)], args := [d] }
  | _ => none }
def ClassTellsWrongFalsely : Prop := classTellsRow.holds Try.pinned (OpenSpec.ofChange classTellsWrong)

/-- 'exerguelaw02.ClassRows': WHATEVER THE INPUT: true; the input reads as it did. -/
def classRowsSpec : ChangeSpec := { name := "classRows", fn := fun _ => fun
  | [d] => { results := [.lit (.bool true)], args := [d] }
  | _ => none }
def classRowsRow : OpenClaim := { program := "ytgdefjcjikcofaa", sum := "0902c8dc17edc74b7a29d5cca73cea24b377a0653deb046476c38182dc3d0ac9", func := "exergue/exerguelaw02.ClassRows", spec := "classRows", unfollowed := true, recurses := true, plainKeys := false, apart := false }
def ClassRowsSaid : Prop := classRowsRow.holds Try.pinned (OpenSpec.ofChange classRowsSpec)

/-- ITS FALSE NEIGHBOUR: 'it returns false'. Refute it at one input. -/
def classRowsWrong : ChangeSpec := { name := "classRows", fn := fun _ => fun
  | [d] => { results := [.lit (.bool false)], args := [d] }
  | _ => none }
def ClassRowsWrongFalsely : Prop := classRowsRow.holds Try.pinned (OpenSpec.ofChange classRowsWrong)

/-- 'exerguelaw02.ClassBlocks': WHATEVER THE INPUT: true; the input reads as it did. -/
def classBlocksSpec : ChangeSpec := { name := "classBlocks", fn := fun _ => fun
  | [d] => { results := [.lit (.bool true)], args := [d] }
  | _ => none }
def classBlocksRow : OpenClaim := { program := "ytgdefjcjikcofaa", sum := "0902c8dc17edc74b7a29d5cca73cea24b377a0653deb046476c38182dc3d0ac9", func := "exergue/exerguelaw02.ClassBlocks", spec := "classBlocks", unfollowed := true, recurses := true, plainKeys := false, apart := false }
def ClassBlocksSaid : Prop := classBlocksRow.holds Try.pinned (OpenSpec.ofChange classBlocksSpec)

/-- ITS FALSE NEIGHBOUR: 'it returns false'. Refute it at one input. -/
def classBlocksWrong : ChangeSpec := { name := "classBlocks", fn := fun _ => fun
  | [d] => { results := [.lit (.bool false)], args := [d] }
  | _ => none }
def ClassBlocksWrongFalsely : Prop := classBlocksRow.holds Try.pinned (OpenSpec.ofChange classBlocksWrong)

/-- 'exerguelaw02.ClassJoins': WHATEVER THE INPUT: true; the input reads as it did. -/
def classJoinsSpec : ChangeSpec := { name := "classJoins", fn := fun _ => fun
  | [d1, d2, d3] => { results := [.lit (.bool true)], args := [d1, d2, d3] }
  | _ => none }
def classJoinsRow : OpenClaim := { program := "ytgdefjcjikcofaa", sum := "0902c8dc17edc74b7a29d5cca73cea24b377a0653deb046476c38182dc3d0ac9", func := "exergue/exerguelaw02.ClassJoins", spec := "classJoins", unfollowed := true, recurses := true, plainKeys := false, apart := false }
def ClassJoinsSaid : Prop := classJoinsRow.holds Try.pinned (OpenSpec.ofChange classJoinsSpec)

/-- ITS FALSE NEIGHBOUR: 'it returns false'. Refute it at one input. -/
def classJoinsWrong : ChangeSpec := { name := "classJoins", fn := fun _ => fun
  | [d1, d2, d3] => { results := [.lit (.bool false)], args := [d1, d2, d3] }
  | _ => none }
def ClassJoinsWrongFalsely : Prop := classJoinsRow.holds Try.pinned (OpenSpec.ofChange classJoinsWrong)

/-- 'exerguelaw02.ClassWhole': WHATEVER THE INPUT: true; the input reads as it did. -/
def classWholeSpec : ChangeSpec := { name := "classWhole", fn := fun _ => fun
  | [d1, d2, d3] => { results := [.lit (.bool true)], args := [d1, d2, d3] }
  | _ => none }
def classWholeRow : OpenClaim := { program := "ytgdefjcjikcofaa", sum := "0902c8dc17edc74b7a29d5cca73cea24b377a0653deb046476c38182dc3d0ac9", func := "exergue/exerguelaw02.ClassWhole", spec := "classWhole", unfollowed := true, recurses := true, plainKeys := false, apart := false }
def ClassWholeSaid : Prop := classWholeRow.holds Try.pinned (OpenSpec.ofChange classWholeSpec)

/-- ITS FALSE NEIGHBOUR: 'it returns false'. Refute it at one input. -/
def classWholeWrong : ChangeSpec := { name := "classWhole", fn := fun _ => fun
  | [d1, d2, d3] => { results := [.lit (.bool false)], args := [d1, d2, d3] }
  | _ => none }
def ClassWholeWrongFalsely : Prop := classWholeRow.holds Try.pinned (OpenSpec.ofChange classWholeWrong)

/-- 'exerguelaw02.ClassTurns': WHATEVER THE INPUT: true; the input reads as it did. -/
def classTurnsSpec : ChangeSpec := { name := "classTurns", fn := fun _ => fun
  | [d1, d2, d3] => { results := [.lit (.bool true)], args := [d1, d2, d3] }
  | _ => none }
def classTurnsRow : OpenClaim := { program := "ytgdefjcjikcofaa", sum := "0902c8dc17edc74b7a29d5cca73cea24b377a0653deb046476c38182dc3d0ac9", func := "exergue/exerguelaw02.ClassTurns", spec := "classTurns", unfollowed := true, recurses := true, plainKeys := false, apart := false }
def ClassTurnsSaid : Prop := classTurnsRow.holds Try.pinned (OpenSpec.ofChange classTurnsSpec)

/-- ITS FALSE NEIGHBOUR: 'it returns false'. Refute it at one input. -/
def classTurnsWrong : ChangeSpec := { name := "classTurns", fn := fun _ => fun
  | [d1, d2, d3] => { results := [.lit (.bool false)], args := [d1, d2, d3] }
  | _ => none }
def ClassTurnsWrongFalsely : Prop := classTurnsRow.holds Try.pinned (OpenSpec.ofChange classTurnsWrong)

/- THE SECOND FORM. 'bulk': how many values and letters a reading holds, each counted each time it is reached (what is shared counts as often as it is met; a slice's spare places count too). A statement '..UptoSaid' is the law's where the arguments, and the package variables that the reading takes, are together of bulk at most 1048576: NARROWER than '..Said'. Prove '..Said' where nothing that the law and all that it calls make is longer than what came in: it says more and counts as full. Else prove '..UptoSaid'. A law counts once. -/
mutual
def uptoBulk {H : Type} : DataW H → Nat
  | .lit (.string bytes) => bytes.length + 1
  | .lit _ => 1
  | .nil => 1
  | .ptr d => uptoBulk d + 1
  | .slice elems spare => uptoBulkAll elems + uptoBulkAll spare + 1
  | .agg parts => uptoBulkAll parts + 1
  | .iface _ d => uptoBulk d + 1
  | .map entries => uptoBulkEntries entries + 1
  | .held _ => 1
def uptoBulkAll {H : Type} : List (DataW H) → Nat
  | [] => 0
  | d :: r => uptoBulk d + uptoBulkAll r
def uptoBulkEntries {H : Type} : List (Lit × DataW H) → Nat
  | [] => 0
  | x :: r => uptoBulkEntry x + uptoBulkEntries r
def uptoBulkEntry {H : Type} : Lit × DataW H → Nat
  | (.string bytes, d) => bytes.length + uptoBulk d + 1
  | (_, d) => uptoBulk d + 1
 end
def uptoSmall : (H : Type) → List (DataW H) → Bool := fun _ ds => decide (uptoBulkAll ds ≤ 1048576)
def OpenSpec.upto (s : _root_.Go.ChangeSpec) : _root_.Go.OpenSpec := { _root_.Go.OpenSpec.ofChange s with cond := some uptoSmall }

/-- 'exerguelaw02.ClassTells', WHERE WHAT IT READS IS OF BULK AT MOST 1048576: true; the input reads as it did. -/
def classTellsUptoRow : OpenClaim := { program := "ytgdefjcjikcofaa", sum := "0902c8dc17edc74b7a29d5cca73cea24b377a0653deb046476c38182dc3d0ac9", func := "exergue/exerguelaw02.ClassTells", spec := "classTells", unfollowed := true, recurses := true, plainKeys := false, apart := false, narrowed := true }
def ClassTellsUptoSaid : Prop := classTellsUptoRow.holds Try.pinned (OpenSpec.upto classTellsSpec)

/-- 'exerguelaw02.ClassRows', WHERE WHAT IT READS IS OF BULK AT MOST 1048576: true; the input reads as it did. -/
def classRowsUptoRow : OpenClaim := { program := "ytgdefjcjikcofaa", sum := "0902c8dc17edc74b7a29d5cca73cea24b377a0653deb046476c38182dc3d0ac9", func := "exergue/exerguelaw02.ClassRows", spec := "classRows", unfollowed := true, recurses := true, plainKeys := false, apart := false, narrowed := true }
def ClassRowsUptoSaid : Prop := classRowsUptoRow.holds Try.pinned (OpenSpec.upto classRowsSpec)

/-- 'exerguelaw02.ClassBlocks', WHERE WHAT IT READS IS OF BULK AT MOST 1048576: true; the input reads as it did. -/
def classBlocksUptoRow : OpenClaim := { program := "ytgdefjcjikcofaa", sum := "0902c8dc17edc74b7a29d5cca73cea24b377a0653deb046476c38182dc3d0ac9", func := "exergue/exerguelaw02.ClassBlocks", spec := "classBlocks", unfollowed := true, recurses := true, plainKeys := false, apart := false, narrowed := true }
def ClassBlocksUptoSaid : Prop := classBlocksUptoRow.holds Try.pinned (OpenSpec.upto classBlocksSpec)

/-- 'exerguelaw02.ClassJoins', WHERE WHAT IT READS IS OF BULK AT MOST 1048576: true; the input reads as it did. -/
def classJoinsUptoRow : OpenClaim := { program := "ytgdefjcjikcofaa", sum := "0902c8dc17edc74b7a29d5cca73cea24b377a0653deb046476c38182dc3d0ac9", func := "exergue/exerguelaw02.ClassJoins", spec := "classJoins", unfollowed := true, recurses := true, plainKeys := false, apart := false, narrowed := true }
def ClassJoinsUptoSaid : Prop := classJoinsUptoRow.holds Try.pinned (OpenSpec.upto classJoinsSpec)

/-- 'exerguelaw02.ClassWhole', WHERE WHAT IT READS IS OF BULK AT MOST 1048576: true; the input reads as it did. -/
def classWholeUptoRow : OpenClaim := { program := "ytgdefjcjikcofaa", sum := "0902c8dc17edc74b7a29d5cca73cea24b377a0653deb046476c38182dc3d0ac9", func := "exergue/exerguelaw02.ClassWhole", spec := "classWhole", unfollowed := true, recurses := true, plainKeys := false, apart := false, narrowed := true }
def ClassWholeUptoSaid : Prop := classWholeUptoRow.holds Try.pinned (OpenSpec.upto classWholeSpec)

/-- 'exerguelaw02.ClassTurns', WHERE WHAT IT READS IS OF BULK AT MOST 1048576: true; the input reads as it did. -/
def classTurnsUptoRow : OpenClaim := { program := "ytgdefjcjikcofaa", sum := "0902c8dc17edc74b7a29d5cca73cea24b377a0653deb046476c38182dc3d0ac9", func := "exergue/exerguelaw02.ClassTurns", spec := "classTurns", unfollowed := true, recurses := true, plainKeys := false, apart := false, narrowed := true }
def ClassTurnsUptoSaid : Prop := classTurnsUptoRow.holds Try.pinned (OpenSpec.upto classTurnsSpec)

end Rows
end Go.Proofs.Ytgdefjcjikcofaa
