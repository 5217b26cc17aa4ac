/-
  No cell of these rows narrows 'for every input' (looked for: loops, veiled, ifaces, maps, wideKeys, modest, calm, conditions, laid).
  DERIVED. THE GIVEN ROWS OF THIS SEAT. 5 by the template 'for every input the law returns true; each argument reads behind the call as it read before'; 0 by the template 'total and deterministic' (their statements: YtlmgpjeienhihaaTotals.lean).
  GIVEN WITH THE SEED: the statements are not yours to turn. If you find one false, say at which input.
  Laid BY PROGRAM, IN A SANDBOX (cutbox-rows.mjs): the forced cells as the released guide's own fill.sh prints them over the translation ebf0cd638735b6e3… (all of the seat's roots in one cut). By AI agents, Wed Nov 11 2026. No macro, syntax, notation, axiom, sorry.
-/
import Derived.Test.YtlmgpjeienhihaaChecked
import GoSem.Claim
import GoSem.ClaimJoined
import GoSem.ClaimMapViews
import Derived.JoinedTies
import Derived.KernelRfl
namespace Go.Proofs.Ytlmgpjeienhihaa
/- THE CELL 'sum', in the pinned program and in every row, IS THE sha256 OF THE DUMP (.gsa) THAT YtlmgpjeienhihaaProg.lean LOADS. Nothing in Lean hashes anything: it is a label: what it is worth is what the hold of that sum in a sandbox is worth. -/
noncomputable def Try.pinned : Pinned := { name := "ytlmgpjeienhihaa", sum := "ebf0cd638735b6e3a102ea2375e2cdff623ad2104d15bb6dfb065d957548d756", checked := Try.checked }
namespace Rows
def none {H : Type} : Left H := { results := [], args := [] }

/-- 'exerguelaw04.TankParts': WHATEVER THE INPUT: true; the input reads as it did. -/
def tankPartsSpec : ChangeSpec := { name := "tankParts", fn := fun _ => fun
  | [d1, d2, d3] => { results := [.lit (.bool true)], args := [d1, d2, d3] }
  | _ => none }
def tankPartsRow : OpenClaim := { program := "ytlmgpjeienhihaa", sum := "ebf0cd638735b6e3a102ea2375e2cdff623ad2104d15bb6dfb065d957548d756", func := "exergue/exerguelaw04.TankParts", spec := "tankParts", apart := false }
def TankPartsSaid : Prop := tankPartsRow.holds Try.pinned (OpenSpec.ofChange tankPartsSpec)

/-- ITS FALSE NEIGHBOUR: 'it returns false'. Refute it at one input. -/
def tankPartsWrong : ChangeSpec := { name := "tankParts", fn := fun _ => fun
  | [d1, d2, d3] => { results := [.lit (.bool false)], args := [d1, d2, d3] }
  | _ => none }
def TankPartsWrongFalsely : Prop := tankPartsRow.holds Try.pinned (OpenSpec.ofChange tankPartsWrong)

/-- 'exerguelaw04.TankCounts': WHATEVER THE INPUT: true; the input reads as it did. -/
def tankCountsSpec : ChangeSpec := { name := "tankCounts", fn := fun _ => fun
  | [d1, d2] => { results := [.lit (.bool true)], args := [d1, d2] }
  | _ => none }
def tankCountsRow : OpenClaim := { program := "ytlmgpjeienhihaa", sum := "ebf0cd638735b6e3a102ea2375e2cdff623ad2104d15bb6dfb065d957548d756", func := "exergue/exerguelaw04.TankCounts", spec := "tankCounts", apart := false }
def TankCountsSaid : Prop := tankCountsRow.holds Try.pinned (OpenSpec.ofChange tankCountsSpec)

/-- ITS FALSE NEIGHBOUR: 'it returns false'. Refute it at one input. -/
def tankCountsWrong : ChangeSpec := { name := "tankCounts", fn := fun _ => fun
  | [d1, d2] => { results := [.lit (.bool false)], args := [d1, d2] }
  | _ => none }
def TankCountsWrongFalsely : Prop := tankCountsRow.holds Try.pinned (OpenSpec.ofChange tankCountsWrong)

/-- 'exerguelaw04.TankBurns': WHATEVER THE INPUT: true; the input reads as it did. -/
def tankBurnsSpec : ChangeSpec := { name := "tankBurns", fn := fun _ => fun
  | [d1, d2, d3] => { results := [.lit (.bool true)], args := [d1, d2, d3] }
  | _ => none }
def tankBurnsRow : OpenClaim := { program := "ytlmgpjeienhihaa", sum := "ebf0cd638735b6e3a102ea2375e2cdff623ad2104d15bb6dfb065d957548d756", func := "exergue/exerguelaw04.TankBurns", spec := "tankBurns", apart := false }
def TankBurnsSaid : Prop := tankBurnsRow.holds Try.pinned (OpenSpec.ofChange tankBurnsSpec)

/-- ITS FALSE NEIGHBOUR: 'it returns false'. Refute it at one input. -/
def tankBurnsWrong : ChangeSpec := { name := "tankBurns", fn := fun _ => fun
  | [d1, d2, d3] => { results := [.lit (.bool false)], args := [d1, d2, d3] }
  | _ => none }
def TankBurnsWrongFalsely : Prop := tankBurnsRow.holds Try.pinned (OpenSpec.ofChange tankBurnsWrong)

/-- 'exerguelaw04.TankNone': WHATEVER THE INPUT: true; the input reads as it did. -/
def tankNoneSpec : ChangeSpec := { name := "tankNone", fn := fun _ => fun
  | [d1, d2, d3] => { results := [.lit (.bool true)], args := [d1, d2, d3] }
  | _ => none }
def tankNoneRow : OpenClaim := { program := "ytlmgpjeienhihaa", sum := "ebf0cd638735b6e3a102ea2375e2cdff623ad2104d15bb6dfb065d957548d756", func := "exergue/exerguelaw04.TankNone", spec := "tankNone", apart := false }
def TankNoneSaid : Prop := tankNoneRow.holds Try.pinned (OpenSpec.ofChange tankNoneSpec)

/-- ITS FALSE NEIGHBOUR: 'it returns false'. Refute it at one input. -/
def tankNoneWrong : ChangeSpec := { name := "tankNone", fn := fun _ => fun
  | [d1, d2, d3] => { results := [.lit (.bool false)], args := [d1, d2, d3] }
  | _ => none }
def TankNoneWrongFalsely : Prop := tankNoneRow.holds Try.pinned (OpenSpec.ofChange tankNoneWrong)

/-- 'exerguelaw04.TankFull': WHATEVER THE INPUT: true; the input reads as it did. -/
def tankFullSpec : ChangeSpec := { name := "tankFull", fn := fun _ => fun
  | [d1, d2] => { results := [.lit (.bool true)], args := [d1, d2] }
  | _ => none }
def tankFullRow : OpenClaim := { program := "ytlmgpjeienhihaa", sum := "ebf0cd638735b6e3a102ea2375e2cdff623ad2104d15bb6dfb065d957548d756", func := "exergue/exerguelaw04.TankFull", spec := "tankFull", apart := false }
def TankFullSaid : Prop := tankFullRow.holds Try.pinned (OpenSpec.ofChange tankFullSpec)

/-- ITS FALSE NEIGHBOUR: 'it returns false'. Refute it at one input. -/
def tankFullWrong : ChangeSpec := { name := "tankFull", fn := fun _ => fun
  | [d1, d2] => { results := [.lit (.bool false)], args := [d1, d2] }
  | _ => none }
def TankFullWrongFalsely : Prop := tankFullRow.holds Try.pinned (OpenSpec.ofChange tankFullWrong)

/- THE SECOND FORM. 'bulk': how many values and letters a reading holds, each counted each time it is reached (what is shared counts as often as it is met; a slice's spare places count too). A statement '..UptoSaid' is the law's where the arguments, and the package variables that the reading takes, are together of bulk at most 1048576: NARROWER than '..Said'. Prove '..Said' where nothing that the law and all that it calls make is longer than what came in: it says more and counts as full. Else prove '..UptoSaid'. A law counts once. -/
mutual
def uptoBulk {H : Type} : DataW H → Nat
  | .lit (.string bytes) => bytes.length + 1
  | .lit _ => 1
  | .nil => 1
  | .ptr d => uptoBulk d + 1
  | .slice elems spare => uptoBulkAll elems + uptoBulkAll spare + 1
  | .agg parts => uptoBulkAll parts + 1
  | .iface _ d => uptoBulk d + 1
  | .map entries => uptoBulkEntries entries + 1
  | .held _ => 1
def uptoBulkAll {H : Type} : List (DataW H) → Nat
  | [] => 0
  | d :: r => uptoBulk d + uptoBulkAll r
def uptoBulkEntries {H : Type} : List (Lit × DataW H) → Nat
  | [] => 0
  | x :: r => uptoBulkEntry x + uptoBulkEntries r
def uptoBulkEntry {H : Type} : Lit × DataW H → Nat
  | (.string bytes, d) => bytes.length + uptoBulk d + 1
  | (_, d) => uptoBulk d + 1
 end
def uptoSmall : (H : Type) → List (DataW H) → Bool := fun _ ds => decide (uptoBulkAll ds ≤ 1048576)
def OpenSpec.upto (s : _root_.Go.ChangeSpec) : _root_.Go.OpenSpec := { _root_.Go.OpenSpec.ofChange s with cond := some uptoSmall }

/-- 'exerguelaw04.TankParts', WHERE WHAT IT READS IS OF BULK AT MOST 1048576: true; the input reads as it did. -/
def tankPartsUptoRow : OpenClaim := { program := "ytlmgpjeienhihaa", sum := "ebf0cd638735b6e3a102ea2375e2cdff623ad2104d15bb6dfb065d957548d756", func := "exergue/exerguelaw04.TankParts", spec := "tankParts", apart := false, narrowed := true }
def TankPartsUptoSaid : Prop := tankPartsUptoRow.holds Try.pinned (OpenSpec.upto tankPartsSpec)

/-- 'exerguelaw04.TankCounts', WHERE WHAT IT READS IS OF BULK AT MOST 1048576: true; the input reads as it did. -/
def tankCountsUptoRow : OpenClaim := { program := "ytlmgpjeienhihaa", sum := "ebf0cd638735b6e3a102ea2375e2cdff623ad2104d15bb6dfb065d957548d756", func := "exergue/exerguelaw04.TankCounts", spec := "tankCounts", apart := false, narrowed := true }
def TankCountsUptoSaid : Prop := tankCountsUptoRow.holds Try.pinned (OpenSpec.upto tankCountsSpec)

/-- 'exerguelaw04.TankBurns', WHERE WHAT IT READS IS OF BULK AT MOST 1048576: true; the input reads as it did. -/
def tankBurnsUptoRow : OpenClaim := { program := "ytlmgpjeienhihaa", sum := "ebf0cd638735b6e3a102ea2375e2cdff623ad2104d15bb6dfb065d957548d756", func := "exergue/exerguelaw04.TankBurns", spec := "tankBurns", apart := false, narrowed := true }
def TankBurnsUptoSaid : Prop := tankBurnsUptoRow.holds Try.pinned (OpenSpec.upto tankBurnsSpec)

/-- 'exerguelaw04.TankNone', WHERE WHAT IT READS IS OF BULK AT MOST 1048576: true; the input reads as it did. -/
def tankNoneUptoRow : OpenClaim := { program := "ytlmgpjeienhihaa", sum := "ebf0cd638735b6e3a102ea2375e2cdff623ad2104d15bb6dfb065d957548d756", func := "exergue/exerguelaw04.TankNone", spec := "tankNone", apart := false, narrowed := true }
def TankNoneUptoSaid : Prop := tankNoneUptoRow.holds Try.pinned (OpenSpec.upto tankNoneSpec)

/-- 'exerguelaw04.TankFull', WHERE WHAT IT READS IS OF BULK AT MOST 1048576: true; the input reads as it did. -/
def tankFullUptoRow : OpenClaim := { program := "ytlmgpjeienhihaa", sum := "ebf0cd638735b6e3a102ea2375e2cdff623ad2104d15bb6dfb065d957548d756", func := "exergue/exerguelaw04.TankFull", spec := "tankFull", apart := false, narrowed := true }
def TankFullUptoSaid : Prop := tankFullUptoRow.holds Try.pinned (OpenSpec.upto tankFullSpec)

end Rows
end Go.Proofs.Ytlmgpjeienhihaa
