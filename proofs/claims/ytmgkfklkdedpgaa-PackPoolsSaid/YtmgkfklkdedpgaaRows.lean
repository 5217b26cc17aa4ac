/-
  No cell of these rows narrows 'for every input' (looked for: loops, veiled, ifaces, maps, wideKeys, modest, calm, conditions, laid).
  DERIVED. THE GIVEN ROWS OF THIS SEAT. 7 by the template 'for every input the law returns true; each argument reads behind the call as it read before'; 0 by the template 'total and deterministic' (their statements: YtmgkfklkdedpgaaTotals.lean).
  GIVEN WITH THE SEED: the statements are not yours to turn. If you find one false, say at which input.
  Laid BY PROGRAM, IN A SANDBOX (cutbox-rows.mjs): the forced cells as the released guide's own fill.sh prints them over the translation 83758a3311166344… (all of the seat's roots in one cut). By AI agents, Wed Nov 11 2026. No macro, syntax, notation, axiom, sorry.
-/
import Derived.Test.YtmgkfklkdedpgaaChecked
import GoSem.Claim
import GoSem.ClaimJoined
import GoSem.ClaimMapViews
import Derived.JoinedTies
import Derived.KernelRfl
namespace Go.Proofs.Ytmgkfklkdedpgaa
/- THE CELL 'sum', in the pinned program and in every row, IS THE sha256 OF THE DUMP (.gsa) THAT YtmgkfklkdedpgaaProg.lean LOADS. Nothing in Lean hashes anything: it is a label: what it is worth is what the hold of that sum in a sandbox is worth. -/
noncomputable def Try.pinned : Pinned := { name := "ytmgkfklkdedpgaa", sum := "83758a33111663449841848c5d99cc2f0948624a8ea9de1686c66f7872293e39", checked := Try.checked }
namespace Rows
def none {H : Type} : Left H := { results := [], args := [] }

/-- 'exerguelaw09.PackNumbers': WHATEVER THE INPUT: true; the input reads as it did. -/
def packNumbersSpec : ChangeSpec := { name := "packNumbers", fn := fun _ => fun
  | [d] => { results := [.lit (.bool true)], args := [d] }
  | _ => none }
def packNumbersRow : OpenClaim := { program := "ytmgkfklkdedpgaa", sum := "83758a33111663449841848c5d99cc2f0948624a8ea9de1686c66f7872293e39", func := "exergue/exerguelaw09.PackNumbers", spec := "packNumbers", plainKeys := false, apart := false }
def PackNumbersSaid : Prop := packNumbersRow.holds Try.pinned (OpenSpec.ofChange packNumbersSpec)

/-- ITS FALSE NEIGHBOUR: 'it returns false'. Refute it at one input. -/
def packNumbersWrong : ChangeSpec := { name := "packNumbers", fn := fun _ => fun
  | [d] => { results := [.lit (.bool false)], args := [d] }
  | _ => none }
def PackNumbersWrongFalsely : Prop := packNumbersRow.holds Try.pinned (OpenSpec.ofChange packNumbersWrong)

/-- 'exerguelaw09.PackRow': WHATEVER THE INPUT: true; the input reads as it did. -/
def packRowSpec : ChangeSpec := { name := "packRow", fn := fun _ => fun
  | [d1, d2] => { results := [.lit (.bool true)], args := [d1, d2] }
  | _ => none }
def packRowRow : OpenClaim := { program := "ytmgkfklkdedpgaa", sum := "83758a33111663449841848c5d99cc2f0948624a8ea9de1686c66f7872293e39", func := "exergue/exerguelaw09.PackRow", spec := "packRow", plainKeys := false, apart := false }
def PackRowSaid : Prop := packRowRow.holds Try.pinned (OpenSpec.ofChange packRowSpec)

/-- ITS FALSE NEIGHBOUR: 'it returns false'. Refute it at one input. -/
def packRowWrong : ChangeSpec := { name := "packRow", fn := fun _ => fun
  | [d1, d2] => { results := [.lit (.bool false)], args := [d1, d2] }
  | _ => none }
def PackRowWrongFalsely : Prop := packRowRow.holds Try.pinned (OpenSpec.ofChange packRowWrong)

/-- 'exerguelaw09.PackTexts': WHATEVER THE INPUT: true; the input reads as it did. -/
def packTextsSpec : ChangeSpec := { name := "packTexts", fn := fun _ => fun
  | [d1, d2] => { results := [.lit (.bool true)], args := [d1, d2] }
  | _ => none }
def packTextsRow : OpenClaim := { program := "ytmgkfklkdedpgaa", sum := "83758a33111663449841848c5d99cc2f0948624a8ea9de1686c66f7872293e39", func := "exergue/exerguelaw09.PackTexts", spec := "packTexts", plainKeys := false, apart := false }
def PackTextsSaid : Prop := packTextsRow.holds Try.pinned (OpenSpec.ofChange packTextsSpec)

/-- ITS FALSE NEIGHBOUR: 'it returns false'. Refute it at one input. -/
def packTextsWrong : ChangeSpec := { name := "packTexts", fn := fun _ => fun
  | [d1, d2] => { results := [.lit (.bool false)], args := [d1, d2] }
  | _ => none }
def PackTextsWrongFalsely : Prop := packTextsRow.holds Try.pinned (OpenSpec.ofChange packTextsWrong)

/-- 'exerguelaw09.PackSpreads': WHATEVER THE INPUT: true; the input reads as it did. -/
def packSpreadsSpec : ChangeSpec := { name := "packSpreads", fn := fun _ => fun
  | [d1, d2] => { results := [.lit (.bool true)], args := [d1, d2] }
  | _ => none }
def packSpreadsRow : OpenClaim := { program := "ytmgkfklkdedpgaa", sum := "83758a33111663449841848c5d99cc2f0948624a8ea9de1686c66f7872293e39", func := "exergue/exerguelaw09.PackSpreads", spec := "packSpreads", plainKeys := false, apart := false }
def PackSpreadsSaid : Prop := packSpreadsRow.holds Try.pinned (OpenSpec.ofChange packSpreadsSpec)

/-- ITS FALSE NEIGHBOUR: 'it returns false'. Refute it at one input. -/
def packSpreadsWrong : ChangeSpec := { name := "packSpreads", fn := fun _ => fun
  | [d1, d2] => { results := [.lit (.bool false)], args := [d1, d2] }
  | _ => none }
def PackSpreadsWrongFalsely : Prop := packSpreadsRow.holds Try.pinned (OpenSpec.ofChange packSpreadsWrong)

/-- 'exerguelaw09.PackPools': WHATEVER THE INPUT: true; the input reads as it did. -/
def packPoolsSpec : ChangeSpec := { name := "packPools", fn := fun _ => fun
  | [d1, d2, d3] => { results := [.lit (.bool true)], args := [d1, d2, d3] }
  | _ => none }
def packPoolsRow : OpenClaim := { program := "ytmgkfklkdedpgaa", sum := "83758a33111663449841848c5d99cc2f0948624a8ea9de1686c66f7872293e39", func := "exergue/exerguelaw09.PackPools", spec := "packPools", unfollowed := true, recurses := true, plainKeys := false, apart := false }
def PackPoolsSaid : Prop := packPoolsRow.holds Try.pinned (OpenSpec.ofChange packPoolsSpec)

/-- ITS FALSE NEIGHBOUR: 'it returns false'. Refute it at one input. -/
def packPoolsWrong : ChangeSpec := { name := "packPools", fn := fun _ => fun
  | [d1, d2, d3] => { results := [.lit (.bool false)], args := [d1, d2, d3] }
  | _ => none }
def PackPoolsWrongFalsely : Prop := packPoolsRow.holds Try.pinned (OpenSpec.ofChange packPoolsWrong)

/-- 'exerguelaw09.PackTaken': WHATEVER THE INPUT: true; the input reads as it did. -/
def packTakenSpec : ChangeSpec := { name := "packTaken", fn := fun _ => fun
  | [d1, d2, d3] => { results := [.lit (.bool true)], args := [d1, d2, d3] }
  | _ => none }
def packTakenRow : OpenClaim := { program := "ytmgkfklkdedpgaa", sum := "83758a33111663449841848c5d99cc2f0948624a8ea9de1686c66f7872293e39", func := "exergue/exerguelaw09.PackTaken", spec := "packTaken", unfollowed := true, recurses := true, plainKeys := false, apart := false }
def PackTakenSaid : Prop := packTakenRow.holds Try.pinned (OpenSpec.ofChange packTakenSpec)

/-- ITS FALSE NEIGHBOUR: 'it returns false'. Refute it at one input. -/
def packTakenWrong : ChangeSpec := { name := "packTaken", fn := fun _ => fun
  | [d1, d2, d3] => { results := [.lit (.bool false)], args := [d1, d2, d3] }
  | _ => none }
def PackTakenWrongFalsely : Prop := packTakenRow.holds Try.pinned (OpenSpec.ofChange packTakenWrong)

/-- 'exerguelaw09.PackBack': WHATEVER THE INPUT: true; the input reads as it did. -/
def packBackSpec : ChangeSpec := { name := "packBack", fn := fun _ => fun
  | [d] => { results := [.lit (.bool true)], args := [d] }
  | _ => none }
def packBackRow : OpenClaim := { program := "ytmgkfklkdedpgaa", sum := "83758a33111663449841848c5d99cc2f0948624a8ea9de1686c66f7872293e39", func := "exergue/exerguelaw09.PackBack", spec := "packBack", unfollowed := true, recurses := true, plainKeys := false, apart := false }
def PackBackSaid : Prop := packBackRow.holds Try.pinned (OpenSpec.ofChange packBackSpec)

/-- ITS FALSE NEIGHBOUR: 'it returns false'. Refute it at one input. -/
def packBackWrong : ChangeSpec := { name := "packBack", fn := fun _ => fun
  | [d] => { results := [.lit (.bool false)], args := [d] }
  | _ => none }
def PackBackWrongFalsely : Prop := packBackRow.holds Try.pinned (OpenSpec.ofChange packBackWrong)

/- THE SECOND FORM. 'bulk': how many values and letters a reading holds, each counted each time it is reached (what is shared counts as often as it is met; a slice's spare places count too). A statement '..UptoSaid' is the law's where the arguments, and the package variables that the reading takes, are together of bulk at most 1048576: NARROWER than '..Said'. Prove '..Said' where nothing that the law and all that it calls make is longer than what came in: it says more and counts as full. Else prove '..UptoSaid'. A law counts once. -/
mutual
def uptoBulk {H : Type} : DataW H → Nat
  | .lit (.string bytes) => bytes.length + 1
  | .lit _ => 1
  | .nil => 1
  | .ptr d => uptoBulk d + 1
  | .slice elems spare => uptoBulkAll elems + uptoBulkAll spare + 1
  | .agg parts => uptoBulkAll parts + 1
  | .iface _ d => uptoBulk d + 1
  | .map entries => uptoBulkEntries entries + 1
  | .held _ => 1
def uptoBulkAll {H : Type} : List (DataW H) → Nat
  | [] => 0
  | d :: r => uptoBulk d + uptoBulkAll r
def uptoBulkEntries {H : Type} : List (Lit × DataW H) → Nat
  | [] => 0
  | x :: r => uptoBulkEntry x + uptoBulkEntries r
def uptoBulkEntry {H : Type} : Lit × DataW H → Nat
  | (.string bytes, d) => bytes.length + uptoBulk d + 1
  | (_, d) => uptoBulk d + 1
 end
def uptoSmall : (H : Type) → List (DataW H) → Bool := fun _ ds => decide (uptoBulkAll ds ≤ 1048576)
def OpenSpec.upto (s : _root_.Go.ChangeSpec) : _root_.Go.OpenSpec := { _root_.Go.OpenSpec.ofChange s with cond := some uptoSmall }

/-- 'exerguelaw09.PackNumbers', WHERE WHAT IT READS IS OF BULK AT MOST 1048576: true; the input reads as it did. -/
def packNumbersUptoRow : OpenClaim := { program := "ytmgkfklkdedpgaa", sum := "83758a33111663449841848c5d99cc2f0948624a8ea9de1686c66f7872293e39", func := "exergue/exerguelaw09.PackNumbers", spec := "packNumbers", plainKeys := false, apart := false, narrowed := true }
def PackNumbersUptoSaid : Prop := packNumbersUptoRow.holds Try.pinned (OpenSpec.upto packNumbersSpec)

/-- 'exerguelaw09.PackRow', WHERE WHAT IT READS IS OF BULK AT MOST 1048576: true; the input reads as it did. -/
def packRowUptoRow : OpenClaim := { program := "ytmgkfklkdedpgaa", sum := "83758a33111663449841848c5d99cc2f0948624a8ea9de1686c66f7872293e39", func := "exergue/exerguelaw09.PackRow", spec := "packRow", plainKeys := false, apart := false, narrowed := true }
def PackRowUptoSaid : Prop := packRowUptoRow.holds Try.pinned (OpenSpec.upto packRowSpec)

/-- 'exerguelaw09.PackTexts', WHERE WHAT IT READS IS OF BULK AT MOST 1048576: true; the input reads as it did. -/
def packTextsUptoRow : OpenClaim := { program := "ytmgkfklkdedpgaa", sum := "83758a33111663449841848c5d99cc2f0948624a8ea9de1686c66f7872293e39", func := "exergue/exerguelaw09.PackTexts", spec := "packTexts", plainKeys := false, apart := false, narrowed := true }
def PackTextsUptoSaid : Prop := packTextsUptoRow.holds Try.pinned (OpenSpec.upto packTextsSpec)

/-- 'exerguelaw09.PackSpreads', WHERE WHAT IT READS IS OF BULK AT MOST 1048576: true; the input reads as it did. -/
def packSpreadsUptoRow : OpenClaim := { program := "ytmgkfklkdedpgaa", sum := "83758a33111663449841848c5d99cc2f0948624a8ea9de1686c66f7872293e39", func := "exergue/exerguelaw09.PackSpreads", spec := "packSpreads", plainKeys := false, apart := false, narrowed := true }
def PackSpreadsUptoSaid : Prop := packSpreadsUptoRow.holds Try.pinned (OpenSpec.upto packSpreadsSpec)

/-- 'exerguelaw09.PackPools', WHERE WHAT IT READS IS OF BULK AT MOST 1048576: true; the input reads as it did. -/
def packPoolsUptoRow : OpenClaim := { program := "ytmgkfklkdedpgaa", sum := "83758a33111663449841848c5d99cc2f0948624a8ea9de1686c66f7872293e39", func := "exergue/exerguelaw09.PackPools", spec := "packPools", unfollowed := true, recurses := true, plainKeys := false, apart := false, narrowed := true }
def PackPoolsUptoSaid : Prop := packPoolsUptoRow.holds Try.pinned (OpenSpec.upto packPoolsSpec)

/-- 'exerguelaw09.PackTaken', WHERE WHAT IT READS IS OF BULK AT MOST 1048576: true; the input reads as it did. -/
def packTakenUptoRow : OpenClaim := { program := "ytmgkfklkdedpgaa", sum := "83758a33111663449841848c5d99cc2f0948624a8ea9de1686c66f7872293e39", func := "exergue/exerguelaw09.PackTaken", spec := "packTaken", unfollowed := true, recurses := true, plainKeys := false, apart := false, narrowed := true }
def PackTakenUptoSaid : Prop := packTakenUptoRow.holds Try.pinned (OpenSpec.upto packTakenSpec)

/-- 'exerguelaw09.PackBack', WHERE WHAT IT READS IS OF BULK AT MOST 1048576: true; the input reads as it did. -/
def packBackUptoRow : OpenClaim := { program := "ytmgkfklkdedpgaa", sum := "83758a33111663449841848c5d99cc2f0948624a8ea9de1686c66f7872293e39", func := "exergue/exerguelaw09.PackBack", spec := "packBack", unfollowed := true, recurses := true, plainKeys := false, apart := false, narrowed := true }
def PackBackUptoSaid : Prop := packBackUptoRow.holds Try.pinned (OpenSpec.upto packBackSpec)

end Rows
end Go.Proofs.Ytmgkfklkdedpgaa
