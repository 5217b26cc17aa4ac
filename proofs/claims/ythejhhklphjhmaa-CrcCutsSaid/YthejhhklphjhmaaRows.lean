/-
  No cell of these rows narrows 'for every input' (looked for: loops, veiled, ifaces, maps, wideKeys, modest, calm, conditions, laid).
  DERIVED. THE GIVEN ROWS OF THIS SEAT. 7 by the template 'for every input the law returns true; each argument reads behind the call as it read before'; 0 by the template 'total and deterministic' (their statements: YthejhhklphjhmaaTotals.lean).
  GIVEN WITH THE SEED: the statements are not yours to turn. If you find one false, say at which input.
  Laid BY PROGRAM, IN A SANDBOX (cutbox-rows.mjs): the forced cells as the released guide's own fill.sh prints them over the translation 623a32029d44c485… (all of the seat's roots in one cut). By AI agents, Wed Nov 11 2026. No macro, syntax, notation, axiom, sorry.
-/
import Derived.Test.YthejhhklphjhmaaChecked
import GoSem.Claim
import GoSem.ClaimJoined
import GoSem.ClaimMapViews
import Derived.JoinedTies
import Derived.KernelRfl
namespace Go.Proofs.Ythejhhklphjhmaa
/- THE CELL 'sum', in the pinned program and in every row, IS THE sha256 OF THE DUMP (.gsa) THAT YthejhhklphjhmaaProg.lean LOADS. Nothing in Lean hashes anything: it is a label: what it is worth is what the hold of that sum in a sandbox is worth. -/
noncomputable def Try.pinned : Pinned := { name := "ythejhhklphjhmaa", sum := "623a32029d44c485bd4d7a461e3882aa0311b5d7767e421ff2761086483f65de", checked := Try.checked }
namespace Rows
def none {H : Type} : Left H := { results := [], args := [] }

/-- 'exerguelaw08.CrcTells': WHATEVER THE INPUT: true; the input reads as it did. -/
def crcTellsSpec : ChangeSpec := { name := "crcTells", fn := fun _ => fun
  | [d1, d2, d3] => { results := [.lit (.bool true)], args := [d1, d2, d3] }
  | _ => none }
def crcTellsRow : OpenClaim := { program := "ythejhhklphjhmaa", sum := "623a32029d44c485bd4d7a461e3882aa0311b5d7767e421ff2761086483f65de", func := "exergue/exerguelaw08.CrcTells", spec := "crcTells", unfollowed := true, recurses := true, apart := false }
def CrcTellsSaid : Prop := crcTellsRow.holds Try.pinned (OpenSpec.ofChange crcTellsSpec)

/-- ITS FALSE NEIGHBOUR: 'it returns false'. Refute it at one input. -/
def crcTellsWrong : ChangeSpec := { name := "crcTells", fn := fun _ => fun
  | [d1, d2, d3] => { results := [.lit (.bool false)], args := [d1, d2, d3] }
  | _ => none }
def CrcTellsWrongFalsely : Prop := crcTellsRow.holds Try.pinned (OpenSpec.ofChange crcTellsWrong)

/-- 'exerguelaw08.CrcOn': WHATEVER THE INPUT: true; the input reads as it did. -/
def crcOnSpec : ChangeSpec := { name := "crcOn", fn := fun _ => fun
  | [d1, d2] => { results := [.lit (.bool true)], args := [d1, d2] }
  | _ => none }
def crcOnRow : OpenClaim := { program := "ythejhhklphjhmaa", sum := "623a32029d44c485bd4d7a461e3882aa0311b5d7767e421ff2761086483f65de", func := "exergue/exerguelaw08.CrcOn", spec := "crcOn", unfollowed := true, recurses := true, apart := false }
def CrcOnSaid : Prop := crcOnRow.holds Try.pinned (OpenSpec.ofChange crcOnSpec)

/-- ITS FALSE NEIGHBOUR: 'it returns false'. Refute it at one input. -/
def crcOnWrong : ChangeSpec := { name := "crcOn", fn := fun _ => fun
  | [d1, d2] => { results := [.lit (.bool false)], args := [d1, d2] }
  | _ => none }
def CrcOnWrongFalsely : Prop := crcOnRow.holds Try.pinned (OpenSpec.ofChange crcOnWrong)

/-- 'exerguelaw08.CrcFinds': WHATEVER THE INPUT: true; the input reads as it did. -/
def crcFindsSpec : ChangeSpec := { name := "crcFinds", fn := fun _ => fun
  | [d1, d2, d3] => { results := [.lit (.bool true)], args := [d1, d2, d3] }
  | _ => none }
def crcFindsRow : OpenClaim := { program := "ythejhhklphjhmaa", sum := "623a32029d44c485bd4d7a461e3882aa0311b5d7767e421ff2761086483f65de", func := "exergue/exerguelaw08.CrcFinds", spec := "crcFinds", unfollowed := true, recurses := true, apart := false }
def CrcFindsSaid : Prop := crcFindsRow.holds Try.pinned (OpenSpec.ofChange crcFindsSpec)

/-- ITS FALSE NEIGHBOUR: 'it returns false'. Refute it at one input. -/
def crcFindsWrong : ChangeSpec := { name := "crcFinds", fn := fun _ => fun
  | [d1, d2, d3] => { results := [.lit (.bool false)], args := [d1, d2, d3] }
  | _ => none }
def CrcFindsWrongFalsely : Prop := crcFindsRow.holds Try.pinned (OpenSpec.ofChange crcFindsWrong)

/-- 'exerguelaw08.CrcSums': WHATEVER THE INPUT: true; the input reads as it did. -/
def crcSumsSpec : ChangeSpec := { name := "crcSums", fn := fun _ => fun
  | [d1, d2] => { results := [.lit (.bool true)], args := [d1, d2] }
  | _ => none }
def crcSumsRow : OpenClaim := { program := "ythejhhklphjhmaa", sum := "623a32029d44c485bd4d7a461e3882aa0311b5d7767e421ff2761086483f65de", func := "exergue/exerguelaw08.CrcSums", spec := "crcSums", unfollowed := true, recurses := true, apart := false }
def CrcSumsSaid : Prop := crcSumsRow.holds Try.pinned (OpenSpec.ofChange crcSumsSpec)

/-- ITS FALSE NEIGHBOUR: 'it returns false'. Refute it at one input. -/
def crcSumsWrong : ChangeSpec := { name := "crcSums", fn := fun _ => fun
  | [d1, d2] => { results := [.lit (.bool false)], args := [d1, d2] }
  | _ => none }
def CrcSumsWrongFalsely : Prop := crcSumsRow.holds Try.pinned (OpenSpec.ofChange crcSumsWrong)

/-- 'exerguelaw08.CrcSteps': WHATEVER THE INPUT: true; the input reads as it did. -/
def crcStepsSpec : ChangeSpec := { name := "crcSteps", fn := fun _ => fun
  | [d] => { results := [.lit (.bool true)], args := [d] }
  | _ => none }
def crcStepsRow : OpenClaim := { program := "ythejhhklphjhmaa", sum := "623a32029d44c485bd4d7a461e3882aa0311b5d7767e421ff2761086483f65de", func := "exergue/exerguelaw08.CrcSteps", spec := "crcSteps", unfollowed := true, recurses := true, apart := false }
def CrcStepsSaid : Prop := crcStepsRow.holds Try.pinned (OpenSpec.ofChange crcStepsSpec)

/-- ITS FALSE NEIGHBOUR: 'it returns false'. Refute it at one input. -/
def crcStepsWrong : ChangeSpec := { name := "crcSteps", fn := fun _ => fun
  | [d] => { results := [.lit (.bool false)], args := [d] }
  | _ => none }
def CrcStepsWrongFalsely : Prop := crcStepsRow.holds Try.pinned (OpenSpec.ofChange crcStepsWrong)

/-- 'exerguelaw08.CrcCuts': WHATEVER THE INPUT: true; the input reads as it did. -/
def crcCutsSpec : ChangeSpec := { name := "crcCuts", fn := fun _ => fun
  | [d1, d2] => { results := [.lit (.bool true)], args := [d1, d2] }
  | _ => none }
def crcCutsRow : OpenClaim := { program := "ythejhhklphjhmaa", sum := "623a32029d44c485bd4d7a461e3882aa0311b5d7767e421ff2761086483f65de", func := "exergue/exerguelaw08.CrcCuts", spec := "crcCuts", unfollowed := true, recurses := true, apart := false }
def CrcCutsSaid : Prop := crcCutsRow.holds Try.pinned (OpenSpec.ofChange crcCutsSpec)

/-- ITS FALSE NEIGHBOUR: 'it returns false'. Refute it at one input. -/
def crcCutsWrong : ChangeSpec := { name := "crcCuts", fn := fun _ => fun
  | [d1, d2] => { results := [.lit (.bool false)], args := [d1, d2] }
  | _ => none }
def CrcCutsWrongFalsely : Prop := crcCutsRow.holds Try.pinned (OpenSpec.ofChange crcCutsWrong)

/-- 'exerguelaw08.CrcApart': WHATEVER THE INPUT: true; the input reads as it did. -/
def crcApartSpec : ChangeSpec := { name := "crcApart", fn := fun _ => fun
  | [d1, d2, d3] => { results := [.lit (.bool true)], args := [d1, d2, d3] }
  | _ => none }
def crcApartRow : OpenClaim := { program := "ythejhhklphjhmaa", sum := "623a32029d44c485bd4d7a461e3882aa0311b5d7767e421ff2761086483f65de", func := "exergue/exerguelaw08.CrcApart", spec := "crcApart", unfollowed := true, recurses := true, apart := false }
def CrcApartSaid : Prop := crcApartRow.holds Try.pinned (OpenSpec.ofChange crcApartSpec)

/-- ITS FALSE NEIGHBOUR: 'it returns false'. Refute it at one input. -/
def crcApartWrong : ChangeSpec := { name := "crcApart", fn := fun _ => fun
  | [d1, d2, d3] => { results := [.lit (.bool false)], args := [d1, d2, d3] }
  | _ => none }
def CrcApartWrongFalsely : Prop := crcApartRow.holds Try.pinned (OpenSpec.ofChange crcApartWrong)

/- THE SECOND FORM. 'bulk': how many values and letters a reading holds, each counted each time it is reached (what is shared counts as often as it is met; a slice's spare places count too). A statement '..UptoSaid' is the law's where the arguments, and the package variables that the reading takes, are together of bulk at most 1048576: NARROWER than '..Said'. Prove '..Said' where nothing that the law and all that it calls make is longer than what came in: it says more and counts as full. Else prove '..UptoSaid'. A law counts once. -/
mutual
def uptoBulk {H : Type} : DataW H → Nat
  | .lit (.string bytes) => bytes.length + 1
  | .lit _ => 1
  | .nil => 1
  | .ptr d => uptoBulk d + 1
  | .slice elems spare => uptoBulkAll elems + uptoBulkAll spare + 1
  | .agg parts => uptoBulkAll parts + 1
  | .iface _ d => uptoBulk d + 1
  | .map entries => uptoBulkEntries entries + 1
  | .held _ => 1
def uptoBulkAll {H : Type} : List (DataW H) → Nat
  | [] => 0
  | d :: r => uptoBulk d + uptoBulkAll r
def uptoBulkEntries {H : Type} : List (Lit × DataW H) → Nat
  | [] => 0
  | x :: r => uptoBulkEntry x + uptoBulkEntries r
def uptoBulkEntry {H : Type} : Lit × DataW H → Nat
  | (.string bytes, d) => bytes.length + uptoBulk d + 1
  | (_, d) => uptoBulk d + 1
 end
def uptoSmall : (H : Type) → List (DataW H) → Bool := fun _ ds => decide (uptoBulkAll ds ≤ 1048576)
def OpenSpec.upto (s : _root_.Go.ChangeSpec) : _root_.Go.OpenSpec := { _root_.Go.OpenSpec.ofChange s with cond := some uptoSmall }

/-- 'exerguelaw08.CrcTells', WHERE WHAT IT READS IS OF BULK AT MOST 1048576: true; the input reads as it did. -/
def crcTellsUptoRow : OpenClaim := { program := "ythejhhklphjhmaa", sum := "623a32029d44c485bd4d7a461e3882aa0311b5d7767e421ff2761086483f65de", func := "exergue/exerguelaw08.CrcTells", spec := "crcTells", unfollowed := true, recurses := true, apart := false, narrowed := true }
def CrcTellsUptoSaid : Prop := crcTellsUptoRow.holds Try.pinned (OpenSpec.upto crcTellsSpec)

/-- 'exerguelaw08.CrcOn', WHERE WHAT IT READS IS OF BULK AT MOST 1048576: true; the input reads as it did. -/
def crcOnUptoRow : OpenClaim := { program := "ythejhhklphjhmaa", sum := "623a32029d44c485bd4d7a461e3882aa0311b5d7767e421ff2761086483f65de", func := "exergue/exerguelaw08.CrcOn", spec := "crcOn", unfollowed := true, recurses := true, apart := false, narrowed := true }
def CrcOnUptoSaid : Prop := crcOnUptoRow.holds Try.pinned (OpenSpec.upto crcOnSpec)

/-- 'exerguelaw08.CrcFinds', WHERE WHAT IT READS IS OF BULK AT MOST 1048576: true; the input reads as it did. -/
def crcFindsUptoRow : OpenClaim := { program := "ythejhhklphjhmaa", sum := "623a32029d44c485bd4d7a461e3882aa0311b5d7767e421ff2761086483f65de", func := "exergue/exerguelaw08.CrcFinds", spec := "crcFinds", unfollowed := true, recurses := true, apart := false, narrowed := true }
def CrcFindsUptoSaid : Prop := crcFindsUptoRow.holds Try.pinned (OpenSpec.upto crcFindsSpec)

/-- 'exerguelaw08.CrcSums', WHERE WHAT IT READS IS OF BULK AT MOST 1048576: true; the input reads as it did. -/
def crcSumsUptoRow : OpenClaim := { program := "ythejhhklphjhmaa", sum := "623a32029d44c485bd4d7a461e3882aa0311b5d7767e421ff2761086483f65de", func := "exergue/exerguelaw08.CrcSums", spec := "crcSums", unfollowed := true, recurses := true, apart := false, narrowed := true }
def CrcSumsUptoSaid : Prop := crcSumsUptoRow.holds Try.pinned (OpenSpec.upto crcSumsSpec)

/-- 'exerguelaw08.CrcSteps', WHERE WHAT IT READS IS OF BULK AT MOST 1048576: true; the input reads as it did. -/
def crcStepsUptoRow : OpenClaim := { program := "ythejhhklphjhmaa", sum := "623a32029d44c485bd4d7a461e3882aa0311b5d7767e421ff2761086483f65de", func := "exergue/exerguelaw08.CrcSteps", spec := "crcSteps", unfollowed := true, recurses := true, apart := false, narrowed := true }
def CrcStepsUptoSaid : Prop := crcStepsUptoRow.holds Try.pinned (OpenSpec.upto crcStepsSpec)

/-- 'exerguelaw08.CrcCuts', WHERE WHAT IT READS IS OF BULK AT MOST 1048576: true; the input reads as it did. -/
def crcCutsUptoRow : OpenClaim := { program := "ythejhhklphjhmaa", sum := "623a32029d44c485bd4d7a461e3882aa0311b5d7767e421ff2761086483f65de", func := "exergue/exerguelaw08.CrcCuts", spec := "crcCuts", unfollowed := true, recurses := true, apart := false, narrowed := true }
def CrcCutsUptoSaid : Prop := crcCutsUptoRow.holds Try.pinned (OpenSpec.upto crcCutsSpec)

/-- 'exerguelaw08.CrcApart', WHERE WHAT IT READS IS OF BULK AT MOST 1048576: true; the input reads as it did. -/
def crcApartUptoRow : OpenClaim := { program := "ythejhhklphjhmaa", sum := "623a32029d44c485bd4d7a461e3882aa0311b5d7767e421ff2761086483f65de", func := "exergue/exerguelaw08.CrcApart", spec := "crcApart", unfollowed := true, recurses := true, apart := false, narrowed := true }
def CrcApartUptoSaid : Prop := crcApartUptoRow.holds Try.pinned (OpenSpec.upto crcApartSpec)

end Rows
end Go.Proofs.Ythejhhklphjhmaa
