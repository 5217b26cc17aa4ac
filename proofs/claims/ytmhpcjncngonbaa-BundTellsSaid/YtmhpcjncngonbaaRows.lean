/-
  No cell of these rows narrows 'for every input' (looked for: loops, veiled, ifaces, maps, wideKeys, modest, calm, conditions, laid).
  DERIVED. THE GIVEN ROWS OF THIS SEAT. 7 by the template 'for every input the law returns true; each argument reads behind the call as it read before'; 0 by the template 'total and deterministic' (their statements: YtmhpcjncngonbaaTotals.lean).
  GIVEN WITH THE SEED: the statements are not yours to turn. If you find one false, say at which input.
  Laid BY PROGRAM, IN A SANDBOX (cutbox-rows.mjs): the forced cells as the released guide's own fill.sh prints them over the translation e70dfa5846c11dd5… (all of the seat's roots in one cut). By AI agents, Wed Nov 11 2026. No macro, syntax, notation, axiom, sorry.
-/
import Derived.Test.YtmhpcjncngonbaaChecked
import GoSem.Claim
import GoSem.ClaimJoined
import GoSem.ClaimMapViews
import Derived.JoinedTies
import Derived.KernelRfl
namespace Go.Proofs.Ytmhpcjncngonbaa
/- THE CELL 'sum', in the pinned program and in every row, IS THE sha256 OF THE DUMP (.gsa) THAT YtmhpcjncngonbaaProg.lean LOADS. Nothing in Lean hashes anything: it is a label: what it is worth is what the hold of that sum in a sandbox is worth. -/
noncomputable def Try.pinned : Pinned := { name := "ytmhpcjncngonbaa", sum := "e70dfa5846c11dd565161e29dcc7ef24400551ff92379a4757d209483ab1c8c7", checked := Try.checked }
namespace Rows
def none {H : Type} : Left H := { results := [], args := [] }

/-- 'exerguelaw16.BundHead': WHATEVER THE INPUT: true; the input reads as it did. -/
def bundHeadSpec : ChangeSpec := { name := "bundHead", fn := fun _ => fun
  | [d] => { results := [.lit (.bool true)], args := [d] }
  | _ => none }
def bundHeadRow : OpenClaim := { program := "ytmhpcjncngonbaa", sum := "e70dfa5846c11dd565161e29dcc7ef24400551ff92379a4757d209483ab1c8c7", func := "exergue/exerguelaw16.BundHead", spec := "bundHead", unfollowed := true, recurses := true, plainKeys := false, apart := false }
def BundHeadSaid : Prop := bundHeadRow.holds Try.pinned (OpenSpec.ofChange bundHeadSpec)

/-- ITS FALSE NEIGHBOUR: 'it returns false'. Refute it at one input. -/
def bundHeadWrong : ChangeSpec := { name := "bundHead", fn := fun _ => fun
  | [d] => { results := [.lit (.bool false)], args := [d] }
  | _ => none }
def BundHeadWrongFalsely : Prop := bundHeadRow.holds Try.pinned (OpenSpec.ofChange bundHeadWrong)

/-- 'exerguelaw16.BundSections': WHATEVER THE INPUT: true; the input reads as it did. -/
def bundSectionsSpec : ChangeSpec := { name := "bundSections", fn := fun _ => fun
  | [d1, d2] => { results := [.lit (.bool true)], args := [d1, d2] }
  | _ => none }
def bundSectionsRow : OpenClaim := { program := "ytmhpcjncngonbaa", sum := "e70dfa5846c11dd565161e29dcc7ef24400551ff92379a4757d209483ab1c8c7", func := "exergue/exerguelaw16.BundSections", spec := "bundSections", unfollowed := true, recurses := true, plainKeys := false, apart := false }
def BundSectionsSaid : Prop := bundSectionsRow.holds Try.pinned (OpenSpec.ofChange bundSectionsSpec)

/-- ITS FALSE NEIGHBOUR: 'it returns false'. Refute it at one input. -/
def bundSectionsWrong : ChangeSpec := { name := "bundSections", fn := fun _ => fun
  | [d1, d2] => { results := [.lit (.bool false)], args := [d1, d2] }
  | _ => none }
def BundSectionsWrongFalsely : Prop := bundSectionsRow.holds Try.pinned (OpenSpec.ofChange bundSectionsWrong)

/-- 'exerguelaw16.BundTells': WHATEVER THE INPUT: true; the input reads as it did. -/
def bundTellsSpec : ChangeSpec := { name := "bundTells", fn := fun _ => fun
  | [d1, d2] => { results := [.lit (.bool true)], args := [d1, d2] }
  | _ => none }
def bundTellsRow : OpenClaim := { program := "ytmhpcjncngonbaa", sum := "e70dfa5846c11dd565161e29dcc7ef24400551ff92379a4757d209483ab1c8c7", func := "exergue/exerguelaw16.BundTells", spec := "bundTells", unfollowed := true, recurses := true, plainKeys := false, apart := false }
def BundTellsSaid : Prop := bundTellsRow.holds Try.pinned (OpenSpec.ofChange bundTellsSpec)

/-- ITS FALSE NEIGHBOUR: 'it returns false'. Refute it at one input. -/
def bundTellsWrong : ChangeSpec := { name := "bundTells", fn := fun _ => fun
  | [d1, d2] => { results := [.lit (.bool false)], args := [d1, d2] }
  | _ => none }
def BundTellsWrongFalsely : Prop := bundTellsRow.holds Try.pinned (OpenSpec.ofChange bundTellsWrong)

/-- 'exerguelaw16.BundBack': WHATEVER THE INPUT: true; the input reads as it did. -/
def bundBackSpec : ChangeSpec := { name := "bundBack", fn := fun _ => fun
  | [d1, d2] => { results := [.lit (.bool true)], args := [d1, d2] }
  | _ => none }
def bundBackRow : OpenClaim := { program := "ytmhpcjncngonbaa", sum := "e70dfa5846c11dd565161e29dcc7ef24400551ff92379a4757d209483ab1c8c7", func := "exergue/exerguelaw16.BundBack", spec := "bundBack", unfollowed := true, recurses := true, plainKeys := false, apart := false }
def BundBackSaid : Prop := bundBackRow.holds Try.pinned (OpenSpec.ofChange bundBackSpec)

/-- ITS FALSE NEIGHBOUR: 'it returns false'. Refute it at one input. -/
def bundBackWrong : ChangeSpec := { name := "bundBack", fn := fun _ => fun
  | [d1, d2] => { results := [.lit (.bool false)], args := [d1, d2] }
  | _ => none }
def BundBackWrongFalsely : Prop := bundBackRow.holds Try.pinned (OpenSpec.ofChange bundBackWrong)

/-- 'exerguelaw16.BundFinds': WHATEVER THE INPUT: true; the input reads as it did. -/
def bundFindsSpec : ChangeSpec := { name := "bundFinds", fn := fun _ => fun
  | [d] => { results := [.lit (.bool true)], args := [d] }
  | _ => none }
def bundFindsRow : OpenClaim := { program := "ytmhpcjncngonbaa", sum := "e70dfa5846c11dd565161e29dcc7ef24400551ff92379a4757d209483ab1c8c7", func := "exergue/exerguelaw16.BundFinds", spec := "bundFinds", unfollowed := true, recurses := true, plainKeys := false, apart := false }
def BundFindsSaid : Prop := bundFindsRow.holds Try.pinned (OpenSpec.ofChange bundFindsSpec)

/-- ITS FALSE NEIGHBOUR: 'it returns false'. Refute it at one input. -/
def bundFindsWrong : ChangeSpec := { name := "bundFinds", fn := fun _ => fun
  | [d] => { results := [.lit (.bool false)], args := [d] }
  | _ => none }
def BundFindsWrongFalsely : Prop := bundFindsRow.holds Try.pinned (OpenSpec.ofChange bundFindsWrong)

/-- 'exerguelaw16.BundApart': WHATEVER THE INPUT: true; the input reads as it did. -/
def bundApartSpec : ChangeSpec := { name := "bundApart", fn := fun _ => fun
  | [d1, d2] => { results := [.lit (.bool true)], args := [d1, d2] }
  | _ => none }
def bundApartRow : OpenClaim := { program := "ytmhpcjncngonbaa", sum := "e70dfa5846c11dd565161e29dcc7ef24400551ff92379a4757d209483ab1c8c7", func := "exergue/exerguelaw16.BundApart", spec := "bundApart", unfollowed := true, recurses := true, plainKeys := false, apart := false }
def BundApartSaid : Prop := bundApartRow.holds Try.pinned (OpenSpec.ofChange bundApartSpec)

/-- ITS FALSE NEIGHBOUR: 'it returns false'. Refute it at one input. -/
def bundApartWrong : ChangeSpec := { name := "bundApart", fn := fun _ => fun
  | [d1, d2] => { results := [.lit (.bool false)], args := [d1, d2] }
  | _ => none }
def BundApartWrongFalsely : Prop := bundApartRow.holds Try.pinned (OpenSpec.ofChange bundApartWrong)

/-- 'exerguelaw16.BundPool': WHATEVER THE INPUT: true; the input reads as it did. -/
def bundPoolSpec : ChangeSpec := { name := "bundPool", fn := fun _ => fun
  | [d1, d2] => { results := [.lit (.bool true)], args := [d1, d2] }
  | _ => none }
def bundPoolRow : OpenClaim := { program := "ytmhpcjncngonbaa", sum := "e70dfa5846c11dd565161e29dcc7ef24400551ff92379a4757d209483ab1c8c7", func := "exergue/exerguelaw16.BundPool", spec := "bundPool", unfollowed := true, recurses := true, plainKeys := false, apart := false }
def BundPoolSaid : Prop := bundPoolRow.holds Try.pinned (OpenSpec.ofChange bundPoolSpec)

/-- ITS FALSE NEIGHBOUR: 'it returns false'. Refute it at one input. -/
def bundPoolWrong : ChangeSpec := { name := "bundPool", fn := fun _ => fun
  | [d1, d2] => { results := [.lit (.bool false)], args := [d1, d2] }
  | _ => none }
def BundPoolWrongFalsely : Prop := bundPoolRow.holds Try.pinned (OpenSpec.ofChange bundPoolWrong)

/- THE SECOND FORM. 'bulk': how many values and letters a reading holds, each counted each time it is reached (what is shared counts as often as it is met; a slice's spare places count too). A statement '..UptoSaid' is the law's where the arguments, and the package variables that the reading takes, are together of bulk at most 1048576: NARROWER than '..Said'. Prove '..Said' where nothing that the law and all that it calls make is longer than what came in: it says more and counts as full. Else prove '..UptoSaid'. A law counts once. -/
mutual
def uptoBulk {H : Type} : DataW H → Nat
  | .lit (.string bytes) => bytes.length + 1
  | .lit _ => 1
  | .nil => 1
  | .ptr d => uptoBulk d + 1
  | .slice elems spare => uptoBulkAll elems + uptoBulkAll spare + 1
  | .agg parts => uptoBulkAll parts + 1
  | .iface _ d => uptoBulk d + 1
  | .map entries => uptoBulkEntries entries + 1
  | .held _ => 1
def uptoBulkAll {H : Type} : List (DataW H) → Nat
  | [] => 0
  | d :: r => uptoBulk d + uptoBulkAll r
def uptoBulkEntries {H : Type} : List (Lit × DataW H) → Nat
  | [] => 0
  | x :: r => uptoBulkEntry x + uptoBulkEntries r
def uptoBulkEntry {H : Type} : Lit × DataW H → Nat
  | (.string bytes, d) => bytes.length + uptoBulk d + 1
  | (_, d) => uptoBulk d + 1
 end
def uptoSmall : (H : Type) → List (DataW H) → Bool := fun _ ds => decide (uptoBulkAll ds ≤ 1048576)
def OpenSpec.upto (s : _root_.Go.ChangeSpec) : _root_.Go.OpenSpec := { _root_.Go.OpenSpec.ofChange s with cond := some uptoSmall }

/-- 'exerguelaw16.BundHead', WHERE WHAT IT READS IS OF BULK AT MOST 1048576: true; the input reads as it did. -/
def bundHeadUptoRow : OpenClaim := { program := "ytmhpcjncngonbaa", sum := "e70dfa5846c11dd565161e29dcc7ef24400551ff92379a4757d209483ab1c8c7", func := "exergue/exerguelaw16.BundHead", spec := "bundHead", unfollowed := true, recurses := true, plainKeys := false, apart := false, narrowed := true }
def BundHeadUptoSaid : Prop := bundHeadUptoRow.holds Try.pinned (OpenSpec.upto bundHeadSpec)

/-- 'exerguelaw16.BundSections', WHERE WHAT IT READS IS OF BULK AT MOST 1048576: true; the input reads as it did. -/
def bundSectionsUptoRow : OpenClaim := { program := "ytmhpcjncngonbaa", sum := "e70dfa5846c11dd565161e29dcc7ef24400551ff92379a4757d209483ab1c8c7", func := "exergue/exerguelaw16.BundSections", spec := "bundSections", unfollowed := true, recurses := true, plainKeys := false, apart := false, narrowed := true }
def BundSectionsUptoSaid : Prop := bundSectionsUptoRow.holds Try.pinned (OpenSpec.upto bundSectionsSpec)

/-- 'exerguelaw16.BundTells', WHERE WHAT IT READS IS OF BULK AT MOST 1048576: true; the input reads as it did. -/
def bundTellsUptoRow : OpenClaim := { program := "ytmhpcjncngonbaa", sum := "e70dfa5846c11dd565161e29dcc7ef24400551ff92379a4757d209483ab1c8c7", func := "exergue/exerguelaw16.BundTells", spec := "bundTells", unfollowed := true, recurses := true, plainKeys := false, apart := false, narrowed := true }
def BundTellsUptoSaid : Prop := bundTellsUptoRow.holds Try.pinned (OpenSpec.upto bundTellsSpec)

/-- 'exerguelaw16.BundBack', WHERE WHAT IT READS IS OF BULK AT MOST 1048576: true; the input reads as it did. -/
def bundBackUptoRow : OpenClaim := { program := "ytmhpcjncngonbaa", sum := "e70dfa5846c11dd565161e29dcc7ef24400551ff92379a4757d209483ab1c8c7", func := "exergue/exerguelaw16.BundBack", spec := "bundBack", unfollowed := true, recurses := true, plainKeys := false, apart := false, narrowed := true }
def BundBackUptoSaid : Prop := bundBackUptoRow.holds Try.pinned (OpenSpec.upto bundBackSpec)

/-- 'exerguelaw16.BundFinds', WHERE WHAT IT READS IS OF BULK AT MOST 1048576: true; the input reads as it did. -/
def bundFindsUptoRow : OpenClaim := { program := "ytmhpcjncngonbaa", sum := "e70dfa5846c11dd565161e29dcc7ef24400551ff92379a4757d209483ab1c8c7", func := "exergue/exerguelaw16.BundFinds", spec := "bundFinds", unfollowed := true, recurses := true, plainKeys := false, apart := false, narrowed := true }
def BundFindsUptoSaid : Prop := bundFindsUptoRow.holds Try.pinned (OpenSpec.upto bundFindsSpec)

/-- 'exerguelaw16.BundApart', WHERE WHAT IT READS IS OF BULK AT MOST 1048576: true; the input reads as it did. -/
def bundApartUptoRow : OpenClaim := { program := "ytmhpcjncngonbaa", sum := "e70dfa5846c11dd565161e29dcc7ef24400551ff92379a4757d209483ab1c8c7", func := "exergue/exerguelaw16.BundApart", spec := "bundApart", unfollowed := true, recurses := true, plainKeys := false, apart := false, narrowed := true }
def BundApartUptoSaid : Prop := bundApartUptoRow.holds Try.pinned (OpenSpec.upto bundApartSpec)

/-- 'exerguelaw16.BundPool', WHERE WHAT IT READS IS OF BULK AT MOST 1048576: true; the input reads as it did. -/
def bundPoolUptoRow : OpenClaim := { program := "ytmhpcjncngonbaa", sum := "e70dfa5846c11dd565161e29dcc7ef24400551ff92379a4757d209483ab1c8c7", func := "exergue/exerguelaw16.BundPool", spec := "bundPool", unfollowed := true, recurses := true, plainKeys := false, apart := false, narrowed := true }
def BundPoolUptoSaid : Prop := bundPoolUptoRow.holds Try.pinned (OpenSpec.upto bundPoolSpec)

end Rows
end Go.Proofs.Ytmhpcjncngonbaa
