/-
  No cell of these rows narrows 'for every input' (looked for: loops, veiled, ifaces, maps, wideKeys, modest, calm, conditions, laid).
  DERIVED. THE GIVEN ROWS OF THIS SEAT. 7 by the template 'for every input the law returns true; each argument reads behind the call as it read before'; 0 by the template 'total and deterministic' (their statements: YtapjpcpaildccaaTotals.lean).
  GIVEN WITH THE SEED: the statements are not yours to turn. If you find one false, say at which input.
  Laid BY PROGRAM, IN A SANDBOX (cutbox-rows.mjs): the forced cells as the released guide's own fill.sh prints them over the translation b8310230b5412b28… (all of the seat's roots in one cut). By AI agents, Wed Nov 11 2026. No macro, syntax, notation, axiom, sorry.
-/
import Derived.Test.YtapjpcpaildccaaChecked
import GoSem.Claim
import GoSem.ClaimJoined
import GoSem.ClaimMapViews
import Derived.JoinedTies
import Derived.KernelRfl
namespace Go.Proofs.Ytapjpcpaildccaa
/- THE CELL 'sum', in the pinned program and in every row, IS THE sha256 OF THE DUMP (.gsa) THAT YtapjpcpaildccaaProg.lean LOADS. Nothing in Lean hashes anything: it is a label: what it is worth is what the hold of that sum in a sandbox is worth. -/
noncomputable def Try.pinned : Pinned := { name := "ytapjpcpaildccaa", sum := "b8310230b5412b288a84432dcf85e62a7ced06d02979408b485711294d1ffeb1", checked := Try.checked }
namespace Rows
def none {H : Type} : Left H := { results := [], args := [] }

/-- 'exerguelaw01.UtfTells': WHATEVER THE INPUT: true; the input reads as it did. -/
def utfTellsSpec : ChangeSpec := { name := "utfTells", fn := fun _ => fun
  | [d1, d2, d3] => { results := [.lit (.bool true)], args := [d1, d2, d3] }
  | _ => none }
def utfTellsRow : OpenClaim := { program := "ytapjpcpaildccaa", sum := "b8310230b5412b288a84432dcf85e62a7ced06d02979408b485711294d1ffeb1", func := "exergue/exerguelaw01.UtfTells", spec := "utfTells", apart := false }
def UtfTellsSaid : Prop := utfTellsRow.holds Try.pinned (OpenSpec.ofChange utfTellsSpec)

/-- ITS FALSE NEIGHBOUR: 'it returns false'. Refute it at one input. -/
def utfTellsWrong : ChangeSpec := { name := "utfTells", fn := fun _ => fun
  | [d1, d2, d3] => { results := [.lit (.bool false)], args := [d1, d2, d3] }
  | _ => none }
def UtfTellsWrongFalsely : Prop := utfTellsRow.holds Try.pinned (OpenSpec.ofChange utfTellsWrong)

/-- 'exerguelaw01.UtfBytes': WHATEVER THE INPUT: true; the input reads as it did. -/
def utfBytesSpec : ChangeSpec := { name := "utfBytes", fn := fun _ => fun
  | [d1, d2] => { results := [.lit (.bool true)], args := [d1, d2] }
  | _ => none }
def utfBytesRow : OpenClaim := { program := "ytapjpcpaildccaa", sum := "b8310230b5412b288a84432dcf85e62a7ced06d02979408b485711294d1ffeb1", func := "exergue/exerguelaw01.UtfBytes", spec := "utfBytes", apart := false }
def UtfBytesSaid : Prop := utfBytesRow.holds Try.pinned (OpenSpec.ofChange utfBytesSpec)

/-- ITS FALSE NEIGHBOUR: 'it returns false'. Refute it at one input. -/
def utfBytesWrong : ChangeSpec := { name := "utfBytes", fn := fun _ => fun
  | [d1, d2] => { results := [.lit (.bool false)], args := [d1, d2] }
  | _ => none }
def UtfBytesWrongFalsely : Prop := utfBytesRow.holds Try.pinned (OpenSpec.ofChange utfBytesWrong)

/-- 'exerguelaw01.UtfBack': WHATEVER THE INPUT: true; the input reads as it did. -/
def utfBackSpec : ChangeSpec := { name := "utfBack", fn := fun _ => fun
  | [d1, d2] => { results := [.lit (.bool true)], args := [d1, d2] }
  | _ => none }
def utfBackRow : OpenClaim := { program := "ytapjpcpaildccaa", sum := "b8310230b5412b288a84432dcf85e62a7ced06d02979408b485711294d1ffeb1", func := "exergue/exerguelaw01.UtfBack", spec := "utfBack", apart := false }
def UtfBackSaid : Prop := utfBackRow.holds Try.pinned (OpenSpec.ofChange utfBackSpec)

/-- ITS FALSE NEIGHBOUR: 'it returns false'. Refute it at one input. -/
def utfBackWrong : ChangeSpec := { name := "utfBack", fn := fun _ => fun
  | [d1, d2] => { results := [.lit (.bool false)], args := [d1, d2] }
  | _ => none }
def UtfBackWrongFalsely : Prop := utfBackRow.holds Try.pinned (OpenSpec.ofChange utfBackWrong)

/-- 'exerguelaw01.UtfJoins': WHATEVER THE INPUT: true; the input reads as it did. -/
def utfJoinsSpec : ChangeSpec := { name := "utfJoins", fn := fun _ => fun
  | [d1, d2, d3] => { results := [.lit (.bool true)], args := [d1, d2, d3] }
  | _ => none }
def utfJoinsRow : OpenClaim := { program := "ytapjpcpaildccaa", sum := "b8310230b5412b288a84432dcf85e62a7ced06d02979408b485711294d1ffeb1", func := "exergue/exerguelaw01.UtfJoins", spec := "utfJoins", apart := false }
def UtfJoinsSaid : Prop := utfJoinsRow.holds Try.pinned (OpenSpec.ofChange utfJoinsSpec)

/-- ITS FALSE NEIGHBOUR: 'it returns false'. Refute it at one input. -/
def utfJoinsWrong : ChangeSpec := { name := "utfJoins", fn := fun _ => fun
  | [d1, d2, d3] => { results := [.lit (.bool false)], args := [d1, d2, d3] }
  | _ => none }
def UtfJoinsWrongFalsely : Prop := utfJoinsRow.holds Try.pinned (OpenSpec.ofChange utfJoinsWrong)

/-- 'exerguelaw01.UtfSizes': WHATEVER THE INPUT: true; the input reads as it did. -/
def utfSizesSpec : ChangeSpec := { name := "utfSizes", fn := fun _ => fun
  | [d1, d2, d3] => { results := [.lit (.bool true)], args := [d1, d2, d3] }
  | _ => none }
def utfSizesRow : OpenClaim := { program := "ytapjpcpaildccaa", sum := "b8310230b5412b288a84432dcf85e62a7ced06d02979408b485711294d1ffeb1", func := "exergue/exerguelaw01.UtfSizes", spec := "utfSizes", apart := false }
def UtfSizesSaid : Prop := utfSizesRow.holds Try.pinned (OpenSpec.ofChange utfSizesSpec)

/-- ITS FALSE NEIGHBOUR: 'it returns false'. Refute it at one input. -/
def utfSizesWrong : ChangeSpec := { name := "utfSizes", fn := fun _ => fun
  | [d1, d2, d3] => { results := [.lit (.bool false)], args := [d1, d2, d3] }
  | _ => none }
def UtfSizesWrongFalsely : Prop := utfSizesRow.holds Try.pinned (OpenSpec.ofChange utfSizesWrong)

/-- 'exerguelaw01.UtfHeads': WHATEVER THE INPUT: true; the input reads as it did. -/
def utfHeadsSpec : ChangeSpec := { name := "utfHeads", fn := fun _ => fun
  | [d1, d2, d3] => { results := [.lit (.bool true)], args := [d1, d2, d3] }
  | _ => none }
def utfHeadsRow : OpenClaim := { program := "ytapjpcpaildccaa", sum := "b8310230b5412b288a84432dcf85e62a7ced06d02979408b485711294d1ffeb1", func := "exergue/exerguelaw01.UtfHeads", spec := "utfHeads", apart := false }
def UtfHeadsSaid : Prop := utfHeadsRow.holds Try.pinned (OpenSpec.ofChange utfHeadsSpec)

/-- ITS FALSE NEIGHBOUR: 'it returns false'. Refute it at one input. -/
def utfHeadsWrong : ChangeSpec := { name := "utfHeads", fn := fun _ => fun
  | [d1, d2, d3] => { results := [.lit (.bool false)], args := [d1, d2, d3] }
  | _ => none }
def UtfHeadsWrongFalsely : Prop := utfHeadsRow.holds Try.pinned (OpenSpec.ofChange utfHeadsWrong)

/-- 'exerguelaw01.UtfOrder': WHATEVER THE INPUT: true; the input reads as it did. -/
def utfOrderSpec : ChangeSpec := { name := "utfOrder", fn := fun _ => fun
  | [d] => { results := [.lit (.bool true)], args := [d] }
  | _ => none }
def utfOrderRow : OpenClaim := { program := "ytapjpcpaildccaa", sum := "b8310230b5412b288a84432dcf85e62a7ced06d02979408b485711294d1ffeb1", func := "exergue/exerguelaw01.UtfOrder", spec := "utfOrder", apart := false }
def UtfOrderSaid : Prop := utfOrderRow.holds Try.pinned (OpenSpec.ofChange utfOrderSpec)

/-- ITS FALSE NEIGHBOUR: 'it returns false'. Refute it at one input. -/
def utfOrderWrong : ChangeSpec := { name := "utfOrder", fn := fun _ => fun
  | [d] => { results := [.lit (.bool false)], args := [d] }
  | _ => none }
def UtfOrderWrongFalsely : Prop := utfOrderRow.holds Try.pinned (OpenSpec.ofChange utfOrderWrong)

/- THE SECOND FORM. 'bulk': how many values and letters a reading holds, each counted each time it is reached (what is shared counts as often as it is met; a slice's spare places count too). A statement '..UptoSaid' is the law's where the arguments, and the package variables that the reading takes, are together of bulk at most 1048576: NARROWER than '..Said'. Prove '..Said' where nothing that the law and all that it calls make is longer than what came in: it says more and counts as full. Else prove '..UptoSaid'. A law counts once. -/
mutual
def uptoBulk {H : Type} : DataW H → Nat
  | .lit (.string bytes) => bytes.length + 1
  | .lit _ => 1
  | .nil => 1
  | .ptr d => uptoBulk d + 1
  | .slice elems spare => uptoBulkAll elems + uptoBulkAll spare + 1
  | .agg parts => uptoBulkAll parts + 1
  | .iface _ d => uptoBulk d + 1
  | .map entries => uptoBulkEntries entries + 1
  | .held _ => 1
def uptoBulkAll {H : Type} : List (DataW H) → Nat
  | [] => 0
  | d :: r => uptoBulk d + uptoBulkAll r
def uptoBulkEntries {H : Type} : List (Lit × DataW H) → Nat
  | [] => 0
  | x :: r => uptoBulkEntry x + uptoBulkEntries r
def uptoBulkEntry {H : Type} : Lit × DataW H → Nat
  | (.string bytes, d) => bytes.length + uptoBulk d + 1
  | (_, d) => uptoBulk d + 1
 end
def uptoSmall : (H : Type) → List (DataW H) → Bool := fun _ ds => decide (uptoBulkAll ds ≤ 1048576)
def OpenSpec.upto (s : _root_.Go.ChangeSpec) : _root_.Go.OpenSpec := { _root_.Go.OpenSpec.ofChange s with cond := some uptoSmall }

/-- 'exerguelaw01.UtfTells', WHERE WHAT IT READS IS OF BULK AT MOST 1048576: true; the input reads as it did. -/
def utfTellsUptoRow : OpenClaim := { program := "ytapjpcpaildccaa", sum := "b8310230b5412b288a84432dcf85e62a7ced06d02979408b485711294d1ffeb1", func := "exergue/exerguelaw01.UtfTells", spec := "utfTells", apart := false, narrowed := true }
def UtfTellsUptoSaid : Prop := utfTellsUptoRow.holds Try.pinned (OpenSpec.upto utfTellsSpec)

/-- 'exerguelaw01.UtfBytes', WHERE WHAT IT READS IS OF BULK AT MOST 1048576: true; the input reads as it did. -/
def utfBytesUptoRow : OpenClaim := { program := "ytapjpcpaildccaa", sum := "b8310230b5412b288a84432dcf85e62a7ced06d02979408b485711294d1ffeb1", func := "exergue/exerguelaw01.UtfBytes", spec := "utfBytes", apart := false, narrowed := true }
def UtfBytesUptoSaid : Prop := utfBytesUptoRow.holds Try.pinned (OpenSpec.upto utfBytesSpec)

/-- 'exerguelaw01.UtfBack', WHERE WHAT IT READS IS OF BULK AT MOST 1048576: true; the input reads as it did. -/
def utfBackUptoRow : OpenClaim := { program := "ytapjpcpaildccaa", sum := "b8310230b5412b288a84432dcf85e62a7ced06d02979408b485711294d1ffeb1", func := "exergue/exerguelaw01.UtfBack", spec := "utfBack", apart := false, narrowed := true }
def UtfBackUptoSaid : Prop := utfBackUptoRow.holds Try.pinned (OpenSpec.upto utfBackSpec)

/-- 'exerguelaw01.UtfJoins', WHERE WHAT IT READS IS OF BULK AT MOST 1048576: true; the input reads as it did. -/
def utfJoinsUptoRow : OpenClaim := { program := "ytapjpcpaildccaa", sum := "b8310230b5412b288a84432dcf85e62a7ced06d02979408b485711294d1ffeb1", func := "exergue/exerguelaw01.UtfJoins", spec := "utfJoins", apart := false, narrowed := true }
def UtfJoinsUptoSaid : Prop := utfJoinsUptoRow.holds Try.pinned (OpenSpec.upto utfJoinsSpec)

/-- 'exerguelaw01.UtfSizes', WHERE WHAT IT READS IS OF BULK AT MOST 1048576: true; the input reads as it did. -/
def utfSizesUptoRow : OpenClaim := { program := "ytapjpcpaildccaa", sum := "b8310230b5412b288a84432dcf85e62a7ced06d02979408b485711294d1ffeb1", func := "exergue/exerguelaw01.UtfSizes", spec := "utfSizes", apart := false, narrowed := true }
def UtfSizesUptoSaid : Prop := utfSizesUptoRow.holds Try.pinned (OpenSpec.upto utfSizesSpec)

/-- 'exerguelaw01.UtfHeads', WHERE WHAT IT READS IS OF BULK AT MOST 1048576: true; the input reads as it did. -/
def utfHeadsUptoRow : OpenClaim := { program := "ytapjpcpaildccaa", sum := "b8310230b5412b288a84432dcf85e62a7ced06d02979408b485711294d1ffeb1", func := "exergue/exerguelaw01.UtfHeads", spec := "utfHeads", apart := false, narrowed := true }
def UtfHeadsUptoSaid : Prop := utfHeadsUptoRow.holds Try.pinned (OpenSpec.upto utfHeadsSpec)

/-- 'exerguelaw01.UtfOrder', WHERE WHAT IT READS IS OF BULK AT MOST 1048576: true; the input reads as it did. -/
def utfOrderUptoRow : OpenClaim := { program := "ytapjpcpaildccaa", sum := "b8310230b5412b288a84432dcf85e62a7ced06d02979408b485711294d1ffeb1", func := "exergue/exerguelaw01.UtfOrder", spec := "utfOrder", apart := false, narrowed := true }
def UtfOrderUptoSaid : Prop := utfOrderUptoRow.holds Try.pinned (OpenSpec.upto utfOrderSpec)

end Rows
end Go.Proofs.Ytapjpcpaildccaa
