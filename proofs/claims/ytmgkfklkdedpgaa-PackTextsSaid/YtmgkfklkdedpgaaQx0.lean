/- Functions of the translation as plain Lean functions, each with a proof that the Go code comes to its answers, wherever the function has one; no other condition. Written by this session's own program (wip/myprint.py). -/
import Derived.Test.YtmgkfklkdedpgaaProg
import Derived.Test.YtmgkfklkdedpgaaMine
import Derived.Below
import Derived.Deep.Draws
import Derived.Deep.AppendLies
import Derived.Maps.AppendAt
import Derived.OwnWalk
import Derived.Laws.BytesArg
import Derived.Laws.MakeOwn
import Derived.Laws.OwnMore
import Derived.Deep.OwnRows
import Derived.Tactics
import Derived.Lib.ConvBytes
import Derived.Laws.Slices
import Derived.WalkKit
import Derived.KernelRfl
import Derived.RowKit3
import Derived.Deep.LoopGhost
import Derived.Deep.QuietTactic
import Derived.BigQuiet
import Derived.WideLaws
import Derived.Deep.DeepCutAuto
import Derived.Deep.CutBlock
import Derived.Deep.RegionHeld3
import Derived.Laws.Rows
import Derived.Lib.AppendStr
import Derived.ArgAppend
import Derived.Laws.IdiomCopy
import Derived.OrdersHeld
import Derived.Laws.BitsLemmas
import Derived.RowKit
import Derived.Test.YtmgkfklkdedpgaaWWords
import Derived.Test.YtmgkfklkdedpgaaWLast
import Derived.Test.YtmgkfklkdedpgaaWTab
import Derived.Test.YtmgkfklkdedpgaaWFour
import Derived.Test.YtmgkfklkdedpgaaWQPut
import Derived.Test.YtmgkfklkdedpgaaWApart
import Derived.Test.YtmgkfklkdedpgaaWArr
import Derived.Test.YtmgkfklkdedpgaaWZeros
import Derived.Test.YtmgkfklkdedpgaaWFoot
import Derived.Test.YtmgkfklkdedpgaaWKept
import Derived.Test.YtmgkfklkdedpgaaWShare
import Derived.Test.YtmgkfklkdedpgaaWN
import Derived.Test.YtmgkfklkdedpgaaWFootNe
import Derived.Test.YtmgkfklkdedpgaaWAt
import Derived.Test.YtmgkfklkdedpgaaWEqStruct
import Derived.Test.YtmgkfklkdedpgaaWRepsOne
import Derived.Test.YtmgkfklkdedpgaaWInv
import Derived.Test.YtmgkfklkdedpgaaWInvWords
import Derived.Test.YtmgkfklkdedpgaaWGuard
import Derived.Test.YtmgkfklkdedpgaaWNEv
import Derived.Test.YtmgkfklkdedpgaaWMore
namespace Go.Proofs.Ytmgkfklkdedpgaa.Q
open Go.RowKit Go.Proofs.Ytmgkfklkdedpgaa.Mine Go.Proofs.YtmgkfklkdedpgaaW.PrintWords Go.Proofs.YtmgkfklkdedpgaaW.PrintLast Go.Proofs.YtmgkfklkdedpgaaW.PrintMore
attribute [local go_sem] max2_int min2_int max_two min_two max_three min_three max_four min_four   -- for this text's walks alone
set_option linter.unusedVariables false
set_option linter.unusedSimpArgs false



def errW : Option Int → Value
  | none => .nilIface
  | some c => .iface 0 (.int .i64 c)
theorem errW_none : errW none = .nilIface := rfl
theorem errW_some (c : Int) : errW (some c) = .iface 0 (.int .i64 c) := rfl

theorem info3 : (Try.prog.info? 3).map (fun i => (i.zero, i.size, i.bytes)) = some (some (.int .i64 0), 1, 8) := by kernel_rfl
theorem info5 : (Try.prog.info? 5).map (fun i => (i.zero, i.size, i.bytes)) = some (some (.int .u8 0), 1, 1) := by kernel_rfl
theorem info9 : (Try.prog.info? 9).map (fun i => (i.zero, i.size, i.bytes)) = some (some (.string ⟨#[]⟩), 1, 16) := by kernel_rfl

theorem bz {P : Prop} (h : P := by repeat (first | (with_reducible first | exact HB.out | apply below_alloc | apply pw_below_drewN | apply below_drew1) | exact HB.out)) : P := h
theorem rz {P Q : Prop} (q : Q) (h : Q → P := by intro q_; (with_reducible repeat (first | apply Kd.R_alloc | apply Kd.R_drewN | apply Kd.R_drew)); exact q_) : P := h q
theorem cz {P Q : Prop} (q : Q) (h : Q → P := by intro q_; repeat (first | exact q_ | (with_reducible refine Kd.C_alloc ?_ _) | (with_reducible refine Kd.C_drewN ?_ _) | (with_reducible refine Kd.C_drew ?_))) : P := h q
theorem kz {P Q : Prop} (q : Q) (h : Q → P := by intro q_; (with_reducible repeat (first | refine blk_drewN ?_ _ | refine blk_drew ?_ | refine blk_alloc ?_ _)); exact q_) : P := h q
theorem vz {P Q : Prop} (q : Q) (h : Q → P := by intro q_; (with_reducible repeat (first | apply Kd.V_alloc | apply Kd.V_drewN | apply Kd.V_drew)); exact q_) : P := h q
theorem mz {P : Prop} (h : P := by (try simp only [List.map_toArray, List.map_cons, List.map_nil]); first | done | rfl | (simp only [List.length_drop, List.length_take]; rfl)) : P := h

-- the values' own types

end Go.Proofs.Ytmgkfklkdedpgaa.Q
