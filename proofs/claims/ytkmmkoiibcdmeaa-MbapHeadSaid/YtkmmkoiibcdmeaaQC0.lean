/- Contracts of the functions that the law reaches, and what each comes to as a plain function; laid by a program of mine over the printer. -/
import Derived.Test.YtkmmkoiibcdmeaaProg
import Derived.Below
import Derived.Deep.Draws
import Derived.Deep.AppendLies
import Derived.Maps.AppendAt
import Derived.OwnWalk
import Derived.Laws.BytesArg
import Derived.Laws.MakeOwn
import Derived.Laws.OwnMore
import Derived.Deep.OwnRows
import Derived.Tactics
import Derived.Lib.ConvBytes
import Derived.Laws.Slices
import Derived.WalkKit
import Derived.KernelRfl
import Derived.RowKit3
import Derived.Deep.LoopGhost
import Derived.Deep.QuietTactic
import Derived.BigQuiet
import Derived.WideLaws
import Derived.Deep.DeepCutAuto
import Derived.Deep.CutBlock
import Derived.Deep.RegionHeld3
import Derived.Laws.Rows
import Derived.Lib.AppendStr
import Derived.ArgAppend
import Derived.Laws.IdiomCopy
import Derived.OrdersHeld
import Derived.Laws.BitsLemmas
import Derived.RowKit
import Derived.Test.YtkmmkoiibcdmeaaH1
import Derived.Test.YtkmmkoiibcdmeaaWWords
import Derived.Test.YtkmmkoiibcdmeaaWLast
import Derived.Test.YtkmmkoiibcdmeaaWTab
import Derived.Test.YtkmmkoiibcdmeaaWFour
import Derived.Test.YtkmmkoiibcdmeaaWQPut
import Derived.Test.YtkmmkoiibcdmeaaWApart
import Derived.Test.YtkmmkoiibcdmeaaWArr
import Derived.Test.YtkmmkoiibcdmeaaWZeros
import Derived.Test.YtkmmkoiibcdmeaaWFoot
import Derived.Test.YtkmmkoiibcdmeaaWKept
import Derived.Test.YtkmmkoiibcdmeaaWShare
import Derived.Test.YtkmmkoiibcdmeaaWN
import Derived.Test.YtkmmkoiibcdmeaaWFootNe
import Derived.Test.YtkmmkoiibcdmeaaWAt
import Derived.Test.YtkmmkoiibcdmeaaWEqStruct
import Derived.Test.YtkmmkoiibcdmeaaWRepsOne
import Derived.Test.YtkmmkoiibcdmeaaWInv
import Derived.Test.YtkmmkoiibcdmeaaWInvWords
import Derived.Test.YtkmmkoiibcdmeaaWGuard
import Derived.Test.YtkmmkoiibcdmeaaWNEv
import Derived.Test.YtkmmkoiibcdmeaaWMore
namespace Go.Proofs.Ytkmmkoiibcdmeaa.QC
open Go.RowKit Go.Proofs.YtkmmkoiibcdmeaaW.PrintWords Go.Proofs.YtkmmkoiibcdmeaaW.PrintLast Go.Proofs.YtkmmkoiibcdmeaaW.PrintMore
attribute [local go_sem] max2_int min2_int max_two min_two max_three min_three max_four min_four   -- for this text's walks alone
set_option linter.unusedVariables false
set_option linter.unusedSimpArgs false



def errW : Option Int → Value
  | none => .nilIface
  | some c => .iface 0 (.int .i64 c)
theorem errW_none : errW none = .nilIface := rfl
theorem errW_some (c : Int) : errW (some c) = .iface 0 (.int .i64 c) := rfl

theorem info5 : (Try.prog.info? 5).map (fun i => (i.zero, i.size, i.bytes)) = some (some (.int .u8 0), 1, 1) := by kernel_rfl
-- the values' own types

end Go.Proofs.Ytkmmkoiibcdmeaa.QC
