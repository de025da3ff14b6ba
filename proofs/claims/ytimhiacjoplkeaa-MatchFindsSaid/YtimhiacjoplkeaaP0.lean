/- DERIVED, printed by a program of this session (wip/pprint.py over the kit's print), with some callees' contracts proved by hand. Lean checks it. -/
import Derived.Test.YtimhiacjoplkeaaProg
import Derived.Below
import Derived.Deep.Draws
import Derived.Deep.AppendLies
import Derived.Maps.AppendAt
import Derived.OwnWalk
import Derived.Laws.BytesArg
import Derived.Laws.MakeOwn
import Derived.Laws.OwnMore
import Derived.Deep.OwnRows
import Derived.Tactics
import Derived.Lib.ConvBytes
import Derived.Laws.Slices
import Derived.WalkKit
import Derived.KernelRfl
import Derived.RowKit3
import Derived.Deep.LoopGhost
import Derived.Deep.QuietTactic
import Derived.BigQuiet
import Derived.WideLaws
import Derived.Deep.DeepCutAuto
import Derived.Deep.CutBlock
import Derived.Deep.RegionHeld3
import Derived.Laws.Rows
import Derived.Lib.AppendStr
import Derived.ArgAppend
import Derived.Laws.IdiomCopy
import Derived.OrdersHeld
import Derived.Laws.BitsLemmas
import Derived.RowKit
import Derived.Test.YtimhiacjoplkeaaWWords
import Derived.Test.YtimhiacjoplkeaaWLast
import Derived.Test.YtimhiacjoplkeaaWTab
import Derived.Test.YtimhiacjoplkeaaWFour
import Derived.Test.YtimhiacjoplkeaaWQPut
import Derived.Test.YtimhiacjoplkeaaWApart
import Derived.Test.YtimhiacjoplkeaaWArr
import Derived.Test.YtimhiacjoplkeaaWZeros
import Derived.Test.YtimhiacjoplkeaaWFoot
import Derived.Test.YtimhiacjoplkeaaWKept
import Derived.Test.YtimhiacjoplkeaaWShare
import Derived.Test.YtimhiacjoplkeaaWN
import Derived.Test.YtimhiacjoplkeaaWFootNe
import Derived.Test.YtimhiacjoplkeaaWAt
import Derived.Test.YtimhiacjoplkeaaWEqStruct
import Derived.Test.YtimhiacjoplkeaaWRepsOne
import Derived.Test.YtimhiacjoplkeaaWInv
import Derived.Test.YtimhiacjoplkeaaWInvWords
import Derived.Test.YtimhiacjoplkeaaWGuard
import Derived.Test.YtimhiacjoplkeaaWNEv
import Derived.Test.YtimhiacjoplkeaaWMore
namespace Go.Proofs.Ytimhiacjoplkeaa.P
open Go.RowKit Go.Proofs.YtimhiacjoplkeaaW.PrintWords Go.Proofs.YtimhiacjoplkeaaW.PrintLast Go.Proofs.YtimhiacjoplkeaaW.PrintMore
attribute [local go_sem] max2_int min2_int max_two min_two max_three min_three max_four min_four   -- for this text's walks alone
set_option linter.unusedVariables false
set_option linter.unusedSimpArgs false



def errW : Option Int → Value
  | none => .nilIface
  | some c => .iface 0 (.int .i64 c)
theorem errW_none : errW none = .nilIface := rfl
theorem errW_some (c : Int) : errW (some c) = .iface 0 (.int .i64 c) := rfl

theorem info4 : (Try.prog.info? 4).map (fun i => (i.zero, i.size, i.bytes)) = some (some (.bool false), 1, 1) := by kernel_rfl
-- the values' own types

end Go.Proofs.Ytimhiacjoplkeaa.P
