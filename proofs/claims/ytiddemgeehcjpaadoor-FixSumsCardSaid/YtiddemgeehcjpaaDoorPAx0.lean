/- A part of the proof: words, contracts and walks that the other texts of this folder use. -/
-- laid by wip/xprint.py (a program of this session) over the kit's print; Lean checks it
import Derived.Test.YtiddemgeehcjpaaDoorProg
import Derived.Below
import Derived.Deep.Draws
import Derived.Deep.AppendLies
import Derived.Maps.AppendAt
import Derived.OwnWalk
import Derived.Laws.BytesArg
import Derived.Laws.MakeOwn
import Derived.Laws.OwnMore
import Derived.Deep.OwnRows
import Derived.Tactics
import Derived.Lib.ConvBytes
import Derived.Laws.Slices
import Derived.WalkKit
import Derived.KernelRfl
import Derived.RowKit3
import Derived.Deep.LoopGhost
import Derived.Deep.QuietTactic
import Derived.BigQuiet
import Derived.WideLaws
import Derived.Deep.DeepCutAuto
import Derived.Deep.CutBlock
import Derived.Deep.RegionHeld3
import Derived.Laws.Rows
import Derived.Lib.AppendStr
import Derived.ArgAppend
import Derived.Laws.IdiomCopy
import Derived.OrdersHeld
import Derived.Laws.BitsLemmas
import Derived.RowKit
import Derived.Test.YtiddemgeehcjpaaDoorWWords
import Derived.Test.YtiddemgeehcjpaaDoorWLast
import Derived.Test.YtiddemgeehcjpaaDoorWTab
import Derived.Test.YtiddemgeehcjpaaDoorWFour
import Derived.Test.YtiddemgeehcjpaaDoorWQPut
import Derived.Test.YtiddemgeehcjpaaDoorWApart
import Derived.Test.YtiddemgeehcjpaaDoorWArr
import Derived.Test.YtiddemgeehcjpaaDoorWZeros
import Derived.Test.YtiddemgeehcjpaaDoorWFoot
import Derived.Test.YtiddemgeehcjpaaDoorWKept
import Derived.Test.YtiddemgeehcjpaaDoorWShare
import Derived.Test.YtiddemgeehcjpaaDoorWN
import Derived.Test.YtiddemgeehcjpaaDoorWFootNe
import Derived.Test.YtiddemgeehcjpaaDoorWAt
import Derived.Test.YtiddemgeehcjpaaDoorWEqStruct
import Derived.Test.YtiddemgeehcjpaaDoorWRepsOne
import Derived.Test.YtiddemgeehcjpaaDoorWInv
import Derived.Test.YtiddemgeehcjpaaDoorWInvWords
import Derived.Test.YtiddemgeehcjpaaDoorWGuard
import Derived.Test.YtiddemgeehcjpaaDoorWNEv
import Derived.Test.YtiddemgeehcjpaaDoorWMore
namespace Go.Proofs.YtiddemgeehcjpaaDoor.PA
open Go.RowKit Go.Proofs.YtiddemgeehcjpaaDoorW.PrintWords Go.Proofs.YtiddemgeehcjpaaDoorW.PrintLast Go.Proofs.YtiddemgeehcjpaaDoorW.PrintMore
attribute [local go_sem] max2_int min2_int max_two min_two max_three min_three max_four min_four   -- for this text's walks alone
set_option linter.unusedVariables false
set_option linter.unusedSimpArgs false

def errW : Option Int → Value
  | none => .nilIface
  | some c => .iface 0 (.int .i64 c)
theorem errW_none : errW none = .nilIface := rfl
theorem errW_some (c : Int) : errW (some c) = .iface 0 (.int .i64 c) := rfl

theorem info3 : (Tryd.prog.info? 3).map (fun i => (i.zero, i.size, i.bytes)) = some (some (.int .i64 0), 1, 8) := by kernel_rfl
-- the values' own types

end Go.Proofs.YtiddemgeehcjpaaDoor.PA
