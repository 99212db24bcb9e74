/- A part of the proof: words, contracts and walks that the other texts of this folder use. -/
-- laid by wip/xprint.py (a program of this session) over the kit's print; Lean checks it
import Derived.Test.YtdgdpkemboeaeaaDoorProg
import Derived.Below
import Derived.Deep.Draws
import Derived.Deep.AppendLies
import Derived.Maps.AppendAt
import Derived.OwnWalk
import Derived.Laws.BytesArg
import Derived.Laws.MakeOwn
import Derived.Laws.OwnMore
import Derived.Deep.OwnRows
import Derived.Tactics
import Derived.Lib.ConvBytes
import Derived.Laws.Slices
import Derived.WalkKit
import Derived.KernelRfl
import Derived.RowKit3
import Derived.Deep.LoopGhost
import Derived.Deep.QuietTactic
import Derived.BigQuiet
import Derived.WideLaws
import Derived.Deep.DeepCutAuto
import Derived.Deep.CutBlock
import Derived.Deep.RegionHeld3
import Derived.Laws.Rows
import Derived.Lib.AppendStr
import Derived.ArgAppend
import Derived.Laws.IdiomCopy
import Derived.OrdersHeld
import Derived.Laws.BitsLemmas
import Derived.RowKit
import Derived.Test.YtdgdpkemboeaeaaDoorPTx
import Derived.Test.YtdgdpkemboeaeaaDoorTpS
import Derived.Test.YtdgdpkemboeaeaaDoorTpV
import Derived.Test.YtdgdpkemboeaeaaDoorWWords
import Derived.Test.YtdgdpkemboeaeaaDoorWLast
import Derived.Test.YtdgdpkemboeaeaaDoorWTab
import Derived.Test.YtdgdpkemboeaeaaDoorWFour
import Derived.Test.YtdgdpkemboeaeaaDoorWQPut
import Derived.Test.YtdgdpkemboeaeaaDoorWApart
import Derived.Test.YtdgdpkemboeaeaaDoorWArr
import Derived.Test.YtdgdpkemboeaeaaDoorWZeros
import Derived.Test.YtdgdpkemboeaeaaDoorWFoot
import Derived.Test.YtdgdpkemboeaeaaDoorWKept
import Derived.Test.YtdgdpkemboeaeaaDoorWShare
import Derived.Test.YtdgdpkemboeaeaaDoorWN
import Derived.Test.YtdgdpkemboeaeaaDoorWFootNe
import Derived.Test.YtdgdpkemboeaeaaDoorWAt
import Derived.Test.YtdgdpkemboeaeaaDoorWEqStruct
import Derived.Test.YtdgdpkemboeaeaaDoorWRepsOne
import Derived.Test.YtdgdpkemboeaeaaDoorWInv
import Derived.Test.YtdgdpkemboeaeaaDoorWInvWords
import Derived.Test.YtdgdpkemboeaeaaDoorWGuard
import Derived.Test.YtdgdpkemboeaeaaDoorWNEv
import Derived.Test.YtdgdpkemboeaeaaDoorWMore
namespace Go.Proofs.YtdgdpkemboeaeaaDoor.PU
open Go.RowKit Go.Proofs.YtdgdpkemboeaeaaDoor.PT Go.Proofs.YtdgdpkemboeaeaaDoor.H Go.Proofs.YtdgdpkemboeaeaaDoorW.PrintWords Go.Proofs.YtdgdpkemboeaeaaDoorW.PrintLast Go.Proofs.YtdgdpkemboeaeaaDoorW.PrintMore
attribute [local go_sem] max2_int min2_int max_two min_two max_three min_three max_four min_four   -- for this text's walks alone
set_option linter.unusedVariables false
set_option linter.unusedSimpArgs false

theorem info5 : (Tryd.prog.info? 5).map (fun i => (i.zero, i.size, i.bytes)) = some (some (.int .u8 0), 1, 1) := by kernel_rfl
-- the values' own types

end Go.Proofs.YtdgdpkemboeaeaaDoor.PU
