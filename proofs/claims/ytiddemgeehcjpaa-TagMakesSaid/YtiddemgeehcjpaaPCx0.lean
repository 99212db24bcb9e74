/- A part of the proof: words, contracts and walks that the other texts of this folder use. -/
-- laid by wip/xprint.py (a program of this session) over the kit's print; Lean checks it
import Derived.Test.YtiddemgeehcjpaaProg
import Derived.Below
import Derived.Deep.Draws
import Derived.Deep.AppendLies
import Derived.Maps.AppendAt
import Derived.OwnWalk
import Derived.Laws.BytesArg
import Derived.Laws.MakeOwn
import Derived.Laws.OwnMore
import Derived.Deep.OwnRows
import Derived.Tactics
import Derived.Lib.ConvBytes
import Derived.Laws.Slices
import Derived.WalkKit
import Derived.KernelRfl
import Derived.RowKit3
import Derived.Deep.LoopGhost
import Derived.Deep.QuietTactic
import Derived.BigQuiet
import Derived.WideLaws
import Derived.Deep.DeepCutAuto
import Derived.Deep.CutBlock
import Derived.Deep.RegionHeld3
import Derived.Laws.Rows
import Derived.Lib.AppendStr
import Derived.ArgAppend
import Derived.Laws.IdiomCopy
import Derived.OrdersHeld
import Derived.Laws.BitsLemmas
import Derived.RowKit
import Derived.Test.YtiddemgeehcjpaaPAx
import Derived.Test.YtiddemgeehcjpaaStr
import Derived.Test.YtiddemgeehcjpaaTagT
import Derived.Test.YtiddemgeehcjpaaTagL
import Derived.Test.YtiddemgeehcjpaaTagK
import Derived.Test.YtiddemgeehcjpaaWWords
import Derived.Test.YtiddemgeehcjpaaWLast
import Derived.Test.YtiddemgeehcjpaaWTab
import Derived.Test.YtiddemgeehcjpaaWFour
import Derived.Test.YtiddemgeehcjpaaWQPut
import Derived.Test.YtiddemgeehcjpaaWApart
import Derived.Test.YtiddemgeehcjpaaWArr
import Derived.Test.YtiddemgeehcjpaaWZeros
import Derived.Test.YtiddemgeehcjpaaWFoot
import Derived.Test.YtiddemgeehcjpaaWKept
import Derived.Test.YtiddemgeehcjpaaWShare
import Derived.Test.YtiddemgeehcjpaaWN
import Derived.Test.YtiddemgeehcjpaaWFootNe
import Derived.Test.YtiddemgeehcjpaaWAt
import Derived.Test.YtiddemgeehcjpaaWEqStruct
import Derived.Test.YtiddemgeehcjpaaWRepsOne
import Derived.Test.YtiddemgeehcjpaaWInv
import Derived.Test.YtiddemgeehcjpaaWInvWords
import Derived.Test.YtiddemgeehcjpaaWGuard
import Derived.Test.YtiddemgeehcjpaaWNEv
import Derived.Test.YtiddemgeehcjpaaWMore
namespace Go.Proofs.Ytiddemgeehcjpaa.PC
open Go.RowKit Go.Proofs.Ytiddemgeehcjpaa.PA Go.Proofs.Ytiddemgeehcjpaa.H Go.Proofs.YtiddemgeehcjpaaW.PrintWords Go.Proofs.YtiddemgeehcjpaaW.PrintLast Go.Proofs.YtiddemgeehcjpaaW.PrintMore
attribute [local go_sem] max2_int min2_int max_two min_two max_three min_three max_four min_four   -- for this text's walks alone
set_option linter.unusedVariables false
set_option linter.unusedSimpArgs false

theorem info32 : (Try.prog.info? 32).map (fun i => (i.zero, i.size, i.bytes)) = some (some (.agg #[(.string ⟨#[]⟩), (.string ⟨#[]⟩)]), 2, 32) := by kernel_rfl
-- the values' own types

end Go.Proofs.Ytiddemgeehcjpaa.PC
