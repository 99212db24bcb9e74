/- A part of the proof: words, contracts and walks that the other texts of this folder use. -/
-- laid by wip/xprint.py (a program of this session) over the kit's print; Lean checks it
import Derived.Test.YtkclojakmhipnaaProg
import Derived.Below
import Derived.Deep.Draws
import Derived.Deep.AppendLies
import Derived.Maps.AppendAt
import Derived.OwnWalk
import Derived.Laws.BytesArg
import Derived.Laws.MakeOwn
import Derived.Laws.OwnMore
import Derived.Deep.OwnRows
import Derived.Tactics
import Derived.Lib.ConvBytes
import Derived.Laws.Slices
import Derived.WalkKit
import Derived.KernelRfl
import Derived.RowKit3
import Derived.Deep.LoopGhost
import Derived.Deep.QuietTactic
import Derived.BigQuiet
import Derived.WideLaws
import Derived.Deep.DeepCutAuto
import Derived.Deep.CutBlock
import Derived.Deep.RegionHeld3
import Derived.Laws.Rows
import Derived.Lib.AppendStr
import Derived.ArgAppend
import Derived.Laws.IdiomCopy
import Derived.OrdersHeld
import Derived.Laws.BitsLemmas
import Derived.RowKit
import Derived.Test.YtkclojakmhipnaaPAx
import Derived.Test.YtkclojakmhipnaaStr
import Derived.Test.YtkclojakmhipnaaTagT
import Derived.Test.YtkclojakmhipnaaTagL
import Derived.Test.YtkclojakmhipnaaTagK
import Derived.Test.YtkclojakmhipnaaWWords
import Derived.Test.YtkclojakmhipnaaWLast
import Derived.Test.YtkclojakmhipnaaWTab
import Derived.Test.YtkclojakmhipnaaWFour
import Derived.Test.YtkclojakmhipnaaWQPut
import Derived.Test.YtkclojakmhipnaaWApart
import Derived.Test.YtkclojakmhipnaaWArr
import Derived.Test.YtkclojakmhipnaaWZeros
import Derived.Test.YtkclojakmhipnaaWFoot
import Derived.Test.YtkclojakmhipnaaWKept
import Derived.Test.YtkclojakmhipnaaWShare
import Derived.Test.YtkclojakmhipnaaWN
import Derived.Test.YtkclojakmhipnaaWFootNe
import Derived.Test.YtkclojakmhipnaaWAt
import Derived.Test.YtkclojakmhipnaaWEqStruct
import Derived.Test.YtkclojakmhipnaaWRepsOne
import Derived.Test.YtkclojakmhipnaaWInv
import Derived.Test.YtkclojakmhipnaaWInvWords
import Derived.Test.YtkclojakmhipnaaWGuard
import Derived.Test.YtkclojakmhipnaaWNEv
import Derived.Test.YtkclojakmhipnaaWMore
namespace Go.Proofs.Ytkclojakmhipnaa.PC
open Go.RowKit Go.Proofs.Ytkclojakmhipnaa.PA Go.Proofs.Ytkclojakmhipnaa.H Go.Proofs.YtkclojakmhipnaaW.PrintWords Go.Proofs.YtkclojakmhipnaaW.PrintLast Go.Proofs.YtkclojakmhipnaaW.PrintMore
attribute [local go_sem] max2_int min2_int max_two min_two max_three min_three max_four min_four   -- for this text's walks alone
set_option linter.unusedVariables false
set_option linter.unusedSimpArgs false

-- the values' own types

end Go.Proofs.Ytkclojakmhipnaa.PC
