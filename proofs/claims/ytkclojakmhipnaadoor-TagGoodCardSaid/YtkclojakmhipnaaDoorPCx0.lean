/- A part of the proof: words, contracts and walks that the other texts of this folder use. -/
-- laid by wip/xprint.py (a program of this session) over the kit's print; Lean checks it
import Derived.Test.YtkclojakmhipnaaDoorProg
import Derived.Below
import Derived.Deep.Draws
import Derived.Deep.AppendLies
import Derived.Maps.AppendAt
import Derived.OwnWalk
import Derived.Laws.BytesArg
import Derived.Laws.MakeOwn
import Derived.Laws.OwnMore
import Derived.Deep.OwnRows
import Derived.Tactics
import Derived.Lib.ConvBytes
import Derived.Laws.Slices
import Derived.WalkKit
import Derived.KernelRfl
import Derived.RowKit3
import Derived.Deep.LoopGhost
import Derived.Deep.QuietTactic
import Derived.BigQuiet
import Derived.WideLaws
import Derived.Deep.DeepCutAuto
import Derived.Deep.CutBlock
import Derived.Deep.RegionHeld3
import Derived.Laws.Rows
import Derived.Lib.AppendStr
import Derived.ArgAppend
import Derived.Laws.IdiomCopy
import Derived.OrdersHeld
import Derived.Laws.BitsLemmas
import Derived.RowKit
import Derived.Test.YtkclojakmhipnaaDoorPAx
import Derived.Test.YtkclojakmhipnaaDoorStr
import Derived.Test.YtkclojakmhipnaaDoorTagT
import Derived.Test.YtkclojakmhipnaaDoorTagL
import Derived.Test.YtkclojakmhipnaaDoorTagK
import Derived.Test.YtkclojakmhipnaaDoorTagR
import Derived.Test.YtkclojakmhipnaaDoorWWords
import Derived.Test.YtkclojakmhipnaaDoorWLast
import Derived.Test.YtkclojakmhipnaaDoorWTab
import Derived.Test.YtkclojakmhipnaaDoorWFour
import Derived.Test.YtkclojakmhipnaaDoorWQPut
import Derived.Test.YtkclojakmhipnaaDoorWApart
import Derived.Test.YtkclojakmhipnaaDoorWArr
import Derived.Test.YtkclojakmhipnaaDoorWZeros
import Derived.Test.YtkclojakmhipnaaDoorWFoot
import Derived.Test.YtkclojakmhipnaaDoorWKept
import Derived.Test.YtkclojakmhipnaaDoorWShare
import Derived.Test.YtkclojakmhipnaaDoorWN
import Derived.Test.YtkclojakmhipnaaDoorWFootNe
import Derived.Test.YtkclojakmhipnaaDoorWAt
import Derived.Test.YtkclojakmhipnaaDoorWEqStruct
import Derived.Test.YtkclojakmhipnaaDoorWRepsOne
import Derived.Test.YtkclojakmhipnaaDoorWInv
import Derived.Test.YtkclojakmhipnaaDoorWInvWords
import Derived.Test.YtkclojakmhipnaaDoorWGuard
import Derived.Test.YtkclojakmhipnaaDoorWNEv
import Derived.Test.YtkclojakmhipnaaDoorWMore
namespace Go.Proofs.YtkclojakmhipnaaDoor.PC
open Go.RowKit Go.Proofs.YtkclojakmhipnaaDoor.PA Go.Proofs.YtkclojakmhipnaaDoor.H Go.Proofs.YtkclojakmhipnaaDoorW.PrintWords Go.Proofs.YtkclojakmhipnaaDoorW.PrintLast Go.Proofs.YtkclojakmhipnaaDoorW.PrintMore
attribute [local go_sem] max2_int min2_int max_two min_two max_three min_three max_four min_four   -- for this text's walks alone
set_option linter.unusedVariables false
set_option linter.unusedSimpArgs false

theorem info53 : (Tryd.prog.info? 53).map (fun i => (i.zero, i.size, i.bytes)) = some (some (.agg #[(.string ⟨#[]⟩), (.string ⟨#[]⟩)]), 2, 32) := by kernel_rfl
-- the values' own types

end Go.Proofs.YtkclojakmhipnaaDoor.PC
