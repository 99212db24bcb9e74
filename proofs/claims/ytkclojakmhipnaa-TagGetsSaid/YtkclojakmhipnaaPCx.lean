/- A part of the proof: words, contracts and walks that the other texts of this folder use. -/
-- laid by wip/xprint.py (a program of this session) over the kit's print; Lean checks it
import Derived.Test.YtkclojakmhipnaaPCx0
import Derived.Test.YtkclojakmhipnaaPCx1
namespace Go.Proofs.Ytkclojakmhipnaa.PC
open Go.RowKit Go.Proofs.Ytkclojakmhipnaa.PA Go.Proofs.Ytkclojakmhipnaa.H Go.Proofs.YtkclojakmhipnaaW.PrintWords Go.Proofs.YtkclojakmhipnaaW.PrintLast Go.Proofs.YtkclojakmhipnaaW.PrintMore
attribute [local go_sem] max2_int min2_int max_two min_two max_three min_three max_four min_four   -- for this text's walks alone
set_option linter.unusedVariables false
set_option linter.unusedSimpArgs false

end Go.Proofs.Ytkclojakmhipnaa.PC
