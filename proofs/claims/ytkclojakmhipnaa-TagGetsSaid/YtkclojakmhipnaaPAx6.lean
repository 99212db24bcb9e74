/- A part of the proof: words, contracts and walks that the other texts of this folder use. -/
-- laid by wip/xprint.py (a program of this session) over the kit's print; Lean checks it
import Derived.Test.YtkclojakmhipnaaPAx0
import Derived.Test.YtkclojakmhipnaaPAx1
namespace Go.Proofs.Ytkclojakmhipnaa.PA
open Go.RowKit Go.Proofs.Ytkclojakmhipnaa.H Go.Proofs.YtkclojakmhipnaaW.PrintWords Go.Proofs.YtkclojakmhipnaaW.PrintLast Go.Proofs.YtkclojakmhipnaaW.PrintMore
attribute [local go_sem] max2_int min2_int max_two min_two max_three min_three max_four min_four   -- for this text's walks alone
set_option linter.unusedVariables false
set_option linter.unusedSimpArgs false

attribute [local go_sem high] eqA33
-- NOT PRINTED: function 13 (tidemillref02_Make)

end Go.Proofs.Ytkclojakmhipnaa.PA
