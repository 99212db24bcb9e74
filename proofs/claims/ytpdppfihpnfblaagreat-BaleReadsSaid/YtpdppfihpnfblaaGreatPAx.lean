/- A part of the proof: words, contracts and walks that the other texts of this folder use. -/
-- laid by wip/xprint.py (a program of this session) over the kit's print; Lean checks it
import Derived.Test.YtpdppfihpnfblaaGreatPAx0
import Derived.Test.YtpdppfihpnfblaaGreatPAx1
import Derived.Test.YtpdppfihpnfblaaGreatPAx2
namespace Go.Proofs.YtpdppfihpnfblaaGreat.PA
open Go.RowKit Go.Proofs.YtpdppfihpnfblaaGreatW.PrintWords Go.Proofs.YtpdppfihpnfblaaGreatW.PrintLast Go.Proofs.YtpdppfihpnfblaaGreatW.PrintMore
attribute [local go_sem] max2_int min2_int max_two min_two max_three min_three max_four min_four   -- for this text's walks alone
set_option linter.unusedVariables false
set_option linter.unusedSimpArgs false

end Go.Proofs.YtpdppfihpnfblaaGreat.PA
