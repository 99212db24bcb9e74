/- A part of the proof: words, contracts and walks that the other texts of this folder use. -/
-- PRINTED BY print.sh 35421559b90ae4d0a3588c463048766b98c2df88dd9212a6774a882060cdf62d: not written by this session
import Derived.Test.YtpdppfihpnfblaaGreatWInv
import Derived.Test.YtpdppfihpnfblaaGreatWFootNe
namespace Go.Proofs.YtpdppfihpnfblaaGreatW.PrintWords
open Go.RowKit
end Go.Proofs.YtpdppfihpnfblaaGreatW.PrintWords
namespace Go.Proofs.YtpdppfihpnfblaaGreatW.PrintLast
section
variable {ops : Array Oper} {a : Act} {o og : Oper} {g : Nat} {t : Tmp} {u : Bool}
end
end Go.Proofs.YtpdppfihpnfblaaGreatW.PrintLast
