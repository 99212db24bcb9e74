/- Cutting and splitting at one byte, told on lists; the reference's Cut, Texts and Word. -/
import Derived.Test.YtkclojakmhipnaaTagP
import Derived.Test.YtkclojakmhipnaaTagL
import Derived.Test.YtkclojakmhipnaaTagM
namespace Go.Proofs.Ytkclojakmhipnaa.H
open Go.RowKit Go.Shelf Go.Proofs.Ytkclojakmhipnaa.PA Go.Proofs.YtkclojakmhipnaaW.PrintWords Go.Proofs.YtkclojakmhipnaaW.PrintLast Go.Proofs.YtkclojakmhipnaaW.PrintMore
set_option linter.unusedVariables false

/-- A string of some bytes. -/
def ba (l : List UInt8) : ByteArray := ⟨l.toArray⟩
theorem ba_data (l : List UInt8) : (ba l).data.toList = l := rfl
theorem ba_tl (l : List UInt8) : (ba l).toList = l := by rw [Lib.toList_data, ba_data]

end Go.Proofs.Ytkclojakmhipnaa.H
