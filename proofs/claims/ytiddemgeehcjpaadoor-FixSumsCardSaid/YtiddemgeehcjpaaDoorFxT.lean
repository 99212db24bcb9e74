/- What the rows of Fix hand to the walks: the numbers are of their kind; the table of powers of ten lies as its initialiser lays it. -/
import Derived.Test.YtiddemgeehcjpaaDoorFxL
import Derived.Test.YtiddemgeehcjpaaDoorRows
import Derived.Lib.LaidTab
import Derived.LaidMore
import Derived.MakeChecks
import Derived.Stop.LaidErr
namespace Go.Proofs.YtiddemgeehcjpaaDoor.H
open Go.RowKit Go.Shelf Go.Proofs.YtiddemgeehcjpaaDoor.PA Go.Proofs.YtiddemgeehcjpaaDoorW.PrintWords Go.Proofs.YtiddemgeehcjpaaDoorW.PrintLast Go.Proofs.YtiddemgeehcjpaaDoorW.PrintMore
set_option linter.unusedVariables false
theorem gTabType : (Tryd.prog.globals[1]?).map (·.type) = some 158 := by kernel_rfl
theorem tabD : (Rows.laid_internal_strconv_uint64pow10 : DataW Unit) = Lib.tabData .u64 Lib.pow10Tab := by kernel_rfl
theorem tab_of {W : World} {a b : String × DataW Unit} {rest : List (String × DataW Unit)} (hp : ((a :: b :: ("internal/strconv.uint64pow10", Rows.laid_internal_strconv_uint64pow10) :: rest).all fun x => x.2.handleName?.isNone) = true)
    (hL : laidMetH Tryd.prog (a :: b :: ("internal/strconv.uint64pow10", Rows.laid_internal_strconv_uint64pow10) :: rest) W) : Tab W := by
  rw [MakeChecks.laidMetH_plain _ _ _ hp, tabD] at hL
  have h2 := laidMet.tail (laidMet.tail hL)
  exact Lib.tabIs_of_head gTab gTabType Tryd.underlying158 Tryd.underlying70 (by kernel_rfl) (by kernel_rfl) h2
theorem i64_of {a : Int} (h : (Lit.int .i64 a).wf = true) : i64 a := by
  simp only [Lit.wf, Bool.and_eq_true, decide_eq_true_eq] at h
  exact h
end Go.Proofs.YtiddemgeehcjpaaDoor.H
namespace Go.Proofs.YtiddemgeehcjpaaDoor.Pure
open Go.Proofs.YtiddemgeehcjpaaDoor.H
end Go.Proofs.YtiddemgeehcjpaaDoor.Pure
