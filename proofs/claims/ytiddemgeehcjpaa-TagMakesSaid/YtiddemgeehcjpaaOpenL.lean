/- What a row's reading tells of a slice of labels that is handed in. -/
import Derived.Test.YtiddemgeehcjpaaOpen
namespace Go.Proofs.Ytiddemgeehcjpaa.H
open Go.ChangeShapes Go.WideShapes Go.RowKit Go.Proofs.Ytiddemgeehcjpaa.PA Go.Proofs.YtiddemgeehcjpaaW.PrintWords Go.Proofs.YtiddemgeehcjpaaW.PrintLast Go.Proofs.YtiddemgeehcjpaaW.PrintMore
set_option linter.unusedVariables false
theorem open_labelsT {H : Type} {enc : TypeId × Value → H} {W : World} {base : Nat} {sp : Nat → Bool} {held : Bool} {a : Option Addr} {len cap : Nat} {y : DataW H × List MemPlace} (h : ∃ fuel, DataW.trod enc Try.prog W base sp held fuel 22 (Value.slice a len cap).cells.toList = some y) :
    ∃ (A : Option Addr) (c : Nat) (l : List S32), Value.slice a len cap = .slice A l.length c ∧ Kd.C k32 W A l.length l ∧ l.length ≤ c ∧
      ((DataW.weights Try.prog 22 y.1).all (· ≤ reachBytes) = true → (∀ x ∈ l, x.f0.size ≤ reachBytes ∧ x.f1.size ≤ reachBytes) ∧ l.length ≤ reachBytes) := by
  obtain ⟨fuel, hf⟩ := h
  obtain ⟨A, c, l, hcs, hC, hle, hw⟩ := open_labels hf
  refine ⟨A, c, l, ?_, hC, hle, hw⟩
  simpa [Value.cells] using hcs
end Go.Proofs.Ytiddemgeehcjpaa.H
