/- What a row's reading tells of a slice of strings that is handed in: the cells that the walks want. -/
import Derived.Test.YtiddemgeehcjpaaProg
import Derived.Test.YtiddemgeehcjpaaPl
import Derived.Test.YtiddemgeehcjpaaWMore
import Derived.SliceStrings
import Derived.WideShapes
namespace Go.Proofs.Ytiddemgeehcjpaa.H
open Go.ChangeShapes Go.WideShapes Go.RowKit Go.Proofs.YtiddemgeehcjpaaW.PrintWords Go.Proofs.YtiddemgeehcjpaaW.PrintLast Go.Proofs.YtiddemgeehcjpaaW.PrintMore
set_option linter.unusedVariables false
theorem open_rowS {H : Type} {enc : TypeId × Value → H} {W : World} {base : Nat} {sp : Nat → Bool} {held : Bool} {a : Option Addr} {len cap : Nat} {y : DataW H × List MemPlace} (h : ∃ fuel, DataW.trod enc Try.prog W base sp held fuel 36 (Value.slice a len cap).cells.toList = some y) :
    ∃ l : List ByteArray, len = l.length ∧ l.length ≤ cap ∧ Kd.string.C W a l.length l := by
  obtain ⟨fuel, hf⟩ := h
  rcases open_strings Try.underlying36 Try.underlying9 (by kernel_rfl) hf with ⟨hcs, _⟩ | ⟨x, n, c, zs, hcs, _, hl, hm, hz, _, hcell, _⟩
  · simp [Value.cells] at hcs
    obtain ⟨rfl, rfl, rfl⟩ := hcs
    exact ⟨[], rfl, Nat.le_refl _, Kd.C_of_reads (d := ByteArray.empty) ⟨rfl, by simp, fun h => by simp at h⟩⟩
  · simp [Value.cells] at hcs
    obtain ⟨rfl, rfl, rfl⟩ := hcs
    have hzl : len ≤ zs.length := by rw [hz]; split <;> omega
    have hlen : (zs.take len).length = len := by rw [List.length_take]; omega
    unfold maxLen at hm
    refine ⟨zs.take len, hlen.symm, by omega, Kd.C_of_reads (d := ByteArray.empty) ⟨rfl, by omega, fun h => ⟨x, rfl, fun j hj => ?_⟩⟩⟩
    rw [hcell j (by omega), List.getD_eq_getElem?_getD, List.getD_eq_getElem?_getD, List.getElem?_take, if_pos (by omega)]
end Go.Proofs.Ytiddemgeehcjpaa.H
