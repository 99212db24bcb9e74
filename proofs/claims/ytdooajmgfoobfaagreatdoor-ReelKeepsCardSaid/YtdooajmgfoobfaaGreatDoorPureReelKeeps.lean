/- ReelKeeps: what is asked of its input is that its numbers are of their kinds. -/
import Derived.Test.YtdooajmgfoobfaaGreatDoorRqL
namespace Go.Proofs.YtdooajmgfoobfaaGreatDoor.Pure
open Go.Proofs.YtdooajmgfoobfaaGreatDoor.H
theorem ReelKeeps (roll : Int) (l : List SAct) (hw : (Lit.int .u16 roll).wf = true) (h : ∀ x ∈ l, ∀ z ∈ x.f2, 0 ≤ z ∧ z ≤ 255) : true = true ∧ (0 ≤ roll ∧ roll ≤ 65535) ∧ ∀ x ∈ l, ∀ y ∈ x.f2, 0 ≤ y ∧ y ≤ 255 := ⟨rfl, u16_wf hw, h⟩
end Go.Proofs.YtdooajmgfoobfaaGreatDoor.Pure
