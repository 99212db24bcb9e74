/- ReelOpens: what is asked of its input is that all of it are bytes. -/
import Derived.Test.YtdooajmgfoobfaaGreatDoorRqQ
namespace Go.Proofs.YtdooajmgfoobfaaGreatDoor.Pure
open Go.Proofs.YtdooajmgfoobfaaGreatDoor.H
theorem ReelOpens (l : List SAct) (cuts _keep : List Int) (h : ∀ x ∈ l, ∀ z ∈ x.f2, 0 ≤ z ∧ z ≤ 255) (h1 : ∀ y ∈ cuts, 0 ≤ y ∧ y ≤ 255) : true = true ∧ (∀ x ∈ l, ∀ y ∈ x.f2, 0 ≤ y ∧ y ≤ 255) ∧ ∀ y ∈ cuts, 0 ≤ y ∧ y ≤ 255 := ⟨rfl, h, h1⟩
end Go.Proofs.YtdooajmgfoobfaaGreatDoor.Pure
