/- ReelGoes: what is asked of its input is that all of it are bytes. -/
import Derived.Test.YtdooajmgfoobfaaGreatDoorRqR
namespace Go.Proofs.YtdooajmgfoobfaaGreatDoor.Pure
theorem ReelGoes (l : List Int) (x : Int) (h : ∀ x ∈ l, 0 ≤ x ∧ x ≤ 255) (hw : (Lit.int .u8 x).wf = true) : true = true ∧ (∀ x ∈ l, 0 ≤ x ∧ x ≤ 255) ∧ (0 ≤ x ∧ x ≤ 255) := ⟨rfl, h, H.u8_wf hw⟩
end Go.Proofs.YtdooajmgfoobfaaGreatDoor.Pure
