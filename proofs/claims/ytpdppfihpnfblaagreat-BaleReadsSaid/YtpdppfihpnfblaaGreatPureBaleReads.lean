/- What the law asks, told plainly. -/
import Derived.Test.YtpdppfihpnfblaaGreatBlZ
namespace Go.Proofs.YtpdppfihpnfblaaGreat.Pure
theorem BaleReads (l : List Int) (h : ∀ x ∈ l, 0 ≤ x ∧ x ≤ 255) : true = true ∧ ∀ x ∈ l, 0 ≤ x ∧ x ≤ 255 := ⟨rfl, h⟩
end Go.Proofs.YtpdppfihpnfblaaGreat.Pure
