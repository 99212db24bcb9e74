/- The document's example, told by tag.Make and tag.Text: the laws' fixed fact is true. -/
import Derived.Test.YtiddemgeehcjpaaTagK
import Derived.Test.YtiddemgeehcjpaaTagT
import Derived.Test.YtiddemgeehcjpaaTagQ
import Derived.Test.YtiddemgeehcjpaaPCx
namespace Go.Proofs.Ytiddemgeehcjpaa.H
open Go.RowKit Go.Proofs.Ytiddemgeehcjpaa.PA Go.Proofs.Ytiddemgeehcjpaa.PC Go.Proofs.YtiddemgeehcjpaaW.PrintWords Go.Proofs.YtiddemgeehcjpaaW.PrintLast Go.Proofs.YtiddemgeehcjpaaW.PrintMore
def eg1 : S32 := ⟨⟨#[122, 111, 110, 101]⟩, ⟨#[98]⟩⟩
def eg2 : S32 := ⟨⟨#[99, 111, 100, 101]⟩, ⟨#[50, 48, 48]⟩⟩
theorem eg_sort : sortN [eg1, eg2] = [eg2, eg1] := by
  refine (sorted_is (List.Perm.swap _ _ _) (fun i j hi hj => ?_) (by decide +kernel)).symm
  obtain ⟨rfl, rfl⟩ : i = 0 ∧ j = 1 := by simp only [List.length_cons, List.length_nil] at hj; omega
  show ltName eg1 eg2 = false
  decide +kernel
theorem awake02 : tidemilllaw02_awake.f = some true := by
  unfold tidemilllaw02_awake.f
  have h1 : tag_Make.f (⟨#[114, 101, 113, 115]⟩ : ByteArray) [eg1, eg2] = some (⟨#[114, 101, 113, 115]⟩, [eg2, eg1], 0) := by
    unfold tag_Make.f makeR
    rw [if_pos (by decide +kernel), eg_sort]
    rw [if_neg (by decide +kernel), if_neg (by decide +kernel), if_neg (by decide +kernel), if_neg (by decide +kernel)]
  change (tag_Make.f (⟨#[114, 101, 113, 115]⟩ : ByteArray) [eg1, eg2]).bind _ = _
  rw [h1, Option.bind_some, if_pos rfl]
  have h2 : tag_Text.f (⟨#[114, 101, 113, 115]⟩ : ByteArray) [eg2, eg1] = some (ba [114, 101, 113, 115, 123, 99, 111, 100, 101, 61, 50, 48, 48, 44, 122, 111, 110, 101, 61, 98, 125]) := by
    unfold tag_Text.f
    rw [if_pos (by decide +kernel)]
    rfl
  rw [h2, Option.bind_some, ba_tl]
  decide +kernel
end Go.Proofs.Ytiddemgeehcjpaa.H
