/- The law TagReads: any text is read as the reference reads it, and what is read has that text. -/
import Derived.Test.YtkclojakmhipnaaDoorTagS
namespace Go.Proofs.YtkclojakmhipnaaDoor.H
open Go.RowKit Go.Proofs.YtkclojakmhipnaaDoor.PA Go.Proofs.YtkclojakmhipnaaDoor.PC Go.Proofs.YtkclojakmhipnaaDoorW.PrintWords Go.Proofs.YtkclojakmhipnaaDoorW.PrintLast Go.Proofs.YtkclojakmhipnaaDoorW.PrintMore
def eg1 : S53 := ⟨⟨#[122, 111, 110, 101]⟩, ⟨#[98]⟩⟩
def eg2 : S53 := ⟨⟨#[99, 111, 100, 101]⟩, ⟨#[50, 48, 48]⟩⟩
theorem eg_sort : sortN [eg1, eg2] = [eg2, eg1] := by
  refine (sorted_is (List.Perm.swap _ _ _) (fun i j hi hj => ?_) (by decide +kernel)).symm
  obtain ⟨rfl, rfl⟩ : i = 0 ∧ j = 1 := by simp only [List.length_cons, List.length_nil] at hj; omega
  show ltName eg1 eg2 = false
  decide +kernel
theorem awake02 : tidemilllaw02_awake.f = some true := by
  unfold tidemilllaw02_awake.f
  have h1 : tag_Make.f (⟨#[114, 101, 113, 115]⟩ : ByteArray) [eg1, eg2] = some (⟨#[114, 101, 113, 115]⟩, [eg2, eg1], 0) := by
    unfold tag_Make.f makeR
    rw [if_pos (by decide +kernel), eg_sort]
    rw [if_neg (by decide +kernel), if_neg (by decide +kernel), if_neg (by decide +kernel), if_neg (by decide +kernel)]
  change (tag_Make.f (⟨#[114, 101, 113, 115]⟩ : ByteArray) [eg1, eg2]).bind _ = _
  rw [h1, Option.bind_some, if_pos rfl]
  have h2 : tag_Text.f (⟨#[114, 101, 113, 115]⟩ : ByteArray) [eg2, eg1] = some (ba [114, 101, 113, 115, 123, 99, 111, 100, 101, 61, 50, 48, 48, 44, 122, 111, 110, 101, 61, 98, 125]) := by
    unfold tag_Text.f
    rw [if_pos (by decide +kernel)]
    rfl
  rw [h2, Option.bind_some, ba_tl]
  decide +kernel
end Go.Proofs.YtkclojakmhipnaaDoor.H
namespace Go.Proofs.YtkclojakmhipnaaDoor.Pure
open Go.RowKit Go.Proofs.YtkclojakmhipnaaDoor.H Go.Proofs.YtkclojakmhipnaaDoor.PA Go.Proofs.YtkclojakmhipnaaDoor.PC Go.Proofs.YtkclojakmhipnaaDoorW.PrintWords Go.Proofs.YtkclojakmhipnaaDoorW.PrintLast Go.Proofs.YtkclojakmhipnaaDoorW.PrintMore
theorem TagReads : tidemilllaw02_TagReads.Pure := by
  intro s hs
  refine ⟨100000, ?_⟩
  unfold tidemilllaw02_TagReads.f
  rw [awake02, Option.bind_some, if_pos rfl, show (100000 : Nat) = 99999 + 1 from rfl]
  simp only [tidemilllaw02_TagReads.j0]
  by_cases h : (s.size : Int) > 2000
  · rw [if_pos (decide_eq_true h), awake02]
    rfl
  · rw [if_neg (by simpa using h), tagRead_eq s 2000 (by omega) (by omega) _ (by omega), Option.bind_some, refRead_eq s 2000 (by omega) (by omega) _ (by omega), Option.bind_some]
    rcases reads_agree s with ⟨h1, h2⟩ | ⟨m, l, h1, h2, hg, ht⟩
    · rw [h1, h2]
      have hb : (badR : ByteArray × List S53 × Bool).2.2 = false := rfl
      simp only [hb]
      rw [if_neg (by decide), if_pos trivial, if_pos (by rw [Lib.toList_data])]
      rfl
    · rw [h1, h2]
      have hs := good_short hg
      simp only []
      rw [if_pos trivial, if_pos trivial, same_self m l (by omega) _ (by omega), Option.bind_some, if_pos rfl, tagText_good hg, Option.bind_some, ba_tl, Lib.toList_data, ht]
      simp
end Go.Proofs.YtkclojakmhipnaaDoor.Pure
