/- The law TagNames: which texts are names, and values, is told as the reference tells it. -/
import Derived.Test.YtkclojakmhipnaaAwk
import Derived.Test.YtkclojakmhipnaaTagP
namespace Go.Proofs.Ytkclojakmhipnaa.Pure
open Go.RowKit Go.Proofs.Ytkclojakmhipnaa.H Go.Proofs.Ytkclojakmhipnaa.PA Go.Proofs.Ytkclojakmhipnaa.PC Go.Proofs.YtkclojakmhipnaaW.PrintWords Go.Proofs.YtkclojakmhipnaaW.PrintLast Go.Proofs.YtkclojakmhipnaaW.PrintMore
theorem TagNames : tidemilllaw02_TagNames.Pure := by
  intro s hs
  refine ⟨1000000000000000, ?_⟩
  unfold tidemilllaw02_TagNames.f
  rw [awake02, Option.bind_some, if_pos rfl]
  by_cases h : (s.size : Int) > 1000
  · rw [if_pos h]
  · rw [if_neg h, tagName_eq s (by omega) _ (by omega), Option.bind_some, refName_eq s (by omega) _ (by omega), Option.bind_some, if_pos (by simp), tagValue_eq s (by omega) _ (by omega), Option.bind_some, refValue_eq s (by omega) _ (by omega)]
    simp
end Go.Proofs.Ytkclojakmhipnaa.Pure
