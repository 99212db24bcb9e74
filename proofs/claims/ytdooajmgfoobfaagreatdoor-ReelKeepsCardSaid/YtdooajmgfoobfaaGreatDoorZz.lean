/- Short words for what the walks of drawn regions say again and again. -/
import Derived.Test.YtdooajmgfoobfaaGreatDoorWWords
namespace Go.Proofs.YtdooajmgfoobfaaGreatDoor.H
abbrev tt : Bool := true
abbrev ff : Bool := false
theorem sA : type_of% @List.setIfInBounds_toArray := @List.setIfInBounds_toArray
theorem sB : type_of% @List.set_cons_zero := @List.set_cons_zero
theorem sC : type_of% @List.set_cons_succ := @List.set_cons_succ
end Go.Proofs.YtdooajmgfoobfaaGreatDoor.H
