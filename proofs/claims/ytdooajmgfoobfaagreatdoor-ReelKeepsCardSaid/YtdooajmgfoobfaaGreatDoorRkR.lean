/- A region that draws its order, in a round of a loop over a function: walked as outside any fence. -/
import Derived.Test.YtdooajmgfoobfaaGreatDoorRkN
namespace Go.Proofs.YtdooajmgfoobfaaGreatDoor.H
open Go.RowKit Go.Proofs.YtdooajmgfoobfaaGreatDoorW.PrintWords Go.Proofs.YtdooajmgfoobfaaGreatDoorW.PrintLast Go.Proofs.YtdooajmgfoobfaaGreatDoorW.PrintMore
set_option linter.unusedVariables false
set_option linter.unusedSimpArgs false
section
variable {P : Program} {md : Region.Mode} {ops : Array Oper} {Q : Exit → Act → World → Prop} {n r : Nat}
def noDefer (ops : Array Oper) : Bool := ops.toList.all fun o => match o.op with | .defer _ => false | _ => true
theorem noDefer_at {i : Nat} {o : Oper} (h : noDefer ops = true) (ho : ops[i]? = some o) : ∀ c, o.op ≠ .defer c := fun c hc => by
  have h1 := List.all_eq_true.1 h o (by
    obtain ⟨hi, he⟩ := Array.getElem?_eq_some_iff.1 ho
    rw [← he]
    simp)
  rw [hc] at h1
  simp at h1
theorem uponIn_of {o : Oper} {a : Act} {K : Act → World → Prop} {R : Result Next} (h : o.upon P a K Q R) : o.uponIn (Fence.wide.inRound r) n P a K Q R := by
  cases R with
  | ok nx w' =>
    cases nx with
    | value v => exact h
    | skip => exact h
    | defer d => exact h
    | enter f args => exact ⟨fun h => by simp [Fence.wide] at h, callsIn_wide.2 h⟩
    | row rw args => exact ⟨fun h => by simp [Fence.wide] at h, fun c cs _ => by
        obtain ⟨v, w2, hr, hs⟩ := h c cs
        exact ⟨v, w2, hr, stepsIn_wide.2 hs⟩⟩
    | _ => exact h.elim
  | halt hh w' =>
    cases hh with
    | panic v => exact h
    | _ => exact h.elim
theorem wpIn_of_wp {o : Oper} {a : Act} {w : World} {K : Act → World → Prop} (hd : ∀ c, o.op ≠ .defer c) (h : o.wp P a w K Q) : o.wpIn (Fence.wide.inRound r) n P a w K Q := by
  unfold Oper.wpIn
  refine ⟨fun _ _ => trivial, ?_⟩
  rw [Oper.semAt_plain _ _ _ hd]
  exact uponIn_of h
theorem wpAnyIn_of_wpAny (hd : noDefer ops = true) (hlo : ¬ LetsOut Q) : ∀ (fuel : Nat) (l : Array Bool) (a : Act) (w : World), wpAny P md ops Q fuel l a w → wpAnyIn (Fence.wide.inRound r) n P md ops Q fuel l a w
  | 0, _, _, _, h => h
  | fuel + 1, l, a, w, h => ⟨h.1, fun i hi => by
    have h2 := h.2 i hi
    unfold wpOp at h2
    unfold wpOpIn
    cases ho : ops[i]? with
    | none =>
      rw [ho] at h2
      exact wpAnyIn_of_wpAny hd hlo fuel _ _ _ h2
    | some o =>
      rw [ho] at h2
      simp only at h2 ⊢
      split
      · next hw =>
        rw [if_pos hw] at h2
        rcases h2 with h2 | ⟨_, h2⟩
        · exact Oper.wpIn_mono (fun a' w' h3 => wpAnyIn_of_wpAny hd hlo fuel _ a' w' h3) (wpIn_of_wp (noDefer_at hd ho) h2)
        · exact absurd h2 hlo
      · next hw =>
        rw [if_neg hw] at h2
        exact ⟨fun _ _ => trivial, wpAnyIn_of_wpAny hd hlo fuel _ _ _ h2⟩⟩
variable {S : World → Prop} {ds : List Nat} {id m : Nat}
theorem startR_ {a : Act} {w : World} (l : Array Bool) (hd : noDefer ops = true) (hQ : ∀ a w, ¬ Q .outgrown a w) (hm : P.follows .mixedOrders = true) (hn : ops.size = m) (hl : Array.replicate m false = l) (hS : S w.drew)
    (h : S w.drew → wpAnyLast P .any ops Q S ds m l a w.drew) : (Code.region id ops true).wpIn (Fence.wide.inRound r) n P Q a w := by
  subst hn
  subst hl
  refine wpIn_region_any hm ?_
  exact wpAnyIn_of_wpAny hd (fun ⟨_, _, h⟩ => hQ _ _ h) _ _ _ _ (wpAny_of_last _ _ _ _ (h hS))
end
end Go.Proofs.YtdooajmgfoobfaaGreatDoor.H
