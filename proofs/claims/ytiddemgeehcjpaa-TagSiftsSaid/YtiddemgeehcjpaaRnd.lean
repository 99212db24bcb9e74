/- A region that draws its order and only reads, inside a round of a range over a function: one walk, in the order of the text. -/
import Derived.Sort.QuietTacIn
import Derived.RangeFuncCalls
import Derived.OwnWalkIn
namespace Go.Proofs.Ytiddemgeehcjpaa.H
open Go
set_option linter.unusedVariables false
theorem uponIn_round {F : Fence} {n : Nat} {P : Program} {o : Oper} {a : Act} {K K' : Act → World → Prop} {Q : Exit → Act → World → Prop} {l : Nat} (hK : ∀ a w, K a w → K' a w) (r : Result Next) (h : o.uponIn F n P a K Q r) : o.uponIn (F.inRound l) n P a K' Q r := by
  cases r with
  | ok x w =>
    cases x with
    | enter f args =>
      refine ⟨h.1, (show CallsIn (F.inRound l) (n - 1) P f args w _ from h.2).mono fun e w' he => ?_⟩
      cases e with
      | returned v => exact hK _ _ he
      | panicked c => exact he
      | outgrown => exact he
    | row s args => exact ⟨h.1, (show RowsIn (F.inRound l) (n - 1) P s args w _ from h.2).mono fun v w' he => hK _ _ he⟩
    | round r f tmps assign body =>
      refine ⟨h.1, (show RoundIn (F.inRound l) (n - 1) P r f tmps assign body w _ from h.2).mono fun e w' he => ?_⟩
      cases e with
      | returned v => exact hK _ _ he
      | panicked c => exact he
      | outgrown => exact he
    | _ => first | exact hK _ _ h | exact h
  | halt x w => cases x <;> exact h
theorem wpOpIn_round {F : Fence} {n : Nat} {P : Program} {ops : Array Oper} {K K' : Act → World → Prop} {Q : Exit → Act → World → Prop} {l i : Nat} {a : Act} {w : World} (hro : F.round = none) (hd : ∀ o ∈ ops.toList, ∀ c, o.op ≠ .defer c)
    (hK : ∀ a w, K a w → K' a w) (h : wpOpIn F n P ops Q i K a w) : wpOpIn (F.inRound l) n P ops Q i K' a w := by
  unfold wpOpIn at h ⊢
  split
  · rename_i ho
    simp only [ho] at h
    exact hK _ _ h
  · rename_i o ho
    simp only [ho] at h
    have hop : ∀ c, o.op ≠ .defer c := hd o (by
      obtain ⟨hlt, hk⟩ := Array.getElem?_eq_some_iff.1 ho
      rw [← hk]
      exact Array.mem_toList_iff.2 (Array.getElem_mem hlt))
    split
    · rename_i hw
      simp only [hw, if_true] at h
      obtain ⟨h1, h2⟩ := h
      refine ⟨h1, ?_⟩
      rw [Oper.semAt_plain _ _ _ hop] at h2 ⊢
      exact uponIn_round hK _ h2
    · rename_i hw
      simp only [hw] at h
      exact ⟨h.1, hK _ _ h.2⟩
theorem wpAnyIn_round {F : Fence} {n : Nat} {P : Program} {md : Region.Mode} {ops : Array Oper} {Q : Exit → Act → World → Prop} {l : Nat} (hro : F.round = none) (hd : ∀ o ∈ ops.toList, ∀ c, o.op ≠ .defer c) :
    ∀ (fuel : Nat) (listed : Array Bool) (a : Act) (w : World), wpAnyIn F n P md ops Q fuel listed a w → wpAnyIn (F.inRound l) n P md ops Q fuel listed a w
  | 0, _, _, _, h => h
  | fuel + 1, _, _, _, h => ⟨h.1, fun i hi => wpOpIn_round hro hd (fun a w hh => wpAnyIn_round hro hd fuel _ a w hh) (h.2 i hi)⟩
theorem wpIn_region_quiet_round {F : Fence} {n : Nat} {P : Program} {id : Nat} {Q : Exit → Act → World → Prop} {a : Act} {w : World} {l : List Oper} {lp : Nat} (hro : F.round = none) (hd : ∀ o ∈ l, ∀ c, o.op ≠ .defer c) (hm : P.follows .mixedOrders = true) (hB : Region.lexB .any l.toArray = true)
    (h : wpQuietIn F n P l.toArray (fun w' => ∃ n, w' = w.drewN n) (fun a' => ∀ w', (∃ n, w' = w.drewN n) → Q .normal a' w') l a) : (Code.region id l.toArray true).wpIn (F.inRound lp) n P Q a w := by
  have hB' := hB
  simp only [Region.lexB, Bool.and_eq_true] at hB'
  refine wpIn_region_any hm (wpAnyIn_round hro (by simpa using hd) _ _ _ _ (wpAnyIn_of_quiet (C := fun w' => ∃ n, w' = w.drewN n) (Q := fun a' => ∀ w', (∃ n, w' = w.drewN n) → Q .normal a' w') hro (fun _ w' hw' h => h w' hw') _ _ _ _ ⟨1, rfl⟩ ?_))
  have := wpAnyQIn_lex (F := F) (n := n) (C := fun w' => ∃ n, w' = w.drewN n) (md := .any) hB'.1 l.toArray.toList 0 (Array.replicate l.toArray.size false) a (by simp) (by simpa using hB'.2) (by simpa using h)
  simpa using this
end Go.Proofs.Ytiddemgeehcjpaa.H
