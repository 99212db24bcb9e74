/- tag.Good, told plainly. -/
import Derived.Test.YtiddemgeehcjpaaTagQ
import Derived.Test.YtiddemgeehcjpaaPCx
namespace Go.Proofs.Ytiddemgeehcjpaa.H
open Go.RowKit Go.Shelf Go.Proofs.Ytiddemgeehcjpaa.PA Go.Proofs.Ytiddemgeehcjpaa.PC Go.Proofs.YtiddemgeehcjpaaW.PrintWords Go.Proofs.YtiddemgeehcjpaaW.PrintLast Go.Proofs.YtiddemgeehcjpaaW.PrintMore
set_option linter.unusedVariables false
/-! tag.Good -/
theorem bool_if (a b : Bool) : (if a = true then some b else some false) = some (a && b) := by cases a <;> rfl
theorem len_six (l : List S32) : decide ((l.length : Int) ≤ 6) = decide (l.length ≤ 6) := by rw [decide_eq_decide]; omega
theorem labels_eq (l : List S32) (Z : Nat) (hZ : Z ≤ 140737488355328) (hW : Within Z l) : tag_labels.f l = some (l.all okS) := by
  unfold tag_labels.f
  rw [if_pos]
  rw [List.all_eq_true]
  intro x hx
  have := hW x hx
  rw [Bool.and_eq_true, decide_eq_true_eq, decide_eq_true_eq]
  omega
theorem tagGood_loop (m : ByteArray) (l : List S32) (Z : Nat) (hZ : Z ≤ 140737488355328) (hm : m.size ≤ Z) (hl : l.length ≤ 140737488355328) (hW : Within Z l) : ∀ (R P : List S32) (p : S32) (k : Nat), l = P ++ p :: R → R.length + Z + 3 < k →
    tag_Good.l0 k ((P.length + 1 : Nat) : Int) m l = some (ascF p R && (nameB m && (l.all okS && decide (l.length ≤ 6)))) := by
  intro R
  induction R with
  | nil =>
    intro P p k hP hk
    obtain ⟨k, rfl⟩ : ∃ m, k = m + 1 := ⟨k - 1, by omega⟩
    simp only [tag_Good.l0]
    have : l.length = P.length + 1 := by rw [hP]; simp
    rw [if_neg (by omega), tagName_eq m (by omega) k (by omega), Option.bind_some, labels_eq l Z hZ hW, Option.bind_some, len_six]
    simp only [bool_if, ascF, Bool.true_and]
  | cons x R ih =>
    intro P p k hP hk
    simp only [List.length_cons] at hk
    obtain ⟨k, rfl⟩ : ∃ m, k = m + 1 := ⟨k - 1, by omega⟩
    have hlen : l.length = P.length + (R.length + 1 + 1) := by rw [hP]; simp
    have h1 : rd_T32 l (P.length : Int) = p := by rw [hP, rd_at]
    have h2 : rd_T32 l ((P.length + 1 : Nat) : Int) = x := by
      have := rd_at (P ++ [p]) x R
      rw [List.append_assoc, List.length_append] at this
      rw [hP]
      exact this
    simp only [tag_Good.l0]
    rw [wrap_in (n := ((P.length + 1 : Nat) : Int) - 1) (by omega) (by omega), show ((P.length + 1 : Nat) : Int) - 1 = (P.length : Int) by omega]
    rw [if_pos (by omega), if_pos (by omega), if_pos (by omega), if_pos (by omega), h1, h2, less_name]
    have hnext := ih (P ++ [p]) x k (by rw [hP]; simp) (by omega)
    rw [List.length_append, List.length_singleton] at hnext
    rw [wrap_succ (n := l.length) (by omega) (by omega) (by omega), show ((P.length + 1 : Nat) : Int) + 1 = ((P.length + 1 + 1 : Nat) : Int) by omega, hnext]
    simp only [bool_if, ascF, Bool.and_assoc]
theorem tagGood_eq (m : ByteArray) (l : List S32) (Z : Nat) (hZ : Z ≤ 140737488355328) (hm : m.size ≤ Z) (hl : l.length ≤ 140737488355328) (hW : Within Z l) (k : Nat) (hk : l.length + Z + 3 < k) : tag_Good.f k m l = some (goodB m l) := by
  unfold tag_Good.f goodB
  cases l with
  | nil =>
    obtain ⟨k, rfl⟩ : ∃ m, k = m + 1 := ⟨k - 1, by omega⟩
    simp only [tag_Good.l0]
    rw [if_neg (by simp), tagName_eq m (by omega) k (by omega), Option.bind_some, labels_eq _ Z hZ hW, Option.bind_some, len_six]
    simp only [bool_if, asc, Bool.and_true, Bool.and_assoc]
  | cons p R =>
    have := tagGood_loop m (p :: R) Z hZ hm hl hW R [] p k rfl (by simp only [List.length_cons] at hk; omega)
    change tag_Good.l0 k 1 m (p :: R) = _ at this
    rw [this]
    simp only [asc]
    generalize (p :: R).all okS = a
    generalize ascF p R = b
    generalize nameB m = c
    cases a <;> cases b <;> cases c <;> rfl

end Go.Proofs.Ytiddemgeehcjpaa.H
