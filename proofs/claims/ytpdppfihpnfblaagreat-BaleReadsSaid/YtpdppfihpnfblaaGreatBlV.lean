/- slices.Reverse of bytes, told plainly. -/
import Derived.Test.YtpdppfihpnfblaaGreatPAx
namespace Go.Proofs.YtpdppfihpnfblaaGreat.H
open Go.RowKit Go.Proofs.YtpdppfihpnfblaaGreat.PA Go.Proofs.YtpdppfihpnfblaaGreatW.PrintWords Go.Proofs.YtpdppfihpnfblaaGreatW.PrintLast Go.Proofs.YtpdppfihpnfblaaGreatW.PrintMore
set_option linter.unusedVariables false
set_option linter.unusedSimpArgs false
theorem wrap_in {n : Int} (h1 : -9223372036854775808 ≤ n) (h2 : n ≤ 9223372036854775807) : wrap64 n = n := by unfold wrap64; omega
theorem rd_at (l r : List Int) (x : Int) : rd (l ++ x :: r) (l.length : Int) = x := by
  unfold rd
  rw [Int.toNat_natCast, List.getD_eq_getElem?_getD, List.getElem?_append_right (Nat.le_refl _), Nat.sub_self]
  rfl
theorem set_at (l r : List Int) (x y : Int) : (l ++ x :: r).set l.length y = l ++ y :: r := by
  rw [List.set_append_right _ _ (Nat.le_refl _), Nat.sub_self]
  rfl
theorem rev_loop : ∀ (N : Nat) (P M S : List Int) (K : Nat), M.length ≤ N → N < K → P.length + M.length + S.length ≤ 1000000 → slices_Reverse_byte_byte.l0 K (P ++ M ++ S) (P.length : Int) ((P.length : Int) + (M.length : Int) - 1) = some (P ++ M.reverse ++ S) := by
  intro N
  induction N using Nat.strongRecOn with
  | ind N ih =>
    intro P M S K hM hK hl
    obtain ⟨K, rfl⟩ : ∃ m, K = m + 1 := ⟨K - 1, by omega⟩
    unfold slices_Reverse_byte_byte.l0
    match M, hM, hl with
    | [], hM, hl => rw [if_neg (by simp; omega)]; simp
    | [a], hM, hl => rw [if_neg (by simp)]; simp
    | a :: c :: M', hM, hl =>
      obtain ⟨M2, b, hb⟩ : ∃ M2 b, c :: M' = M2 ++ [b] := ⟨(c :: M').dropLast, (c :: M').getLast (by simp), (List.dropLast_concat_getLast (by simp)).symm⟩
      rw [hb] at hM hl ⊢
      simp only [List.length_cons, List.length_append, List.length_nil] at hM hl ⊢
      rw [if_pos (by omega), if_pos (by omega), if_pos (by simp; omega), if_pos (by omega), if_pos (by simp; omega)]
      have e1 : rd (P ++ a :: (M2 ++ [b]) ++ S) (P.length : Int) = a := by rw [show P ++ a :: (M2 ++ [b]) ++ S = P ++ a :: (M2 ++ [b] ++ S) by simp]; exact rd_at _ _ _
      have e2 : rd (P ++ a :: (M2 ++ [b]) ++ S) ((P.length : Int) + ((M2.length + 1 + 1 : Nat) : Int) - 1) = b := by
        rw [show P ++ a :: (M2 ++ [b]) ++ S = (P ++ a :: M2) ++ b :: S by simp, show (P.length : Int) + ((M2.length + 1 + 1 : Nat) : Int) - 1 = ((P ++ a :: M2).length : Int) by simp; omega]
        exact rd_at _ _ _
      have e3 : (((P ++ a :: (M2 ++ [b]) ++ S).set (P.length : Int).toNat b).set ((P.length : Int) + ((M2.length + 1 + 1 : Nat) : Int) - 1).toNat a) = (P ++ [b]) ++ M2 ++ (a :: S) := by
        rw [Int.toNat_natCast, show P ++ a :: (M2 ++ [b]) ++ S = P ++ a :: (M2 ++ [b] ++ S) by simp, set_at, show P ++ b :: (M2 ++ [b] ++ S) = (P ++ b :: M2) ++ b :: S by simp, show ((P.length : Int) + ((M2.length + 1 + 1 : Nat) : Int) - 1).toNat = (P ++ b :: M2).length by simp; omega, set_at]
        simp
      simp only [Nat.zero_add] at *
      rw [e1, e2, e3, wrap_in (by omega) (by omega), wrap_in (by omega) (by omega)]
      have := ih M2.length (by omega) (P ++ [b]) M2 (a :: S) K (Nat.le_refl _) (by omega) (by simp; omega)
      rw [show (P.length : Int) + 1 = ((P ++ [b]).length : Int) by simp, show (P.length : Int) + ((M2.length + 1 + 1 : Nat) : Int) - 1 - 1 = ((P ++ [b]).length : Int) + (M2.length : Int) - 1 by simp; omega, this]
      simp
theorem rev_eq (l : List Int) (hl : l.length ≤ 1000000) : slices_Reverse_byte_byte.f (l.length + 1) l = some l.reverse := by
  have := rev_loop l.length [] l [] (l.length + 1) (Nat.le_refl _) (by omega) (by simp; omega)
  unfold slices_Reverse_byte_byte.f
  rw [wrap_in (by omega) (by omega)]
  simpa using this
end Go.Proofs.YtpdppfihpnfblaaGreat.H
