/- The reference's Text, Read and Add tell what fix.Text, fix.Read and fix.Add tell. -/
import Derived.Test.YtiddemgeehcjpaaDoorPAx
import Derived.Test.YtiddemgeehcjpaaDoorFxRd
namespace Go.Proofs.YtiddemgeehcjpaaDoor.H
open Go.RowKit Go.Shelf Go.Proofs.YtiddemgeehcjpaaDoor.PA Go.Proofs.YtiddemgeehcjpaaDoorW.PrintWords Go.Proofs.YtiddemgeehcjpaaDoorW.PrintLast Go.Proofs.YtiddemgeehcjpaaDoorW.PrintMore
set_option linter.unusedVariables false

theorem tmod_abs (n m : Int) (hm : 0 < m) : Int.tmod n m = if 0 ≤ n then n % m else -((-n) % m) := by
  by_cases h : 0 ≤ n
  · rw [if_pos h, Int.tmod_eq_emod_of_nonneg h]
  · rw [if_neg h]
    have := Int.neg_tmod (a := -n) (b := m)
    rw [Int.neg_neg] at this
    rw [this, Int.tmod_eq_emod_of_nonneg (by omega)]
theorem tdiv_abs (n m : Int) (hm : 0 < m) : Int.tdiv n m = if 0 ≤ n then n / m else -((-n) / m) := by
  by_cases h : 0 ≤ n
  · rw [if_pos h, Int.tdiv_eq_ediv_of_nonneg h]
  · rw [if_neg h]
    have := Int.neg_tdiv (a := -n) (b := m)
    rw [Int.neg_neg] at this
    rw [this, Int.tdiv_eq_ediv_of_nonneg (by omega)]
/-- The saturating sum. -/
def satA (a b : Int) : Int × Bool := if a + b > 9223372036854775807 then (9223372036854775807, true) else if a + b < -9223372036854775808 then (-9223372036854775808, true) else (a + b, false)
def i64 (a : Int) : Prop := -9223372036854775808 ≤ a ∧ a ≤ 9223372036854775807
theorem satA_i64 (a b : Int) : i64 (satA a b).1 := by
  unfold satA i64
  split
  · simp
  · split
    · simp
    · simp only; omega
theorem fixAdd_eq (k : Nat) (a b : Int) (ha : i64 a) (hb : i64 b) : fix_Add.f (k + 1) a b = some (satA a b) := by
  unfold i64 at ha hb
  unfold fix_Add.f satA
  by_cases h : b > 0
  · rw [if_pos h, wrap_in (by omega) (by omega)]
    simp only [fix_Add.j0]
    by_cases h2 : a > 9223372036854775807 - b
    · rw [decide_eq_true h2, if_pos rfl, if_pos (by omega)]
    · rw [decide_eq_false h2, if_neg (by decide), if_neg (by omega), if_neg (by omega), if_neg (by omega), wrap_in (by omega) (by omega)]
  · rw [if_neg h]
    simp only [fix_Add.j0]
    rw [if_neg (by decide)]
    by_cases h1 : b < 0
    · rw [if_pos h1, wrap_in (n := -9223372036854775808 - b) (by omega) (by omega)]
      by_cases h2 : a < -9223372036854775808 - b
      · rw [if_pos h2, if_neg (by omega), if_pos (by omega)]
      · rw [if_neg h2, if_neg (by omega), if_neg (by omega), wrap_in (by omega) (by omega)]
    · rw [if_neg h1, if_neg (by omega), if_neg (by omega), wrap_in (by omega) (by omega)]
theorem refAdd_eq (a b : Int) (ha : i64 a) (hb : i64 b) : tidemillref01_Add.f a b = some (satA a b) := by
  unfold i64 at ha hb
  obtain ⟨q1, e1, r1, f1, g1⟩ : ∃ q, Int.tdiv a 2 = q ∧ ∃ r, Int.tmod a 2 = r ∧ (a = 2 * q + r ∧ (0 ≤ a → 0 ≤ r ∧ r ≤ 1) ∧ (a ≤ 0 → -1 ≤ r ∧ r ≤ 0)) := by
    refine ⟨_, rfl, _, rfl, ?_⟩
    rw [tdiv_abs a 2 (by decide), tmod_abs a 2 (by decide)]
    by_cases h : 0 ≤ a
    · rw [if_pos h, if_pos h]; omega
    · rw [if_neg h, if_neg h]; omega
  obtain ⟨q2, e2, r2, f2, g2⟩ : ∃ q, Int.tdiv b 2 = q ∧ ∃ r, Int.tmod b 2 = r ∧ (b = 2 * q + r ∧ (0 ≤ b → 0 ≤ r ∧ r ≤ 1) ∧ (b ≤ 0 → -1 ≤ r ∧ r ≤ 0)) := by
    refine ⟨_, rfl, _, rfl, ?_⟩
    rw [tdiv_abs b 2 (by decide), tmod_abs b 2 (by decide)]
    by_cases h : 0 ≤ b
    · rw [if_pos h, if_pos h]; omega
    · rw [if_neg h, if_neg h]; omega
  unfold tidemillref01_Add.f
  rw [e1, e2, f1, f2, wrap_in (n := r1 + r2) (by omega) (by omega)]
  obtain ⟨q3, e3, r3, f3, g3⟩ : ∃ q, Int.tdiv (r1 + r2) 2 = q ∧ ∃ r, Int.tmod (r1 + r2) 2 = r ∧ (r1 + r2 = 2 * q + r ∧ (0 ≤ r1 + r2 → 0 ≤ r ∧ r ≤ 1) ∧ (r1 + r2 ≤ 0 → -1 ≤ r ∧ r ≤ 0)) := by
    refine ⟨_, rfl, _, rfl, ?_⟩
    rw [tdiv_abs (r1 + r2) 2 (by decide), tmod_abs (r1 + r2) 2 (by decide)]
    by_cases h : 0 ≤ r1 + r2
    · rw [if_pos h, if_pos h]; omega
    · rw [if_neg h, if_neg h]; omega
  rw [e3, f3, wrap_in (n := q1) (by omega) (by omega), wrap_in (n := q2) (by omega) (by omega), wrap_in (n := q3) (by omega) (by omega), wrap_in (n := q1 + q2) (by omega) (by omega), wrap_in (n := q1 + q2 + q3) (by omega) (by omega)]
  unfold satA
  by_cases h1 : q1 + q2 + q3 > 4611686018427387903
  · rw [if_pos h1, if_pos (by omega)]
  · rw [if_neg h1]
    by_cases h2 : q1 + q2 + q3 < -4611686018427387904
    · rw [if_pos h2, if_neg (by omega), if_pos (by omega)]
    · rw [if_neg h2]
      by_cases h3 : q1 + q2 + q3 = -4611686018427387904
      · rw [if_pos h3]
        by_cases h4 : r3 < 0
        · rw [if_pos h4, if_neg (by omega), if_pos (by omega)]
        · rw [if_neg h4, wrap_in (n := (q1 + q2 + q3) * 2) (by omega) (by omega), wrap_in (by omega) (by omega), if_neg (by omega), if_neg (by omega)]
          congr 2
          omega
      · rw [if_neg h3, wrap_in (n := (q1 + q2 + q3) * 2) (by omega) (by omega), wrap_in (by omega) (by omega), if_neg (by omega), if_neg (by omega)]
        congr 2
        omega

end Go.Proofs.YtiddemgeehcjpaaDoor.H
