/- The reference's Act1 and Parse, told plainly. -/
import Derived.Test.YtdgdpkemboeaeaaDoorTpA
import Derived.Test.YtdgdpkemboeaeaaDoorPRx
import Derived.Test.YtdgdpkemboeaeaaDoorTpZ
namespace Go.Proofs.YtdgdpkemboeaeaaDoor.H
open Go.RowKit Go.Shelf Go.Proofs.YtdgdpkemboeaeaaDoor.PT Go.Proofs.YtdgdpkemboeaeaaDoor.PR Go.Proofs.YtdgdpkemboeaeaaDoorW.PrintWords Go.Proofs.YtdgdpkemboeaeaaDoorW.PrintLast Go.Proofs.YtdgdpkemboeaeaaDoorW.PrintMore
set_option linter.unusedVariables false
set_option linter.unusedSimpArgs false
theorem tmod_abs (n m : Int) (hm : 0 < m) : Int.tmod n m = if 0 ≤ n then n % m else -((-n) % m) := by
  by_cases h : 0 ≤ n
  · rw [if_pos h, Int.tmod_eq_emod_of_nonneg h]
  · rw [if_neg h]
    have := Int.neg_tmod (a := -n) (b := m)
    rw [Int.neg_neg] at this
    rw [this, Int.tmod_eq_emod_of_nonneg (by omega)]
theorem tdiv_abs (n m : Int) (hm : 0 < m) : Int.tdiv n m = if 0 ≤ n then n / m else -((-n) / m) := by
  by_cases h : 0 ≤ n
  · rw [if_pos h, Int.tdiv_eq_ediv_of_nonneg h]
  · rw [if_neg h]
    have := Int.neg_tdiv (a := -n) (b := m)
    rw [Int.neg_neg] at this
    rw [this, Int.tdiv_eq_ediv_of_nonneg (by omega)]
def i64 (a : Int) : Prop := -9223372036854775808 ≤ a ∧ a ≤ 9223372036854775807
theorem digit_eq (n : Int) (h : i64 n) : tidemillref01_digit.f n = some (48 + (n.natAbs % 10 : Nat) : Int) := by
  unfold i64 at h
  unfold tidemillref01_digit.f
  rw [tmod_abs n 10 (by decide)]
  by_cases h0 : 0 ≤ n
  · rw [if_pos h0, if_neg (by omega), wrap_in (by omega) (by omega)]
    congr 1
    omega
  · rw [if_neg h0]
    by_cases hz : -((-n) % 10) < 0
    · rw [if_pos hz, wrap_in (n := -(-((-n) % 10))) (by omega) (by omega), wrap_in (by omega) (by omega)]
      congr 1
      omega
    · rw [if_neg hz, wrap_in (by omega) (by omega)]
      congr 1
      omega
theorem nums_one (u : Nat) : strOfNums [(48 + (u % 10 : Nat) : Int)] = ba [UInt8.ofNat (48 + u % 10)] := by
  unfold strOfNums ba
  rw [List.map_cons, List.map_nil]
  congr 1
theorem tdiv10 (n : Int) (h : i64 n) : (wrap64 (Int.tdiv n 10)).natAbs = n.natAbs / 10 ∧ i64 (wrap64 (Int.tdiv n 10)) := by
  unfold i64 at h ⊢
  rw [tdiv_abs n 10 (by decide)]
  by_cases h0 : 0 ≤ n
  · rw [if_pos h0, wrap_in (by omega) (by omega)]; omega
  · rw [if_neg h0, wrap_in (by omega) (by omega)]; omega
/-- The digits ahead: none of zero. -/
def decN (u : Nat) : List UInt8 := if u = 0 then [] else Lib.decDigits u
theorem decN_step (u : Nat) (h : u ≠ 0) (l : List UInt8) : decN u ++ l = decN (u / 10) ++ UInt8.ofNat (48 + u % 10) :: l := by
  unfold decN
  rw [if_neg h]
  by_cases h10 : u < 10
  · rw [if_pos (by omega), dec_small h10, Nat.mod_eq_of_lt h10]
    rfl
  · rw [if_neg (by omega), dec_big h10, List.append_assoc]
    rfl
theorem decimal_loop (a0 : Int) : ∀ (j k : Nat) (x : Int) (l : List UInt8), i64 x → x.natAbs < 10 ^ j → j < k → l.length + j ≤ 1000 →
    tidemillref01_Decimal.l0 k a0 (ba l) x = some (ba ((if a0 < 0 then [45] else []) ++ (decN x.natAbs ++ l)))
  | j, 0, _, _, _, _, hk, _ => by omega
  | j, k + 1, x, l, hx, hj, hk, hl => by
    simp only [tidemillref01_Decimal.l0]
    by_cases h0 : x = 0
    · subst h0
      rw [if_pos rfl]
      have e : decN (Int.natAbs 0) = [] := rfl
      rw [e, List.nil_append]
      by_cases ha : a0 < 0
      · rw [if_pos ha, if_pos (by rw [ba_size]; omega), if_pos ha]
        congr 1
      · rw [if_neg ha, if_neg ha]
        rfl
    · rw [if_neg h0, digit_eq x hx]
      simp only [Option.bind_some]
      rw [nums_one]
      cases j with
      | zero => omega
      | succ j =>
        rw [Nat.pow_succ] at hj
        obtain ⟨h1, h2⟩ := tdiv10 x hx
        rw [if_pos (by rw [ba_size, ba_size, List.length_singleton]; omega), show ba [UInt8.ofNat (48 + x.natAbs % 10)] ++ ba l = ba (UInt8.ofNat (48 + x.natAbs % 10) :: l) from ba_app _ _]
        rw [decimal_loop a0 j k _ _ h2 (by rw [h1]; omega) (by omega) (by rw [List.length_cons]; omega), h1, decN_step x.natAbs (by omega) l]
theorem decimal_eq (n : Int) (h : i64 n) (k : Nat) (hk : 20 < k) : tidemillref01_Decimal.f k n = some (ba ((if n < 0 then [45] else []) ++ Lib.decDigits n.natAbs)) := by
  unfold tidemillref01_Decimal.f
  rw [digit_eq n h]
  simp only [Option.bind_some]
  obtain ⟨h1, h2⟩ := tdiv10 n h
  have hj : (wrap64 (Int.tdiv n 10)).natAbs < 10 ^ 20 := by
    rw [h1]
    unfold i64 at h
    have : (10 : Nat) ^ 20 = 100000000000000000000 := by decide
    omega
  rw [nums_one, decimal_loop n 20 k _ _ h2 hj hk (by simp), h1]
  congr 2
  congr 1
  by_cases h10 : n.natAbs < 10
  · unfold decN
    rw [if_pos (by omega), dec_small h10, Nat.mod_eq_of_lt h10]
    rfl
  · unfold decN
    rw [if_neg (by omega), dec_big h10]
/-- A number's numeral. -/
def IsNum (q : List UInt8) (n : Int) : Prop := 0 ≤ n ∧ n ≤ 1000000000 ∧ Lib.itoa n = q
theorem IsNum.one {q : List UInt8} {n m : Int} (h : IsNum q n) (h2 : IsNum q m) : n = m := by
  rw [← num_itoa h.1 h.2.1, h.2.2, ← h2.2.2, num_itoa h2.1 h2.2.1]
theorem dec_len : ∀ (k u : Nat), u < 10 ^ (k + 1) → (Lib.decDigits u).length ≤ k + 1
  | 0, u, h => by rw [dec_small (by simpa using h)]; simp
  | k + 1, u, h => by
    by_cases hu : u < 10
    · rw [dec_small hu]; simp
    · rw [dec_big hu, List.length_append, List.length_singleton]
      have := dec_len k (u / 10) (by rw [Nat.pow_succ] at h; omega)
      omega
end Go.Proofs.YtdgdpkemboeaeaaDoor.H
namespace Go.Proofs.YtdgdpkemboeaeaaDoor.H
open Go.RowKit Go.Shelf Go.Proofs.YtdgdpkemboeaeaaDoor.PT Go.Proofs.YtdgdpkemboeaeaaDoor.PR Go.Proofs.YtdgdpkemboeaeaaDoorW.PrintWords Go.Proofs.YtdgdpkemboeaeaaDoorW.PrintLast Go.Proofs.YtdgdpkemboeaeaaDoorW.PrintMore
set_option linter.unusedVariables false
set_option linter.unusedSimpArgs false
theorem tellsI_f {k : Int} (h1 : 1 ≤ k) (h2 : k ≤ 10) : tidemillref26_tellsI.f k = some (shI k) := by
  rcases kinds_of h1 h2 with rfl | rfl | rfl | rfl | rfl | rfl | rfl | rfl | rfl | rfl <;> decide +kernel
theorem tellsN_f {k : Int} (h1 : 1 ≤ k) (h2 : k ≤ 10) : tidemillref26_tellsN.f k = some (shN k) := by
  rcases kinds_of h1 h2 with rfl | rfl | rfl | rfl | rfl | rfl | rfl | rfl | rfl | rfl <;> decide +kernel
theorem shT_f {k : Int} (h1 : 1 ≤ k) (h2 : k ≤ 10) : shT k = decide (k = 1) := by
  rcases kinds_of h1 h2 with rfl | rfl | rfl | rfl | rfl | rfl | rfl | rfl | rfl | rfl <;> decide +kernel
theorem shK_f {k : Int} (h1 : 1 ≤ k) (h2 : k ≤ 10) : shK k = decide (k = 8) := by
  rcases kinds_of h1 h2 with rfl | rfl | rfl | rfl | rfl | rfl | rfl | rfl | rfl | rfl <;> decide +kernel
theorem word_sh {k : Int} (h1 : 1 ≤ k) (h2 : k ≤ 10) : tidemillref26_word.f k = some (ba (shW k)) := by
  rcases kinds_of h1 h2 with rfl | rfl | rfl | rfl | rfl | rfl | rfl | rfl | rfl | rfl <;> decide +kernel
def restT (a : PAct) : List (List UInt8) := (if a.t.size = 0 then [] else [showL a.t.data.toList]) ++ a.keep.map Lib.itoa
def restN (a : PAct) : List (List UInt8) := (if shN a.k = true then [Lib.itoa a.n] else []) ++ restT a
def restI (a : PAct) : List (List UInt8) := (if shI a.k = true then [Lib.itoa a.i] else []) ++ restN a
theorem parts_rest (a : PAct) : partsP a = shW a.k :: restI a := by unfold partsP restI restN restT; simp only [List.append_assoc]
structure In9 (sh : Bool) (n : Int) : Prop where
  lo : 0 ≤ n
  hi : n ≤ 1000000000
  z : sh = false → n = 0
end Go.Proofs.YtdgdpkemboeaeaaDoor.H

