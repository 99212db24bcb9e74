/- Plain facts on decimal numerals in millionths, for the Fix laws: no program in sight. -/
import Derived.Lib.ItoaNum
import Derived.Lib.TrimByte
import Derived.Lib.Atoi
import Derived.Lib.Repeat
namespace Go.Proofs.YtiddemgeehcjpaaDoor.H
open Go
set_option linter.unusedVariables false

/-- The last k decimal digits. -/
def lastD : Nat → Nat → List UInt8
  | 0, _ => []
  | k + 1, u => lastD k (u / 10) ++ [UInt8.ofNat (48 + u % 10)]
theorem lastD_len : ∀ k u, (lastD k u).length = k
  | 0, _ => rfl
  | k + 1, u => by rw [lastD, List.length_append, lastD_len k]; rfl
theorem dec_small {u : Nat} (h : u < 10) : Lib.decDigits u = [UInt8.ofNat (48 + u)] := Lib.decDigits_one h
theorem dec_big {u : Nat} (h : ¬ u < 10) : Lib.decDigits u = Lib.decDigits (u / 10) ++ [UInt8.ofNat (48 + u % 10)] := by rw [Lib.decDigits, dif_neg h]
theorem dec_one_more : ∀ (k r : Nat), r < 10 ^ k → Lib.decDigits (10 ^ k + r) = 49 :: lastD k r
  | 0, r, h => by
    obtain rfl : r = 0 := by omega
    rw [dec_small (by decide)]
    rfl
  | k + 1, r, h => by
    have hp : 1 ≤ 10 ^ k := Nat.one_le_pow _ _ (by decide)
    rw [Nat.pow_succ] at h ⊢
    rw [dec_big (by omega), show (10 ^ k * 10 + r) / 10 = 10 ^ k + r / 10 by omega, show (10 ^ k * 10 + r) % 10 = r % 10 by omega, dec_one_more k (r / 10) (by omega)]
    rfl
theorem replicate_snoc (n : Nat) (x : UInt8) : List.replicate n x ++ [x] = List.replicate (n + 1) x := by
  rw [List.replicate_succ']
/-- All are digits. -/
def dgB (b : UInt8) : Bool := decide (48 ≤ b.toNat ∧ b.toNat ≤ 57)
/-- What digits spell. -/
def valF (acc : Nat) (l : List UInt8) : Nat := l.foldl (fun a b => a * 10 + (b.toNat - 48)) acc
theorem valF_nil (acc : Nat) : valF acc [] = acc := rfl
theorem valF_cons (acc : Nat) (b : UInt8) (l : List UInt8) : valF acc (b :: l) = valF (acc * 10 + (b.toNat - 48)) l := by unfold valF; rw [List.foldl_cons]
theorem valF_lt : ∀ (l : List UInt8) (acc : Nat), l.all dgB = true → valF acc l < (acc + 1) * 10 ^ l.length
  | [], acc, _ => by simp [valF_nil]
  | b :: l, acc, h => by
    rw [List.all_cons, Bool.and_eq_true] at h
    have hb := h.1
    unfold dgB at hb
    rw [decide_eq_true_iff] at hb
    have := valF_lt l (acc * 10 + (b.toNat - 48)) h.2
    rw [valF_cons, List.length_cons, Nat.pow_succ, Nat.mul_comm (10 ^ l.length) 10, ← Nat.mul_assoc]
    refine Nat.lt_of_lt_of_le this (Nat.mul_le_mul_right _ ?_)
    omega
theorem decFrom_valF : ∀ (l : List UInt8) (acc : Nat), l.all dgB = true → Lib.decFrom acc l = some (valF acc l)
  | [], _, _ => rfl
  | b :: l, acc, h => by
    rw [List.all_cons, Bool.and_eq_true] at h
    have hb := h.1
    unfold dgB at hb
    rw [decide_eq_true_iff] at hb
    have hd : Lib.digitVal b = some (b.toNat - 48) := by unfold Lib.digitVal; rw [if_pos hb]
    simp only [Lib.decFrom, hd]
    exact decFrom_valF l _ h.2
theorem atoi_digits (l : List UInt8) (hl : l ≠ []) (h : l.all dgB = true) : Lib.atoi l = some (valF 0 l : Int) := by
  cases l with
  | nil => exact absurd rfl hl
  | cons b r =>
    have hb : dgB b = true := by rw [List.all_cons, Bool.and_eq_true] at h; exact h.1
    unfold dgB at hb
    rw [decide_eq_true_iff] at hb
    have h45 : (b == 45) = false := by
      refine beq_eq_false_iff_ne.2 ?_
      rintro rfl
      exact absurd hb (by decide)
    have h43 : (b == 43) = false := by
      refine beq_eq_false_iff_ne.2 ?_
      rintro rfl
      exact absurd hb (by decide)
    show (if b == 45 then (Lib.decNat r).map fun (m : Nat) => -(m : Int) else if b == 43 then (Lib.decNat r).map fun (m : Nat) => (m : Int) else (Lib.decNat (b :: r)).map fun (m : Nat) => (m : Int)) = _
    rw [h45, h43]
    simp only [Bool.false_eq_true, if_false, Lib.decNat, List.isEmpty_cons, decFrom_valF _ _ h, Option.map_some]

/-- Strip zeros at the end. -/
abbrev trim0 (l : List UInt8) : List UInt8 := Lib.trimRightB l 48
theorem trim0_snoc_zero (l : List UInt8) : trim0 (l ++ [48]) = trim0 l := by
  unfold trim0 Lib.trimRightB
  simp
theorem trim0_snoc (l : List UInt8) (b : UInt8) (h : b ≠ 48) : trim0 (l ++ [b]) = l ++ [b] := by
  unfold trim0 Lib.trimRightB
  simp [h]
theorem trim0_nil : trim0 [] = [] := rfl
theorem snoc_cases (l : List UInt8) : l = [] ∨ ∃ m b, l = m ++ [b] := by
  rcases List.eq_nil_or_concat l with h | ⟨m, b, h⟩
  · exact .inl h
  · exact .inr ⟨m, b, by rw [h, List.concat_eq_append]⟩
theorem trim0_split : ∀ (n : Nat) (l : List UInt8), l.length = n → l = trim0 l ++ List.replicate (n - (trim0 l).length) 48 ∧ (trim0 l).length ≤ n
  | 0, l, h => by
    obtain rfl : l = [] := List.length_eq_zero_iff.1 h
    exact ⟨by simp [trim0_nil], by simp [trim0_nil]⟩
  | n + 1, l, h => by
    rcases snoc_cases l with rfl | ⟨m, b, rfl⟩
    · cases h
    · have hm : m.length = n := by simpa using h
      by_cases hb : b = 48
      · subst hb
        obtain ⟨h1, h2⟩ := trim0_split n m hm
        rw [trim0_snoc_zero]
        refine ⟨?_, by omega⟩
        rw [show n + 1 - (trim0 m).length = n - (trim0 m).length + 1 by omega, ← replicate_snoc, ← List.append_assoc, ← h1]
      · rw [trim0_snoc m b hb]
        refine ⟨by rw [h, Nat.sub_self]; simp, by omega⟩
/-- A number's text, by its size. -/
def fixM (u : Nat) : List UInt8 := Lib.decDigits (u / 1000000) ++ (if u % 1000000 = 0 then [] else 46 :: trim0 (lastD 6 (u % 1000000)))
def fixL (n : Int) : List UInt8 := (if n < 0 then [45] else []) ++ fixM n.natAbs
theorem dec_million (r : Nat) (h : r < 1000000) : (Lib.decDigits (1000000 + r)).drop 1 = lastD 6 r := by
  have := dec_one_more 6 r (by simpa using h)
  rw [show (10 : Nat) ^ 6 = 1000000 by decide] at this
  rw [this]
  rfl
/-- So many digits, at least one. -/
def digL (most : Nat) (l : List UInt8) : Bool := l.all dgB && decide (1 ≤ l.length) && decide (l.length ≤ most)
/-- What is ahead of the first such byte, what is behind it, is there one. -/
def cutL : List UInt8 → UInt8 → List UInt8 × List UInt8 × Bool
  | [], _ => ([], [], false)
  | x :: l, c => if x = c then ([], l, true) else (x :: (cutL l c).1, (cutL l c).2.1, (cutL l c).2.2)
theorem cutL_no {l : List UInt8} {c : UInt8} (h : c ∉ l) : cutL l c = (l, [], false) := by
  induction l with
  | nil => rfl
  | cons x l ih =>
    have h1 : x ≠ c := fun e => h (by simp [e])
    have h2 := ih fun e => h (by simp [e])
    simp only [cutL, if_neg h1, h2]
theorem cutL_at {a b : List UInt8} {c : UInt8} (h : c ∉ a) : cutL (a ++ c :: b) c = (a, b, true) := by
  induction a with
  | nil => simp [cutL]
  | cons x a ih =>
    have h1 : x ≠ c := fun e => h (by simp [e])
    have h2 := ih fun e => h (by simp [e])
    simp only [List.cons_append, cutL, if_neg h1, h2]
/-- A text's number, in millionths, and the error's number. -/
def readM (neg : Bool) (t : List UInt8) : Int × Int :=
  if digL 12 (cutL t 46).1 && (!(cutL t 46).2.2 || digL 6 (cutL t 46).2.1) then
    ((if neg then -(valF 0 ((cutL t 46).1 ++ (cutL t 46).2.1 ++ List.replicate (6 - (cutL t 46).2.1.length) 48) : Int) else (valF 0 ((cutL t 46).1 ++ (cutL t 46).2.1 ++ List.replicate (6 - (cutL t 46).2.1.length) 48) : Int)), 0)
  else (0, 8)
def readL (s : List UInt8) : Int × Int := if s.head? = some 45 then readM true s.tail else readM false s
end Go.Proofs.YtiddemgeehcjpaaDoor.H
