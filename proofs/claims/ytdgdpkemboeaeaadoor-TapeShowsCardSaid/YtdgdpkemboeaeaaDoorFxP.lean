/- Plain facts on decimal numerals in millionths, for the Fix laws: no program in sight. -/
import Derived.Lib.ItoaNum
import Derived.Lib.TrimByte
import Derived.Lib.Atoi
import Derived.Lib.Repeat
namespace Go.Proofs.YtdgdpkemboeaeaaDoor.H
open Go
set_option linter.unusedVariables false

theorem dec_small {u : Nat} (h : u < 10) : Lib.decDigits u = [UInt8.ofNat (48 + u)] := Lib.decDigits_one h
theorem dec_big {u : Nat} (h : ¬ u < 10) : Lib.decDigits u = Lib.decDigits (u / 10) ++ [UInt8.ofNat (48 + u % 10)] := by rw [Lib.decDigits, dif_neg h]
/-- All are digits. -/
def dgB (b : UInt8) : Bool := decide (48 ≤ b.toNat ∧ b.toNat ≤ 57)
theorem dg_mod (u : Nat) : dgB (UInt8.ofNat (48 + u % 10)) = true := by
  unfold dgB
  rw [decide_eq_true_iff, UInt8.toNat_ofNat']
  omega
theorem toNat_mod (u : Nat) : (UInt8.ofNat (48 + u % 10)).toNat = 48 + u % 10 := by rw [UInt8.toNat_ofNat']; omega
theorem dec_dg (u : Nat) : (Lib.decDigits u).all dgB = true := by
  induction u using Nat.strongRecOn with
  | _ u ih =>
    by_cases h : u < 10
    · rw [dec_small h, ← Nat.mod_eq_of_lt h, List.all_cons, dg_mod]; rfl
    · rw [dec_big h, List.all_append, ih (u / 10) (by omega), List.all_cons, dg_mod]; rfl

/-- What digits spell. -/
def valF (acc : Nat) (l : List UInt8) : Nat := l.foldl (fun a b => a * 10 + (b.toNat - 48)) acc
theorem valF_append (acc : Nat) (l m : List UInt8) : valF acc (l ++ m) = valF (valF acc l) m := by unfold valF; rw [List.foldl_append]
theorem valF_nil (acc : Nat) : valF acc [] = acc := rfl
theorem valF_cons (acc : Nat) (b : UInt8) (l : List UInt8) : valF acc (b :: l) = valF (acc * 10 + (b.toNat - 48)) l := by unfold valF; rw [List.foldl_cons]
theorem valF_snoc (acc : Nat) (l : List UInt8) (b : UInt8) : valF acc (l ++ [b]) = valF acc l * 10 + (b.toNat - 48) := by rw [valF_append, valF_cons, valF_nil]
theorem valF_dec (u : Nat) : valF 0 (Lib.decDigits u) = u := by
  induction u using Nat.strongRecOn with
  | _ u ih =>
    by_cases h : u < 10
    · rw [dec_small h]
      have := toNat_mod u
      rw [Nat.mod_eq_of_lt h] at this
      rw [valF_cons, valF_nil, this]
      omega
    · rw [dec_big h, valF_snoc, ih (u / 10) (by omega), toNat_mod]
      omega
/-- What is ahead of the first such byte, what is behind it, is there one. -/
def cutL : List UInt8 → UInt8 → List UInt8 × List UInt8 × Bool
  | [], _ => ([], [], false)
  | x :: l, c => if x = c then ([], l, true) else (x :: (cutL l c).1, (cutL l c).2.1, (cutL l c).2.2)
theorem cutL_no {l : List UInt8} {c : UInt8} (h : c ∉ l) : cutL l c = (l, [], false) := by
  induction l with
  | nil => rfl
  | cons x l ih =>
    have h1 : x ≠ c := fun e => h (by simp [e])
    have h2 := ih fun e => h (by simp [e])
    simp only [cutL, if_neg h1, h2]
theorem cutL_at {a b : List UInt8} {c : UInt8} (h : c ∉ a) : cutL (a ++ c :: b) c = (a, b, true) := by
  induction a with
  | nil => simp [cutL]
  | cons x a ih =>
    have h1 : x ≠ c := fun e => h (by simp [e])
    have h2 := ih fun e => h (by simp [e])
    simp only [List.cons_append, cutL, if_neg h1, h2]
theorem not_mem_dg {l : List UInt8} (h : l.all dgB = true) (c : UInt8) (hc : dgB c = false) : c ∉ l := by
  intro e
  rw [List.all_eq_true] at h
  have := h c e
  rw [hc] at this
  cases this
end Go.Proofs.YtdgdpkemboeaeaaDoor.H
