/- Plain facts on decimal numerals in millionths, for the Fix laws: no program in sight. -/
import Derived.Lib.ItoaNum
import Derived.Lib.TrimByte
import Derived.Lib.Atoi
import Derived.Lib.Repeat
namespace Go.Proofs.YtiddemgeehcjpaaDoor.H
open Go
set_option linter.unusedVariables false

/-- The last k decimal digits. -/
def lastD : Nat → Nat → List UInt8
  | 0, _ => []
  | k + 1, u => lastD k (u / 10) ++ [UInt8.ofNat (48 + u % 10)]
theorem lastD_len : ∀ k u, (lastD k u).length = k
  | 0, _ => rfl
  | k + 1, u => by rw [lastD, List.length_append, lastD_len k]; rfl
theorem dec_small {u : Nat} (h : u < 10) : Lib.decDigits u = [UInt8.ofNat (48 + u)] := Lib.decDigits_one h
theorem dec_big {u : Nat} (h : ¬ u < 10) : Lib.decDigits u = Lib.decDigits (u / 10) ++ [UInt8.ofNat (48 + u % 10)] := by rw [Lib.decDigits, dif_neg h]
theorem dec_one_more : ∀ (k r : Nat), r < 10 ^ k → Lib.decDigits (10 ^ k + r) = 49 :: lastD k r
  | 0, r, h => by
    obtain rfl : r = 0 := by omega
    rw [dec_small (by decide)]
    rfl
  | k + 1, r, h => by
    have hp : 1 ≤ 10 ^ k := Nat.one_le_pow _ _ (by decide)
    rw [Nat.pow_succ] at h ⊢
    rw [dec_big (by omega), show (10 ^ k * 10 + r) / 10 = 10 ^ k + r / 10 by omega, show (10 ^ k * 10 + r) % 10 = r % 10 by omega, dec_one_more k (r / 10) (by omega)]
    rfl
/-- Zeros ahead, up to so many. -/
def padL (n : Nat) (l : List UInt8) : List UInt8 := List.replicate (n - l.length) 48 ++ l
theorem padL_snoc (n : Nat) (l : List UInt8) (x : UInt8) : padL (n + 1) (l ++ [x]) = padL n l ++ [x] := by
  unfold padL
  rw [List.length_append, List.length_singleton, Nat.add_sub_add_right, List.append_assoc]
theorem replicate_snoc (n : Nat) (x : UInt8) : List.replicate n x ++ [x] = List.replicate (n + 1) x := by
  rw [List.replicate_succ']
theorem pad_dec : ∀ (k u : Nat), padL (k + 1) (Lib.decDigits u) = Lib.decDigits (u / 10 ^ k) ++ lastD k u
  | 0, u => by
    have hl : 1 ≤ (Lib.decDigits u).length := by rw [Lib.decDigits_length]; exact Lib.nDigits_pos u
    unfold padL lastD
    rw [show 0 + 1 - (Lib.decDigits u).length = 0 by omega]
    simp
  | k + 1, u => by
    rw [lastD, ← List.append_assoc]
    by_cases h : u < 10
    · have h10 : u / 10 = 0 := by omega
      have ih := pad_dec k 0
      rw [Nat.zero_div] at ih
      rw [dec_small h, show [UInt8.ofNat (48 + u)] = [] ++ [UInt8.ofNat (48 + u % 10)] by rw [Nat.mod_eq_of_lt h]; rfl, padL_snoc, h10]
      rw [show u / 10 ^ (k + 1) = 0 by rw [Nat.pow_succ, Nat.mul_comm, ← Nat.div_div_eq_div_mul, h10, Nat.zero_div], ← ih]
      congr 1
      rw [dec_small (by decide)]
      unfold padL
      rw [List.length_nil, List.append_nil, List.length_singleton, Nat.add_sub_cancel]
      exact (replicate_snoc k 48).symm
    · rw [dec_big h, padL_snoc, pad_dec k (u / 10)]
      rw [Nat.div_div_eq_div_mul, Nat.pow_succ, Nat.mul_comm]

/-- All are digits. -/
def dgB (b : UInt8) : Bool := decide (48 ≤ b.toNat ∧ b.toNat ≤ 57)
theorem dg_mod (u : Nat) : dgB (UInt8.ofNat (48 + u % 10)) = true := by
  unfold dgB
  rw [decide_eq_true_iff, UInt8.toNat_ofNat']
  omega
theorem toNat_mod (u : Nat) : (UInt8.ofNat (48 + u % 10)).toNat = 48 + u % 10 := by rw [UInt8.toNat_ofNat']; omega
theorem lastD_dg : ∀ k u, (lastD k u).all dgB = true
  | 0, _ => rfl
  | k + 1, u => by rw [lastD, List.all_append, lastD_dg k, List.all_cons, dg_mod]; rfl
theorem dec_dg (u : Nat) : (Lib.decDigits u).all dgB = true := by
  induction u using Nat.strongRecOn with
  | _ u ih =>
    by_cases h : u < 10
    · rw [dec_small h, ← Nat.mod_eq_of_lt h, List.all_cons, dg_mod]; rfl
    · rw [dec_big h, List.all_append, ih (u / 10) (by omega), List.all_cons, dg_mod]; rfl

/-- What digits spell. -/
def valF (acc : Nat) (l : List UInt8) : Nat := l.foldl (fun a b => a * 10 + (b.toNat - 48)) acc
theorem valF_append (acc : Nat) (l m : List UInt8) : valF acc (l ++ m) = valF (valF acc l) m := by unfold valF; rw [List.foldl_append]
theorem valF_nil (acc : Nat) : valF acc [] = acc := rfl
theorem valF_cons (acc : Nat) (b : UInt8) (l : List UInt8) : valF acc (b :: l) = valF (acc * 10 + (b.toNat - 48)) l := by unfold valF; rw [List.foldl_cons]
theorem valF_snoc (acc : Nat) (l : List UInt8) (b : UInt8) : valF acc (l ++ [b]) = valF acc l * 10 + (b.toNat - 48) := by rw [valF_append, valF_cons, valF_nil]
theorem valF_dec (u : Nat) : valF 0 (Lib.decDigits u) = u := by
  induction u using Nat.strongRecOn with
  | _ u ih =>
    by_cases h : u < 10
    · rw [dec_small h]
      have := toNat_mod u
      rw [Nat.mod_eq_of_lt h] at this
      rw [valF_cons, valF_nil, this]
      omega
    · rw [dec_big h, valF_snoc, ih (u / 10) (by omega), toNat_mod]
      omega
theorem valF_last : ∀ (k acc u : Nat), u < 10 ^ k → valF acc (lastD k u) = acc * 10 ^ k + u
  | 0, acc, u, h => by
    obtain rfl : u = 0 := by omega
    simp [lastD, valF_nil]
  | k + 1, acc, u, h => by
    rw [Nat.pow_succ] at h
    rw [lastD, valF_snoc, valF_last k acc (u / 10) (by omega), toNat_mod, Nat.pow_succ, Nat.add_mul, Nat.mul_assoc]
    omega
theorem valF_lt : ∀ (l : List UInt8) (acc : Nat), l.all dgB = true → valF acc l < (acc + 1) * 10 ^ l.length
  | [], acc, _ => by simp [valF_nil]
  | b :: l, acc, h => by
    rw [List.all_cons, Bool.and_eq_true] at h
    have hb := h.1
    unfold dgB at hb
    rw [decide_eq_true_iff] at hb
    have := valF_lt l (acc * 10 + (b.toNat - 48)) h.2
    rw [valF_cons, List.length_cons, Nat.pow_succ, Nat.mul_comm (10 ^ l.length) 10, ← Nat.mul_assoc]
    refine Nat.lt_of_lt_of_le this (Nat.mul_le_mul_right _ ?_)
    omega
theorem decFrom_valF : ∀ (l : List UInt8) (acc : Nat), l.all dgB = true → Lib.decFrom acc l = some (valF acc l)
  | [], _, _ => rfl
  | b :: l, acc, h => by
    rw [List.all_cons, Bool.and_eq_true] at h
    have hb := h.1
    unfold dgB at hb
    rw [decide_eq_true_iff] at hb
    have hd : Lib.digitVal b = some (b.toNat - 48) := by unfold Lib.digitVal; rw [if_pos hb]
    simp only [Lib.decFrom, hd]
    exact decFrom_valF l _ h.2
theorem atoi_digits (l : List UInt8) (hl : l ≠ []) (h : l.all dgB = true) : Lib.atoi l = some (valF 0 l : Int) := by
  cases l with
  | nil => exact absurd rfl hl
  | cons b r =>
    have hb : dgB b = true := by rw [List.all_cons, Bool.and_eq_true] at h; exact h.1
    unfold dgB at hb
    rw [decide_eq_true_iff] at hb
    have h45 : (b == 45) = false := by
      refine beq_eq_false_iff_ne.2 ?_
      rintro rfl
      exact absurd hb (by decide)
    have h43 : (b == 43) = false := by
      refine beq_eq_false_iff_ne.2 ?_
      rintro rfl
      exact absurd hb (by decide)
    show (if b == 45 then (Lib.decNat r).map fun (m : Nat) => -(m : Int) else if b == 43 then (Lib.decNat r).map fun (m : Nat) => (m : Int) else (Lib.decNat (b :: r)).map fun (m : Nat) => (m : Int)) = _
    rw [h45, h43]
    simp only [Bool.false_eq_true, if_false, Lib.decNat, List.isEmpty_cons, decFrom_valF _ _ h, Option.map_some]

/-- Strip zeros at the end. -/
abbrev trim0 (l : List UInt8) : List UInt8 := Lib.trimRightB l 48
theorem trim0_snoc_zero (l : List UInt8) : trim0 (l ++ [48]) = trim0 l := by
  unfold trim0 Lib.trimRightB
  simp
theorem trim0_snoc (l : List UInt8) (b : UInt8) (h : b ≠ 48) : trim0 (l ++ [b]) = l ++ [b] := by
  unfold trim0 Lib.trimRightB
  simp [h]
theorem trim0_nil : trim0 [] = [] := rfl
theorem snoc_cases (l : List UInt8) : l = [] ∨ ∃ m b, l = m ++ [b] := by
  rcases List.eq_nil_or_concat l with h | ⟨m, b, h⟩
  · exact .inl h
  · exact .inr ⟨m, b, by rw [h, List.concat_eq_append]⟩
theorem trim0_split : ∀ (n : Nat) (l : List UInt8), l.length = n → l = trim0 l ++ List.replicate (n - (trim0 l).length) 48 ∧ (trim0 l).length ≤ n
  | 0, l, h => by
    obtain rfl : l = [] := List.length_eq_zero_iff.1 h
    exact ⟨by simp [trim0_nil], by simp [trim0_nil]⟩
  | n + 1, l, h => by
    rcases snoc_cases l with rfl | ⟨m, b, rfl⟩
    · cases h
    · have hm : m.length = n := by simpa using h
      by_cases hb : b = 48
      · subst hb
        obtain ⟨h1, h2⟩ := trim0_split n m hm
        rw [trim0_snoc_zero]
        refine ⟨?_, by omega⟩
        rw [show n + 1 - (trim0 m).length = n - (trim0 m).length + 1 by omega, ← replicate_snoc, ← List.append_assoc, ← h1]
      · rw [trim0_snoc m b hb]
        refine ⟨by rw [h, Nat.sub_self]; simp, by omega⟩
theorem trim0_all (l : List UInt8) (h : l.all dgB = true) : (trim0 l).all dgB = true := by
  have := (trim0_split l.length l rfl).1
  rw [this, List.all_append, Bool.and_eq_true] at h
  exact h.1
theorem valF_zeros : ∀ (k acc : Nat), valF acc (List.replicate k 48) = acc * 10 ^ k
  | 0, acc => by simp [valF_nil]
  | k + 1, acc => by
    rw [List.replicate_succ, valF_cons, valF_zeros k, Nat.pow_succ, show (48 : UInt8).toNat - 48 = 0 from rfl, Nat.add_zero, Nat.mul_assoc, Nat.mul_comm 10]
theorem trim0_last_nil (k r : Nat) (h : r < 10 ^ k) : trim0 (lastD k r) = [] ↔ r = 0 := by
  constructor
  · intro e
    have h1 := (trim0_split k (lastD k r) (lastD_len k r)).1
    rw [e, List.nil_append, List.length_nil, Nat.sub_zero] at h1
    have h2 := valF_last k 0 r h
    rw [h1, valF_zeros] at h2
    omega
  · rintro rfl
    have h0 : ∀ k, lastD k 0 = List.replicate k 48 := by
      intro k
      induction k with
      | zero => rfl
      | succ k ih => rw [lastD, Nat.zero_div, ih]; exact replicate_snoc k 48
    rw [h0]
    clear h
    induction k with
    | zero => rfl
    | succ k ih => rw [← replicate_snoc, trim0_snoc_zero]; exact ih

/-- A number's text, by its size. -/
def fixM (u : Nat) : List UInt8 := Lib.decDigits (u / 1000000) ++ (if u % 1000000 = 0 then [] else 46 :: trim0 (lastD 6 (u % 1000000)))
def fixL (n : Int) : List UInt8 := (if n < 0 then [45] else []) ++ fixM n.natAbs
theorem dec_million (r : Nat) (h : r < 1000000) : (Lib.decDigits (1000000 + r)).drop 1 = lastD 6 r := by
  have := dec_one_more 6 r (by simpa using h)
  rw [show (10 : Nat) ^ 6 = 1000000 by decide] at this
  rw [this]
  rfl
/-- So many digits, at least one. -/
def digL (most : Nat) (l : List UInt8) : Bool := l.all dgB && decide (1 ≤ l.length) && decide (l.length ≤ most)
theorem digL_dec (u : Nat) : digL 12 (Lib.decDigits u) = decide (u ≤ 999999999999) := by
  unfold digL
  rw [dec_dg, Lib.decDigits_length]
  have h1 := Lib.nDigits_pos u
  have h2 : Lib.nDigits u ≤ 12 ↔ u ≤ 999999999999 := by
    have hlt := Lib.lt_pow_nDigits u
    constructor
    · intro h
      have : (10 : Nat) ^ Lib.nDigits u ≤ 10 ^ 12 := Nat.pow_le_pow_right (by decide) h
      have e : (10 : Nat) ^ 12 = 1000000000000 := by decide
      omega
    · intro h
      refine Nat.le_of_not_lt fun h13 => ?_
      have hk : ∀ k, k + 1 ≤ Lib.nDigits u → 1 ≤ k → 10 ^ k ≤ u := by
        intro k hk h1
        refine Nat.le_of_not_lt fun hu => ?_
        have key : ∀ (k u : Nat), 1 ≤ k → u < 10 ^ k → Lib.nDigits u ≤ k := by
          intro k
          induction k with
          | zero => intro u h; omega
          | succ k ih =>
            intro u _ hu
            by_cases h10 : u < 10
            · rw [Lib.nDigits_small h10]; omega
            · rw [Lib.nDigits_big h10]
              rw [Nat.pow_succ] at hu
              by_cases hk0 : k = 0
              · subst hk0; omega
              · have := ih (u / 10) (by omega) (by omega)
                omega
        have := key k u h1 hu
        omega
      have := hk 12 (by omega) (by omega)
      have e : (10 : Nat) ^ 12 = 1000000000000 := by decide
      omega
  rw [decide_eq_true h1, Bool.and_true, Bool.true_and]
  exact decide_eq_decide.2 h2
/-- What is ahead of the first such byte, what is behind it, is there one. -/
def cutL : List UInt8 → UInt8 → List UInt8 × List UInt8 × Bool
  | [], _ => ([], [], false)
  | x :: l, c => if x = c then ([], l, true) else (x :: (cutL l c).1, (cutL l c).2.1, (cutL l c).2.2)
theorem cutL_no {l : List UInt8} {c : UInt8} (h : c ∉ l) : cutL l c = (l, [], false) := by
  induction l with
  | nil => rfl
  | cons x l ih =>
    have h1 : x ≠ c := fun e => h (by simp [e])
    have h2 := ih fun e => h (by simp [e])
    simp only [cutL, if_neg h1, h2]
theorem cutL_at {a b : List UInt8} {c : UInt8} (h : c ∉ a) : cutL (a ++ c :: b) c = (a, b, true) := by
  induction a with
  | nil => simp [cutL]
  | cons x a ih =>
    have h1 : x ≠ c := fun e => h (by simp [e])
    have h2 := ih fun e => h (by simp [e])
    simp only [List.cons_append, cutL, if_neg h1, h2]
theorem not_mem_dg {l : List UInt8} (h : l.all dgB = true) (c : UInt8) (hc : dgB c = false) : c ∉ l := by
  intro e
  rw [List.all_eq_true] at h
  have := h c e
  rw [hc] at this
  cases this
/-- A text's number, in millionths, and the error's number. -/
def readM (neg : Bool) (t : List UInt8) : Int × Int :=
  if digL 12 (cutL t 46).1 && (!(cutL t 46).2.2 || digL 6 (cutL t 46).2.1) then
    ((if neg then -(valF 0 ((cutL t 46).1 ++ (cutL t 46).2.1 ++ List.replicate (6 - (cutL t 46).2.1.length) 48) : Int) else (valF 0 ((cutL t 46).1 ++ (cutL t 46).2.1 ++ List.replicate (6 - (cutL t 46).2.1.length) 48) : Int)), 0)
  else (0, 8)
def readL (s : List UInt8) : Int × Int := if s.head? = some 45 then readM true s.tail else readM false s
theorem cut_fixM (u : Nat) : cutL (fixM u) 46 = (Lib.decDigits (u / 1000000), (if u % 1000000 = 0 then [] else trim0 (lastD 6 (u % 1000000))), !decide (u % 1000000 = 0)) := by
  have hn : (46 : UInt8) ∉ Lib.decDigits (u / 1000000) := not_mem_dg (dec_dg _) _ (by decide)
  unfold fixM
  by_cases h : u % 1000000 = 0
  · rw [if_pos h, if_pos h, List.append_nil, cutL_no hn, decide_eq_true h]; rfl
  · rw [if_neg h, if_neg h, cutL_at hn, decide_eq_false h]; rfl
theorem readM_fixM (neg : Bool) (u : Nat) : readM neg (fixM u) = if u / 1000000 ≤ 999999999999 then ((if neg then -(u : Int) else (u : Int)), 0) else (0, 8) := by
  have hr : u % 1000000 < 10 ^ 6 := by have : (10 : Nat) ^ 6 = 1000000 := by decide
                                       omega
  unfold readM
  rw [cut_fixM]
  simp only
  rw [digL_dec]
  have hp : (!(!decide (u % 1000000 = 0)) || digL 6 (if u % 1000000 = 0 then [] else trim0 (lastD 6 (u % 1000000)))) = true := by
    by_cases h : u % 1000000 = 0
    · simp [h]
    · have h1 := trim0_split 6 _ (lastD_len 6 (u % 1000000))
      have h2 : trim0 (lastD 6 (u % 1000000)) ≠ [] := fun e => h ((trim0_last_nil 6 _ hr).1 e)
      have h3 : 1 ≤ (trim0 (lastD 6 (u % 1000000))).length := List.length_pos_iff.2 h2
      have h4 := trim0_all _ (lastD_dg 6 (u % 1000000))
      rw [if_neg h]
      unfold digL
      rw [h4, decide_eq_true h3, decide_eq_true h1.2]
      simp
  rw [hp, Bool.and_true]
  have hv : valF 0 (Lib.decDigits (u / 1000000) ++ (if u % 1000000 = 0 then [] else trim0 (lastD 6 (u % 1000000))) ++ List.replicate (6 - (if u % 1000000 = 0 then [] else trim0 (lastD 6 (u % 1000000))).length) 48) = u := by
    have hz : (if u % 1000000 = 0 then [] else trim0 (lastD 6 (u % 1000000))) = trim0 (lastD 6 (u % 1000000)) := by
      by_cases h : u % 1000000 = 0
      · rw [if_pos h, (trim0_last_nil 6 _ hr).2 h]
      · rw [if_neg h]
    rw [hz, List.append_assoc, ← (trim0_split 6 _ (lastD_len 6 (u % 1000000))).1, valF_append, valF_dec, valF_last 6 _ _ hr]
    have : (10 : Nat) ^ 6 = 1000000 := by decide
    omega
  rw [hv]
  by_cases h : u / 1000000 ≤ 999999999999
  · rw [decide_eq_true h, if_pos rfl, if_pos h]
  · rw [decide_eq_false h, if_neg (by decide), if_neg h]
theorem fixM_head (u : Nat) : (fixM u).head? ≠ some 45 := by
  intro e
  have hd := dec_dg (u / 1000000)
  have hl : 1 ≤ (Lib.decDigits (u / 1000000)).length := by rw [Lib.decDigits_length]; exact Lib.nDigits_pos _
  unfold fixM at e
  cases hc : Lib.decDigits (u / 1000000) with
  | nil => rw [hc] at hl; cases hl
  | cons b r =>
    rw [hc] at e hd
    simp only [List.cons_append, List.head?_cons, Option.some.injEq] at e
    subst e
    simp [dgB] at hd
theorem readL_fixL (n : Int) : readL (fixL n) = if n.natAbs / 1000000 ≤ 999999999999 then (n, 0) else (0, 8) := by
  unfold readL fixL
  by_cases h : n < 0
  · rw [if_pos h]
    simp only [List.singleton_append, List.head?_cons, if_true, List.tail_cons]
    rw [readM_fixM]
    simp only [if_true]
    rw [show -(n.natAbs : Int) = n by omega]
  · rw [if_neg h, List.nil_append, if_neg (fixM_head _), readM_fixM]
    simp only [Bool.false_eq_true, if_false]
    rw [show (n.natAbs : Int) = n by omega]
end Go.Proofs.YtiddemgeehcjpaaDoor.H
