/- Cutting and splitting at one byte, told on lists; the reference's Cut, Texts and Word. -/
import Derived.Test.YtiddemgeehcjpaaTagP
import Derived.Test.YtiddemgeehcjpaaTagL
import Derived.Test.YtiddemgeehcjpaaTagM
namespace Go.Proofs.Ytiddemgeehcjpaa.H
open Go.RowKit Go.Shelf Go.Proofs.Ytiddemgeehcjpaa.PA Go.Proofs.YtiddemgeehcjpaaW.PrintWords Go.Proofs.YtiddemgeehcjpaaW.PrintLast Go.Proofs.YtiddemgeehcjpaaW.PrintMore
set_option linter.unusedVariables false

/-- A string of some bytes. -/
def ba (l : List UInt8) : ByteArray := ⟨l.toArray⟩
theorem ba_data (l : List UInt8) : (ba l).data.toList = l := rfl
theorem ba_of (s : ByteArray) : ba s.data.toList = s := by cases s; rfl
theorem ba_eq {s : ByteArray} {l : List UInt8} (h : s.data.toList = l) : s = ba l := by rw [← h, ba_of]
theorem ba_tl (l : List UInt8) : (ba l).toList = l := by rw [Lib.toList_data, ba_data]

theorem ixb_at {a b : List UInt8} {c : UInt8} (h : c ∉ a) : Lib.indexByte (a ++ c :: b) c = a.length := by
  induction a with
  | nil => simp [Lib.indexByte]
  | cons x a ih =>
    have h1 : (x == c) = false := by simp; rintro rfl; exact h (by simp)
    have h2 := ih (fun z => h (by simp [z]))
    rw [List.cons_append, Lib.indexByte, h1, h2]
    rw [if_neg (by decide), if_neg (by simp)]
    simp
theorem ixb_no {a : List UInt8} {c : UInt8} (h : c ∉ a) : Lib.indexByte a c = -1 := by
  have h1 := ixb_mem a c
  have h2 := Lib.indexByte_ge a c
  have : ¬ 0 ≤ Lib.indexByte a c := fun z => h (h1.1 z)
  omega
theorem first_of {l : List UInt8} {c : UInt8} (h : c ∈ l) : ∃ a b, c ∉ a ∧ l = a ++ c :: b := by
  induction l with
  | nil => cases h
  | cons x l ih =>
    by_cases hx : x = c
    · exact ⟨[], l, by simp, by rw [hx]; rfl⟩
    · obtain ⟨a, b, ha, hb⟩ := ih (by simpa [Ne.symm hx] using h)
      exact ⟨x :: a, b, by simp [Ne.symm hx, ha], by rw [hb]; rfl⟩
theorem ex_left (s : ByteArray) (n : Nat) : s.extract 0 n = ba (s.data.toList.take n) := ba_eq (Lib.extract_from_zero s n)
theorem ex_right (s : ByteArray) (n : Nat) : s.extract n s.size = ba (s.data.toList.drop n) := ba_eq (Lib.extract_to_end s n)
theorem drop_mid (a b : List UInt8) (c : UInt8) : (a ++ c :: b).drop (a.length + 1) = b := by
  rw [List.drop_append, List.drop_of_length_le (by omega), show a.length + 1 - a.length = 1 by omega]
  rfl
theorem cut_no {a : List UInt8} {c : UInt8} (h : c ∉ a) : cutB (ba a) c = (ba a, ⟨#[]⟩, false) := by
  unfold cutB
  rw [ba_data, ixb_no h]
  rfl
theorem cut_at {a b : List UInt8} {c : UInt8} (h : c ∉ a) : cutB (ba (a ++ c :: b)) c = (ba a, ba b, true) := by
  unfold cutB
  rw [ba_data, ixb_at h, if_neg (by omega), ex_left, ex_right, ba_data, Int.toNat_natCast, drop_mid]
  simp
/-- The reference's Cut is the same. -/
theorem refCut_loop (s : ByteArray) (c : UInt8) (hs : s.size ≤ 140737488355328) : ∀ (d k i : Nat), i ≤ s.size → s.size - i = d → d < k → c ∉ s.data.toList.take i → tidemillref01_Cut.l0 k s (c.toNat : Int) (i : Int) = some (cutB s c) := by
  intro d
  induction d with
  | zero =>
    intro k i h0 hd hk hn
    obtain ⟨k, rfl⟩ : ∃ m, k = m + 1 := ⟨k - 1, by omega⟩
    obtain rfl : i = s.size := by omega
    simp only [tidemillref01_Cut.l0]
    rw [if_neg (by omega)]
    rw [List.take_of_length_le (by rw [len_of]; omega)] at hn
    have := cut_no hn
    rw [ba_of] at this
    rw [this]
  | succ d ih =>
    intro k i h0 hd hk hn
    obtain ⟨k, rfl⟩ : ∃ m, k = m + 1 := ⟨k - 1, by omega⟩
    have hi : i < s.data.toList.length := by rw [len_of]; omega
    simp only [tidemillref01_Cut.l0]
    rw [if_pos (by omega), if_pos (by omega)]
    obtain ⟨b, e, eb⟩ := tl_cons s (i : Int) (by omega) (by omega)
    have e' : s.data.toList.drop i = b :: s.data.toList.drop (i + 1) := by
      have := e
      unfold tl at this
      rwa [Int.toNat_natCast, show ((i : Int) + 1).toNat = i + 1 by omega] at this
    have hsp : s.data.toList = s.data.toList.take i ++ b :: s.data.toList.drop (i + 1) := by rw [← e', List.take_append_drop]
    rw [eb]
    by_cases hb : b = c
    · subst hb
      rw [wrap_succ (n := s.size) (by omega) (by omega) (by omega), if_pos rfl, if_pos (by omega), if_pos (by omega), if_pos (by omega)]
      have h3 : cutB s b = (ba (s.data.toList.take i), ba (s.data.toList.drop (i + 1)), true) := by
        have h4 := cut_at (b := s.data.toList.drop (i + 1)) hn
        rw [← hsp, ba_of] at h4
        exact h4
      rw [h3, show ((i : Int) + 1).toNat = i + 1 by omega, Int.toNat_natCast, ex_left, ex_right]
    · rw [if_neg (fun h => hb (UInt8.toNat_inj.1 (by omega))), wrap_succ (n := s.size) (by omega) (by omega) (by omega)]
      refine ih k (i + 1) (by omega) (by omega) (by omega) ?_
      rw [List.take_succ_eq_append_getElem hi]
      have hg : s.data.toList[i] = b := by
        have h5 := List.drop_eq_getElem_cons hi
        rw [e'] at h5
        exact (List.cons.inj h5).1.symm
      rw [hg]
      simp only [List.mem_append, List.mem_singleton]
      rintro (h | h)
      · exact hn h
      · exact hb h.symm
theorem refCut_eq (s : ByteArray) (c : UInt8) (hs : s.size ≤ 140737488355328) (k : Nat) (hk : s.size < k) : tidemillref01_Cut.f k s (c.toNat : Int) = some (cutB s c) := by
  unfold tidemillref01_Cut.f
  exact refCut_loop s c hs s.size k 0 (by omega) (by omega) hk (by simp)
theorem cut_dot (s : ByteArray) : (cutB s 46).2.2 = dotB s := by
  unfold dotB
  by_cases h : (46 : UInt8) ∈ s.data.toList
  · obtain ⟨a, b, ha, hb⟩ := first_of h
    rw [ba_eq hb, cut_at ha, ba_data]
    simp
  · have := cut_no h
    rw [ba_of] at this
    rw [this, decide_eq_false h]
theorem refWord_eq (s : ByteArray) (hs : s.size ≤ 140737488355328) (k : Nat) (hk : s.size < k) : tidemillref02_Word.f k s = some (wordB s) := by
  unfold tidemillref02_Word.f wordB
  have := refCut_eq s 46 hs k hk
  change tidemillref01_Cut.f k s 46 = _ at this
  rw [this, refName_eq s hs k hk]
  simp only [Option.bind_some, cut_dot]
  by_cases h : nameB s = true
  · rw [if_pos h, h]; simp
  · rw [if_neg h]; simp [h]

/-- Two texts' order. -/
def cmpL : List UInt8 → List UInt8 → Int
  | [], [] => 0
  | [], _ :: _ => -1
  | _ :: _, [] => 1
  | x :: a, y :: b => if x = y then cmpL a b else if x < y then -1 else 1
theorem cmpL_neg : ∀ (a b : List UInt8), cmpL a b ≥ 0 ↔ Op.bytesLess a b = false
  | [], [] => by simp [cmpL, Op.bytesLess]
  | [], _ :: _ => by simp [cmpL, Op.bytesLess]
  | _ :: _, [] => by simp [cmpL, Op.bytesLess]
  | x :: a, y :: b => by
    have ih := cmpL_neg a b
    simp only [cmpL, Op.bytesLess]
    by_cases h : x = y
    · subst h
      simp [ih]
    · rw [if_neg h]
      by_cases h1 : x < y
      · simp [h1]
      · simp [h1, h]
theorem cmpL_end (a b : List UInt8) (h : a = [] ∨ b = []) : cmpL a b = if a.length < b.length then -1 else if b.length < a.length then 1 else 0 := by
  cases a with
  | nil => cases b <;> simp [cmpL]
  | cons x a =>
    cases b with
    | nil => simp [cmpL]
    | cons y b => simp at h
theorem ints_eq (x y : Int) : tidemillref01_Ints.f x y = some (if x < y then -1 else if y < x then 1 else 0) := by
  unfold tidemillref01_Ints.f
  by_cases h : x < y
  · rw [if_pos h, if_pos h]
  · rw [if_neg h, if_neg h]
    by_cases h1 : y < x
    · rw [if_pos h1, if_pos h1]
    · rw [if_neg h1, if_neg h1]
theorem tl_len (s : ByteArray) (i : Nat) : (tl s (i : Int)).length = s.size - i := by
  unfold tl
  rw [List.length_drop, len_of, Int.toNat_natCast]
theorem texts_loop (a b : ByteArray) (ha : a.size ≤ 140737488355328) (hb : b.size ≤ 140737488355328) : ∀ (d k i : Nat), i ≤ a.size → i ≤ b.size → a.size - i = d → 2 * d + 2 ≤ k → tidemillref01_Texts.l0 k a b (i : Int) = some (cmpL (tl a i) (tl b i)) := by
  intro d
  induction d with
  | zero =>
    intro k i h0 h1 hd hk
    obtain ⟨k, rfl⟩ : ∃ m, k = m + 2 := ⟨k - 2, by omega⟩
    simp only [tidemillref01_Texts.l0, tidemillref01_Texts.j1]
    rw [if_neg (by omega), if_neg (by decide), ints_eq, Option.bind_some, cmpL_end _ _ (.inl (tl_end a i (by omega))), tl_len, tl_len]
    congr 1
    by_cases h : a.size < b.size
    · rw [if_pos (by omega), if_pos (by omega)]
    · rw [if_neg (by omega), if_neg (by omega)]
      rw [if_neg (by omega), if_neg (by omega)]
  | succ d ih =>
    intro k i h0 h1 hd hk
    obtain ⟨k, rfl⟩ : ∃ m, k = m + 2 := ⟨k - 2, by omega⟩
    simp only [tidemillref01_Texts.l0, tidemillref01_Texts.j1]
    rw [if_pos (by omega)]
    by_cases h : (i : Int) < (b.size : Int)
    · rw [if_pos (by simpa using h), if_pos (by omega), if_pos (by omega), if_pos h, wrap_succ (n := b.size) (by omega) (by omega) (by omega)]
      obtain ⟨x, e, ex⟩ := tl_cons a (i : Int) (by omega) (by omega)
      obtain ⟨y, f, fy⟩ := tl_cons b (i : Int) (by omega) (by omega)
      rw [e, f, ex, fy, cmpL]
      by_cases hxy : x = y
      · subst hxy
        rw [if_pos rfl, if_pos rfl]
        exact ih k (i + 1) (by omega) (by omega) (by omega) (by omega)
      · rw [if_neg (fun h => hxy (UInt8.toNat_inj.1 (by omega))), if_neg hxy]
        have hx := x.toNat_lt
        have hy := y.toNat_lt
        rw [wrap_in (by omega) (by omega), wrap_in (by omega) (by omega), ints_eq, Option.bind_some]
        congr 1
        have hne : x.toNat ≠ y.toNat := fun h => hxy (UInt8.toNat_inj.1 h)
        by_cases h2 : x < y
        · have := UInt8.lt_iff_toNat_lt.1 h2
          rw [if_pos h2, if_pos (by omega)]
        · have : ¬ x.toNat < y.toNat := fun h => h2 (UInt8.lt_iff_toNat_lt.2 h)
          rw [if_neg h2, if_neg (by omega), if_pos (by omega)]
    · rw [if_neg (by simpa using h), ints_eq, Option.bind_some, cmpL_end _ _ (.inr (tl_end b i (by omega))), tl_len, tl_len]
      congr 1
      rw [if_neg (by omega), if_pos (by omega), if_neg (by omega), if_pos (by omega)]
theorem texts_eq (a b : ByteArray) (ha : a.size ≤ 140737488355328) (hb : b.size ≤ 140737488355328) (k : Nat) (hk : 2 * a.size + 2 ≤ k) : tidemillref01_Texts.f k a b = some (cmpL a.data.toList b.data.toList) := by
  unfold tidemillref01_Texts.f
  exact texts_loop a b ha hb a.size k 0 (by omega) (by omega) (by omega) (by omega)

/-- Do a label's and more labels' names ascend? -/
def ascF (p : S32) : List S32 → Bool
  | [] => true
  | x :: r => ltName p x && ascF x r
def asc : List S32 → Bool
  | [] => true
  | x :: r => ascF x r
/-- Is a series good? -/
def goodB (m : ByteArray) (l : List S32) : Bool := nameB m && l.all okS && asc l && decide (l.length ≤ 6)
/-- Sizes of a series' texts. -/
def Within (Z : Nat) (l : List S32) : Prop := ∀ x ∈ l, x.f0.size ≤ Z ∧ x.f1.size ≤ Z

theorem rd_at (P : List S32) (x : S32) (R : List S32) : rd_T32 (P ++ x :: R) (P.length : Int) = x := by
  rw [lab_at _ _ (by simp)]
  simp
theorem less_name (p x : S32) : Op.bytesLess p.f0.toList x.f0.toList = ltName p x := by
  unfold ltName Go.Sort.ltStr
  rw [bytesLess_eq, Lib.toList_data, Lib.toList_data]

/-- The same of two lists of labels, at a start. -/
theorem same_loop (m m' : ByteArray) (l : List S32) (hl : l.length ≤ 140737488355328) : ∀ (d k i : Nat), i ≤ l.length → l.length - i = d → d < k → tidemillref02_Same.l0 k (l.length : Int) (i : Int) m l m' l = some true := by
  intro d
  induction d with
  | zero =>
    intro k i h0 hd hk
    obtain ⟨k, rfl⟩ : ∃ m, k = m + 1 := ⟨k - 1, by omega⟩
    simp only [tidemillref02_Same.l0]
    rw [if_neg (by omega)]
  | succ d ih =>
    intro k i h0 hd hk
    obtain ⟨k, rfl⟩ : ∃ m, k = m + 1 := ⟨k - 1, by omega⟩
    simp only [tidemillref02_Same.l0]
    rw [if_pos (by omega), if_pos (by omega), if_pos (by omega), if_pos (by omega), if_neg (by simp), wrap_succ (n := l.length) (by omega) (by omega) (by omega)]
    exact ih k (i + 1) (by omega) (by omega) (by omega)
theorem same_self (m : ByteArray) (l : List S32) (hl : l.length ≤ 140737488355328) (k : Nat) (hk : l.length + 1 < k) : tidemillref02_Same.f k m l m l = some true := by
  unfold tidemillref02_Same.f
  obtain ⟨k, rfl⟩ : ∃ m, k = m + 1 := ⟨k - 1, by omega⟩
  rw [if_pos rfl]
  simp only [tidemillref02_Same.j0]
  rw [if_neg (by simp)]
  exact same_loop m m l hl l.length k 0 (by omega) (by omega) (by omega)
end Go.Proofs.Ytiddemgeehcjpaa.H
