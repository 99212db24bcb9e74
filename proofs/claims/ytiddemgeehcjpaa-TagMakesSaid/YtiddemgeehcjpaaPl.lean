/- Plain words on strings and loops, for the laws: no program in sight (but for the print's words). -/
import Derived.Test.YtiddemgeehcjpaaWMore
import Derived.Lib.IndexLaws
namespace Go.Proofs.Ytiddemgeehcjpaa.H
open Go.RowKit Go.Proofs.YtiddemgeehcjpaaW.PrintWords Go.Proofs.YtiddemgeehcjpaaW.PrintLast Go.Proofs.YtiddemgeehcjpaaW.PrintMore
set_option linter.unusedVariables false

theorem wrap_in {n : Int} (h1 : -9223372036854775808 ≤ n) (h2 : n ≤ 9223372036854775807) : wrap64 n = n := by unfold wrap64; omega
theorem wrap_succ {i : Int} {n : Nat} (h0 : 0 ≤ i) (h : i < (n : Int)) (hn : n ≤ 9223372036854775807) : wrap64 (i + 1) = i + 1 := wrap_in (by omega) (by omega)

/-- A string from a place on. -/
def tl (s : ByteArray) (i : Int) : List UInt8 := s.data.toList.drop i.toNat
theorem tl_zero (s : ByteArray) : tl s 0 = s.data.toList := rfl
theorem len_of (s : ByteArray) : s.data.toList.length = s.size := by simp
theorem tl_end (s : ByteArray) (i : Int) (h : (s.size : Int) ≤ i) : tl s i = [] := by
  unfold tl
  rw [List.drop_eq_nil_iff, len_of]
  omega
theorem tl_cons (s : ByteArray) (i : Int) (h0 : 0 ≤ i) (h : i < (s.size : Int)) : ∃ b : UInt8, tl s i = b :: tl s (i + 1) ∧ bt s i = (b.toNat : Int) := by
  have hl : i.toNat < s.data.toList.length := by rw [len_of]; omega
  refine ⟨s.data.toList[i.toNat], ?_, ?_⟩
  · unfold tl
    rw [List.drop_eq_getElem_cons hl, show (i + 1).toNat = i.toNat + 1 by omega]
  · have hs : i.toNat < s.size := by omega
    unfold bt
    rw [dif_pos hs]
    rfl
def okb (ok : Int → Bool) (b : UInt8) : Bool := ok (b.toNat : Int)
theorem tl_all (s : ByteArray) (ok : Int → Bool) (i : Int) (h0 : 0 ≤ i) (h : i < (s.size : Int)) : (tl s i).all (okb ok) = (ok (bt s i) && (tl s (i + 1)).all (okb ok)) := by
  obtain ⟨b, e, eb⟩ := tl_cons s i h0 h
  rw [e, List.all_cons, eb]
  rfl

/-- A loop over a string that ends with 'false' at the first byte that isn't right. -/
theorem all_loop (F : Nat → Int → Option Bool) (s : ByteArray) (ok : Int → Bool) (fin : Bool)
    (hstep : ∀ k i, 0 ≤ i → i < (s.size : Int) → F (k + 1) i = if ok (bt s i) = true then F k (i + 1) else some false) (hend : ∀ k, F (k + 1) (s.size : Int) = some fin) :
    ∀ (d k : Nat) (i : Int), 0 ≤ i → i ≤ (s.size : Int) → (s.size : Int) - i = d → d < k → F k i = some ((tl s i).all (okb ok) && fin) := by
  intro d
  induction d with
  | zero =>
    intro k i h0 h1 hd hk
    obtain ⟨k, rfl⟩ : ∃ m, k = m + 1 := ⟨k - 1, by omega⟩
    obtain rfl : i = s.size := by omega
    rw [hend, tl_end _ _ (by omega)]
    simp
  | succ d ih =>
    intro k i h0 h1 hd hk
    obtain ⟨k, rfl⟩ : ∃ m, k = m + 1 := ⟨k - 1, by omega⟩
    rw [hstep k i h0 (by omega), tl_all s ok i h0 (by omega)]
    by_cases h : ok (bt s i) = true
    · rw [if_pos h, ih k (i + 1) (by omega) (by omega) (by omega) (by omega), h, Bool.true_and]
    · rw [if_neg h]
      simp [h]
/-- The same from the beginning. -/
theorem all_loop0 (F : Nat → Int → Option Bool) (s : ByteArray) (ok : Int → Bool) (fin : Bool)
    (hstep : ∀ k i, 0 ≤ i → i < (s.size : Int) → F (k + 1) i = if ok (bt s i) = true then F k (i + 1) else some false) (hend : ∀ k, F (k + 1) (s.size : Int) = some fin) (k : Nat) (hk : s.size < k) :
    F k 0 = some (s.data.toList.all (okb ok) && fin) := by
  rw [all_loop F s ok fin hstep hend s.size k 0 (by omega) (by omega) (by omega) hk, tl_zero]

theorem ixb_mem (l : List UInt8) (c : UInt8) : 0 ≤ Lib.indexByte l c ↔ c ∈ l := by
  constructor
  · intro h
    obtain ⟨i, hi⟩ := Int.eq_ofNat_of_zero_le h
    exact List.mem_of_getElem? (Lib.indexByte_some hi).1
  · intro h
    have hge := Lib.indexByte_ge l c
    by_cases h1 : Lib.indexByte l c = -1
    · obtain ⟨k, hk⟩ := List.mem_iff_getElem?.1 h
      exact absurd hk (Lib.indexByte_none h1 k)
    · omega
theorem bt_byte (s : ByteArray) (i : Int) (h0 : 0 ≤ i) (h : i < (s.size : Int)) : ∃ b : UInt8, bt s i = (b.toNat : Int) := by
  obtain ⟨b, _, e⟩ := tl_cons s i h0 h
  exact ⟨b, e⟩
theorem byte_eq (b : UInt8) (n : Nat) (h : n < 256) : (b = UInt8.ofNat n) ↔ (b.toNat : Int) = n := by
  constructor
  · rintro rfl
    simp [UInt8.toNat_ofNat']
    omega
  · intro e
    apply UInt8.toNat_inj.1
    simp [UInt8.toNat_ofNat']
    omega
/-- A byte of a name. -/
def nmOk (c : Int) : Bool := decide (97 ≤ c ∧ c ≤ 122) || decide (48 ≤ c ∧ c ≤ 57) || decide (c = 95) || decide (c = 46)
def low (c : Int) : Bool := decide (97 ≤ c ∧ c ≤ 122)
/-- A byte of a value. -/
def vlOk (c : Int) : Bool := decide (33 ≤ c ∧ c ≤ 126 ∧ c ≠ 44 ∧ c ≠ 58 ∧ c ≠ 59 ∧ c ≠ 61 ∧ c ≠ 124 ∧ c ≠ 35 ∧ c ≠ 34 ∧ c ≠ 123 ∧ c ≠ 125)
theorem vlOk_iff (c : Int) : vlOk c = true ↔ (33 ≤ c ∧ c ≤ 126 ∧ c ≠ 44 ∧ c ≠ 58 ∧ c ≠ 59 ∧ c ≠ 61 ∧ c ≠ 124 ∧ c ≠ 35 ∧ c ≠ 34 ∧ c ≠ 123 ∧ c ≠ 125) := decide_eq_true_iff
def nameB (s : ByteArray) : Bool := decide (1 ≤ s.size) && decide (s.size ≤ 24) && low (bt s 0) && s.data.toList.all (okb nmOk)
def valueB (s : ByteArray) : Bool := s.data.toList.all (okb vlOk) && decide (1 ≤ s.size) && decide (s.size ≤ 24)
def dotB (s : ByteArray) : Bool := decide ((46 : UInt8) ∈ s.data.toList)
def wordB (s : ByteArray) : Bool := nameB s && !dotB s
end Go.Proofs.Ytiddemgeehcjpaa.H
