/- Cutting at one byte, told on lists; the reference's Cut. -/
import Derived.Test.YtiddemgeehcjpaaDoorPAx
import Derived.Test.YtiddemgeehcjpaaDoorPl
import Derived.Test.YtiddemgeehcjpaaDoorCut
import Derived.Test.YtiddemgeehcjpaaDoorFxP
namespace Go.Proofs.YtiddemgeehcjpaaDoor.H
open Go.RowKit Go.Shelf Go.Proofs.YtiddemgeehcjpaaDoor.PA Go.Proofs.YtiddemgeehcjpaaDoorW.PrintWords Go.Proofs.YtiddemgeehcjpaaDoorW.PrintLast Go.Proofs.YtiddemgeehcjpaaDoorW.PrintMore
set_option linter.unusedVariables false

/-- A string of some bytes. -/
def ba (l : List UInt8) : ByteArray := ⟨l.toArray⟩
theorem ba_data (l : List UInt8) : (ba l).data.toList = l := rfl
theorem ba_size (l : List UInt8) : (ba l).size = l.length := by simp [ba, ByteArray.size]
theorem ba_of (s : ByteArray) : ba s.data.toList = s := by cases s; rfl
theorem ba_eq {s : ByteArray} {l : List UInt8} (h : s.data.toList = l) : s = ba l := by rw [← h, ba_of]
theorem ixb_at {a b : List UInt8} {c : UInt8} (h : c ∉ a) : Lib.indexByte (a ++ c :: b) c = a.length := by
  induction a with
  | nil => simp [Lib.indexByte]
  | cons x a ih =>
    have h1 : (x == c) = false := by simp; rintro rfl; exact h (by simp)
    have h2 := ih (fun z => h (by simp [z]))
    rw [List.cons_append, Lib.indexByte, h1, h2]
    rw [if_neg (by decide), if_neg (by simp)]
    simp
theorem ixb_no {a : List UInt8} {c : UInt8} (h : c ∉ a) : Lib.indexByte a c = -1 := by
  have h1 := ixb_mem a c
  have h2 := Lib.indexByte_ge a c
  have : ¬ 0 ≤ Lib.indexByte a c := fun z => h (h1.1 z)
  omega
theorem first_of {l : List UInt8} {c : UInt8} (h : c ∈ l) : ∃ a b, c ∉ a ∧ l = a ++ c :: b := by
  induction l with
  | nil => cases h
  | cons x l ih =>
    by_cases hx : x = c
    · exact ⟨[], l, by simp, by rw [hx]; rfl⟩
    · obtain ⟨a, b, ha, hb⟩ := ih (by simpa [Ne.symm hx] using h)
      exact ⟨x :: a, b, by simp [Ne.symm hx, ha], by rw [hb]; rfl⟩
theorem ex_left (s : ByteArray) (n : Nat) : s.extract 0 n = ba (s.data.toList.take n) := ba_eq (Lib.extract_from_zero s n)
theorem ex_right (s : ByteArray) (n : Nat) : s.extract n s.size = ba (s.data.toList.drop n) := ba_eq (Lib.extract_to_end s n)
theorem drop_mid (a b : List UInt8) (c : UInt8) : (a ++ c :: b).drop (a.length + 1) = b := by
  rw [List.drop_append, List.drop_of_length_le (by omega), show a.length + 1 - a.length = 1 by omega]
  rfl
theorem cut_no {a : List UInt8} {c : UInt8} (h : c ∉ a) : cutB (ba a) c = (ba a, ⟨#[]⟩, false) := by
  unfold cutB
  rw [ba_data, ixb_no h]
  rfl
theorem cut_at {a b : List UInt8} {c : UInt8} (h : c ∉ a) : cutB (ba (a ++ c :: b)) c = (ba a, ba b, true) := by
  unfold cutB
  rw [ba_data, ixb_at h, if_neg (by omega), ex_left, ex_right, ba_data, Int.toNat_natCast, drop_mid]
  simp
/-- The program's cut, on lists. -/
theorem cutB_L (s : ByteArray) (c : UInt8) : cutB s c = (ba (cutL s.data.toList c).1, ba (cutL s.data.toList c).2.1, (cutL s.data.toList c).2.2) := by
  by_cases h : c ∈ s.data.toList
  · obtain ⟨a, b, ha, hb⟩ := first_of h
    have e : s = ba (a ++ c :: b) := ba_eq hb
    have e2 := cut_at (b := b) ha
    rw [← e] at e2
    rw [e2, hb, cutL_at ha]
  · have e2 := cut_no h
    rw [ba_of] at e2
    rw [e2, cutL_no h, ba_of]
    rfl
end Go.Proofs.YtiddemgeehcjpaaDoor.H
