/- strings.Cut at one byte, out of the shelf's contracts (laid in YtiddemgeehcjpaaDoorShelf). -/
import Derived.Test.YtiddemgeehcjpaaDoorShelf
import Derived.Test.YtiddemgeehcjpaaDoorWMore
namespace Go.Proofs.YtiddemgeehcjpaaDoor.H
open Go.RowKit Go.Shelf Go.Proofs.YtiddemgeehcjpaaDoorW.PrintWords Go.Proofs.YtiddemgeehcjpaaDoorW.PrintLast Go.Proofs.YtiddemgeehcjpaaDoorW.PrintMore

theorem one_of {b : ByteArray} {c : UInt8} (h : b.data.toList = [c]) : b = ⟨#[c]⟩ := by
  obtain ⟨⟨l⟩⟩ := b
  simp only at h
  rw [h]

/-- What is ahead of the first such byte, what is behind it, is there one. -/
def cutB (s : ByteArray) (c : UInt8) : ByteArray × ByteArray × Bool :=
  if Lib.indexByte s.data.toList c < 0 then (s, ⟨#[]⟩, false) else (s.extract 0 (Lib.indexByte s.data.toList c).toNat, s.extract ((Lib.indexByte s.data.toList c).toNat + 1) s.size, true)

theorem ixb_cases (s : ByteArray) (c : UInt8) : Lib.indexByte s.data.toList c = -1 ∨ ∃ i : Nat, Lib.indexByte s.data.toList c = i ∧ i < s.size := by
  have hge := Lib.indexByte_ge s.data.toList c
  by_cases h : Lib.indexByte s.data.toList c = -1
  · exact .inl h
  · obtain ⟨i, hi⟩ := Int.eq_ofNat_of_zero_le (show 0 ≤ Lib.indexByte s.data.toList c by omega)
    refine .inr ⟨i, hi, ?_⟩
    have h1 := (Lib.indexByte_some hi).1
    have := (List.getElem?_eq_some_iff.1 h1).1
    simpa using this

set_option maxHeartbeats 1000000 in
theorem stringslite_Cut_one (s : ByteArray) (c : UInt8) (w : World) (hs : s.size ≤ 9223372036854775806) :
    Calls Tryd.prog 79 #[.string s, .string ⟨#[c]⟩] w fun e w' => e = .returned (.tuple #[.string (cutB s c).1, .string (cutB s c).2.1, .bool (cutB s c).2.2]) ∧ Drawn0 w w' := by
  have hcon := fun W => Tryd.stringslite_Index_one s c W
  rcases ixb_cases s c with h | ⟨i, h, hi⟩
  · have e1 : cutB s c = (s, ⟨#[]⟩, false) := by unfold cutB; rw [h]; rfl
    rw [e1]
    rw [h] at hcon
    clear h e1
    go_enter Tryd.func79, Tryd.ntmps79
    go_wp2_with (go_at_call 106; refine (hcon _).mono ?_; rintro e w' ⟨rfl, rfl⟩)
    go_ret3
    exact ⟨rfl, Drawn0.refl _⟩
  · have e1 : cutB s c = (s.extract 0 i, s.extract (i + 1) s.size, true) := by unfold cutB; rw [h, if_neg (by omega)]; rfl
    rw [e1]
    rw [h] at hcon
    have c1 : (0 : Int) ≤ ↑i := by omega
    have c2 : (↑i : Int) ≤ ↑s.size := by omega
    have c3 : (0 : Int) ≤ ↑i + 1 := by omega
    have c4 : (↑i + 1 : Int) ≤ ↑s.size := by omega
    clear h e1
    go_enter Tryd.func79, Tryd.ntmps79
    go_wp2_with (go_at_call 106; refine (hcon _).mono ?_; rintro e w' ⟨rfl, rfl⟩)
    go_quiet (fail)
    go_wp2
    go_ret3
    exact ⟨rfl, (Drawn0.refl _).step _⟩

-- EXT strings.Cut plain still
def strings_Cut.f (a0 : ByteArray) (a1 : ByteArray) : Option (ByteArray × ByteArray × Bool) := match a1.data.toList with
  | [c] => if a0.size ≤ 9223372036854775806 then some (cutB a0 c) else none
  | _ => none
theorem strings_Cut.calls (a0 : ByteArray) (a1 : ByteArray) (r1 : ByteArray) (r2 : ByteArray) (r3 : Bool) (w : World) (h : strings_Cut.f a0 a1 = some (r1, r2, r3)) :
    Calls Tryd.prog 45 #[.string a0, .string a1] w fun e w' => e = .returned (.tuple #[.string r1, .string r2, .bool r3]) ∧ Drawn0 w w' := by
  unfold strings_Cut.f at h
  split at h
  · rename_i c hc
    split at h
    · rename_i hs
      obtain rfl := one_of hc
      have hcon := stringslite_Cut_one a0 c w hs
      rw [Option.some.inj h] at hcon
      clear h
      go_enter Tryd.func45, Tryd.ntmps45
      go_wp2_with (go_at_call 79; refine hcon.mono ?_; rintro e w' ⟨rfl, hd⟩)
      go_ret3
      exact ⟨rfl, hd⟩
    · cases h
  · cases h

end Go.Proofs.YtiddemgeehcjpaaDoor.H
