/- Library functions on strings, in the print's form, out of the shelf's contracts (laid in YtiddemgeehcjpaaShelf). -/
import Derived.Test.YtiddemgeehcjpaaShelf
import Derived.Lib.SplitLaws
import Derived.Test.YtiddemgeehcjpaaWMore
namespace Go.Proofs.Ytiddemgeehcjpaa.H
open Go.RowKit Go.Shelf Go.Proofs.YtiddemgeehcjpaaW.PrintWords Go.Proofs.YtiddemgeehcjpaaW.PrintLast Go.Proofs.YtiddemgeehcjpaaW.PrintMore

theorem one_of {b : ByteArray} {c : UInt8} (h : b.data.toList = [c]) : b = ⟨#[c]⟩ := by
  obtain ⟨⟨l⟩⟩ := b
  simp only at h
  rw [h]

-- EXT strings.IndexByte plain still
def strings_IndexByte.f (a0 : ByteArray) (a1 : Int) : Option (Int) := some (Lib.indexByte a0.data.toList a1.toNat.toUInt8)
theorem strings_IndexByte.calls (a0 : ByteArray) (a1 : Int) (r : Int) (w : World) (h : strings_IndexByte.f a0 a1 = some r) :
    Calls Try.prog 45 #[.string a0, .int .u8 a1] w fun e w' => e = .returned (.int .i64 r) ∧ Drawn0 w w' := by
  obtain rfl := Option.some.inj h
  exact (Try.strings_IndexByte a0 a1 w).mono fun e w' ⟨he, hw⟩ => ⟨he, hw ▸ Drawn0.refl w⟩

-- EXT strings.Contains plain still
def strings_Contains.f (a0 : ByteArray) (a1 : ByteArray) : Option (Bool) := match a1.data.toList with
  | [c] => some (decide (0 ≤ Lib.indexByte a0.data.toList c))
  | _ => none
theorem strings_Contains.calls (a0 : ByteArray) (a1 : ByteArray) (r : Bool) (w : World) (h : strings_Contains.f a0 a1 = some r) :
    Calls Try.prog 44 #[.string a0, .string a1] w fun e w' => e = .returned (.bool r) ∧ Drawn0 w w' := by
  unfold strings_Contains.f at h
  split at h
  · rename_i c hc
    obtain rfl := Option.some.inj h
    obtain rfl := one_of hc
    exact (Try.strings_Contains_one a0 c w).mono fun e w' ⟨he, hw⟩ => ⟨he, hw ▸ Drawn0.refl w⟩
  · cases h

/-- What is ahead of the first such byte, what is behind it, is there one. -/
def cutB (s : ByteArray) (c : UInt8) : ByteArray × ByteArray × Bool :=
  if Lib.indexByte s.data.toList c < 0 then (s, ⟨#[]⟩, false) else (s.extract 0 (Lib.indexByte s.data.toList c).toNat, s.extract ((Lib.indexByte s.data.toList c).toNat + 1) s.size, true)

end Go.Proofs.Ytiddemgeehcjpaa.H
