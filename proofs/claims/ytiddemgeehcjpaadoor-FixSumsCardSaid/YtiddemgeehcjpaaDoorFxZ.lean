/- strings.Repeat of one zero, at most six times: the library's short way. -/
import Derived.Test.YtiddemgeehcjpaaDoorFxS
import Derived.Test.YtiddemgeehcjpaaDoorPAx
import Derived.Test.YtiddemgeehcjpaaDoorWMore
import Derived.Outline
namespace Go.Proofs.YtiddemgeehcjpaaDoor.H
open Go.RowKit Go.Shelf Go.Proofs.YtiddemgeehcjpaaDoor.PA Go.Proofs.YtiddemgeehcjpaaDoorW.PrintWords Go.Proofs.YtiddemgeehcjpaaDoorW.PrintLast Go.Proofs.YtiddemgeehcjpaaDoorW.PrintMore
set_option linter.unusedVariables false

def zs (k : Nat) : ByteArray := ⟨(List.replicate k (48 : UInt8)).toArray⟩
theorem drawn_below {w w' : World} (h : Drawn0 w w') : Below w.heap.size w w' := by
  obtain ⟨n, rfl⟩ := h
  exact pw_below_drewN (Below.refl _ _) _
set_option maxRecDepth 1000000 in
set_option maxHeartbeats 4000000 in
theorem repeat0_calls (k : Nat) (hk : k ≤ 6) (w : World) :
    Calls Tryd.prog 48 #[.string ⟨#[48]⟩, .int .i64 (k : Int)] w fun e w' => e = .returned (.string (zs k)) ∧ Below w.heap.size w w' := by
  by_cases h0 : k = 0
  · subst h0
    go_enter Tryd.func48, Tryd.ntmps48
    go_wp2
    go_ret
    exact ⟨rfl, Below.refl _ _⟩
  · by_cases h1 : k = 1
    · subst h1
      go_enter Tryd.func48, Tryd.ntmps48
      go_wp2
      go_ret
      exact ⟨rfl, Below.refl _ _⟩
    · have hmul : ∀ W, _ := fun W => Tryd.bits_Mul 1 k (by decide) (by omega) W
      rw [Nat.one_mul, Nat.div_eq_of_lt (by omega), Nat.mod_eq_of_lt (by omega)] at hmul
      have hpF : ∀ (s : ByteArray) W, Lib.hasPrefix s.data.toList [48] = false → Calls Tryd.prog 83 #[.string s, .string ⟨#[48]⟩] W fun e w' => e = .returned (.bool false) ∧ w' = W := fun s W h => by
        have := Tryd.strings_HasPrefix s ⟨#[48]⟩ W
        rwa [show (ByteArray.mk #[48]).data.toList = [48] from rfl, h] at this
      have hpT : ∀ (s : ByteArray) W, Lib.hasPrefix s.data.toList [48] = true → Calls Tryd.prog 83 #[.string s, .string ⟨#[48]⟩] W fun e w' => e = .returned (.bool true) ∧ w' = W := fun s W h => by
        have := Tryd.strings_HasPrefix s ⟨#[48]⟩ W
        rwa [show (ByteArray.mk #[48]).data.toList = [48] from rfl, h] at this
      have hn0 : ¬ (k : Int) = 0 := by omega
      have hn1 : ¬ (k : Int) = 1 := by omega
      go_enter Tryd.func48, Tryd.ntmps48
      go_wp2_with (first | (go_at_call 82; refine (hmul _).mono ?_; rintro e w' ⟨rfl, rfl⟩) | (go_at_call 83; (first | (refine (hpF _ _ (by decide)).mono ?_; rintro e w' ⟨rfl, rfl⟩) | (refine (hpT _ _ (by decide)).mono ?_; rintro e w' ⟨rfl, rfl⟩))))
      go_ret
      refine ⟨?_, Below.refl _ _⟩
      have hc : k = 2 ∨ k = 3 ∨ k = 4 ∨ k = 5 ∨ k = 6 := by omega
      rcases hc with rfl | rfl | rfl | rfl | rfl <;> rfl
end Go.Proofs.YtiddemgeehcjpaaDoor.H
