/- A part of the proof: words, contracts and walks that the other texts of this folder use. -/
-- laid by wip/xprint.py (a program of this session) over the kit's print; Lean checks it
import Derived.Test.YtiddemgeehcjpaaDoorPAx0
import Derived.Test.YtiddemgeehcjpaaDoorPAx1
namespace Go.Proofs.YtiddemgeehcjpaaDoor.PA
open Go.RowKit Go.Proofs.YtiddemgeehcjpaaDoorW.PrintWords Go.Proofs.YtiddemgeehcjpaaDoorW.PrintLast Go.Proofs.YtiddemgeehcjpaaDoorW.PrintMore
attribute [local go_sem] max2_int min2_int max_two min_two max_three min_three max_four min_four   -- for this text's walks alone
set_option linter.unusedVariables false
set_option linter.unusedSimpArgs false

/-! ### fix_Add: function 17 -/
def fix_Add.j0 : Nat → Int → Int → Bool → Option (Int × Bool)
  | 0, _, _, _ => none
  | k + 1, x0, x1, x6 => if x6 = true then (some (9223372036854775807, true)) else (if x1 < 0 then (if x0 < (wrap64 ((-9223372036854775808) - x1)) then (some ((-9223372036854775808), true)) else (some (wrap64 (x0 + x1), false))) else (some (wrap64 (x0 + x1), false)))
def fix_Add.f (k : Nat) (a0 : Int) (a1 : Int) : Option (Int × Bool) := if a1 > 0 then (fix_Add.j0 k a0 a1 (decide (a0 > (wrap64 (9223372036854775807 - a1))))) else (fix_Add.j0 k a0 a1 false)
set_option maxHeartbeats 8000000 in
set_option maxRecDepth 100000 in
theorem fix_Add.calls (k : Nat) (a0 : Int) (a1 : Int) (r1 : Int) (r2 : Bool) (w : World) (h : fix_Add.f k a0 a1 = some (r1, r2)) :
    Calls Tryd.prog 17 #[.int .i64 a0, .int .i64 a1] w fun e w' => e = .returned (.tuple #[.int .i64 r1, .bool r2]) ∧ Drawn0 w w' := by
  have H : (if a1 > 0 then (fix_Add.j0 k a0 a1 (decide (a0 > (wrap64 (9223372036854775807 - a1))))) else (fix_Add.j0 k a0 a1 false)) = some (r1, r2) := h
  clear h
  have HC3 := Aside0.mk H
  clear H
  go_enter Tryd.func17, Tryd.ntmps17
  go_upto_region 1 with (fail)
  go_cut [6] (fun v6 wc => ∃ (kq : Nat) (x6_2 : Bool), v6 = .bool x6_2 ∧ Aside0 (fix_Add.j0 kq a0 a1 x6_2 = some (r1, r2)) ∧ Aside0 (kq ≤ k) ∧ Drawn0 w wc)
  case first =>
    have H := HC3.out
    clear HC3
    by_cases c4 : a1 > 0
    · rw [if_pos c4] at H
      have c4b0 : decide (0 < a1) = true := decide_eq_true c4
      clear c4
      (first | rw [c4b0] | (simp only [i64_w, i32_w]; rw [c4b0]) | skip)
      have H' := Aside0.mk H
      clear H
      go_wp2
      go_meet
      case rel => exact ⟨_, (decide (a0 > (wrap64 (9223372036854775807 - a1)))), (by first | rfl | (simp; done) | (simp [*]; done)), H', ⟨by first | omega | exact Nat.le_refl _⟩, by repeat (first | exact Drawn0.refl _ | apply Drawn0.step)⟩
    · rw [if_neg c4] at H
      have c4b0 : decide (0 < a1) = false := decide_eq_false c4
      clear c4
      (first | rw [c4b0] | (simp only [i64_w, i32_w]; rw [c4b0]) | skip)
      have H' := Aside0.mk H
      clear H
      go_wp2
      go_meet
      case rel => exact ⟨_, (false), (by first | rfl | (simp; done) | (simp [*]; done)), H', ⟨by first | omega | exact Nat.le_refl _⟩, by repeat (first | exact Drawn0.refl _ | apply Drawn0.step)⟩
  case rest =>
    clear HC3
    try clear c1
    try clear p2
    try clear c4
    try clear c4b0
    obtain ⟨kq, x6_2, rfl, HA, HJ2, ⟨mc2, rfl⟩⟩ := hcut
    cases kq with
    | zero => exact absurd HA.out (by simp [fix_Add.j0])
    | succ kj2 =>
      have H := HA.out
      clear HA
      simp only [fix_Add.j0] at H
      by_cases c5 : x6_2 = true
      · subst c5
        have H1 : (some (9223372036854775807, true)) = some (r1, r2) := by rw [if_pos rfl] at H; exact H
        clear H
        have H := H1
        clear H1
        simp only [Option.some.injEq, Prod.mk.injEq] at H
        obtain ⟨rfl, rfl⟩ := H
        go_wp2
        go_ret2
        exact ⟨by first | rfl | (simp; done) | (simp [*]; done), by repeat (first | exact Drawn0.refl _ | apply Drawn0.step)⟩
      · replace c5 := Bool.eq_false_iff.mpr c5
        subst c5
        have H1 : (if a1 < 0 then (if a0 < (wrap64 ((-9223372036854775808) - a1)) then (some ((-9223372036854775808), true)) else (some (wrap64 (a0 + a1), false))) else (some (wrap64 (a0 + a1), false))) = some (r1, r2) := by rw [if_neg (show ¬ (false = true) by decide)] at H; exact H
        clear H
        have H := H1
        clear H1
        by_cases c6 : a1 < 0
        · rw [if_pos c6] at H
          have c6b0 : decide (a1 < 0) = true := decide_eq_true c6
          clear c6
          by_cases c7 : a0 < (wrap64 ((-9223372036854775808) - a1))
          · rw [if_pos c7] at H
            have c7b0 : decide (a0 < (wrap64 ((-9223372036854775808) - a1))) = true := decide_eq_true c7
            clear c7
            simp only [Option.some.injEq, Prod.mk.injEq] at H
            obtain ⟨rfl, rfl⟩ := H
            go_wp2
            go_ret2
            exact ⟨by first | rfl | (simp; done) | (simp [*]; done), by repeat (first | exact Drawn0.refl _ | apply Drawn0.step)⟩
          · rw [if_neg c7] at H
            have c7b0 : decide (a0 < (wrap64 ((-9223372036854775808) - a1))) = false := decide_eq_false c7
            clear c7
            simp only [Option.some.injEq, Prod.mk.injEq] at H
            obtain ⟨rfl, rfl⟩ := H
            go_wp2
            go_ret2
            exact ⟨by first | rfl | (simp; done) | (simp [*]; done), by repeat (first | exact Drawn0.refl _ | apply Drawn0.step)⟩
        · rw [if_neg c6] at H
          have c6b0 : decide (a1 < 0) = false := decide_eq_false c6
          clear c6
          simp only [Option.some.injEq, Prod.mk.injEq] at H
          obtain ⟨rfl, rfl⟩ := H
          go_wp2
          go_ret2
          exact ⟨by first | rfl | (simp; done) | (simp [*]; done), by repeat (first | exact Drawn0.refl _ | apply Drawn0.step)⟩

/-! ### tidemillref01_Add: function 18 -/
def tidemillref01_Add.f (a0 : Int) (a1 : Int) : Option (Int × Bool) := if (wrap64 ((wrap64 ((wrap64 (Int.tdiv a0 2)) + (wrap64 (Int.tdiv a1 2)))) + (wrap64 (Int.tdiv (wrap64 ((Int.tmod a0 2) + (Int.tmod a1 2))) 2)))) > 4611686018427387903 then (some (9223372036854775807, true)) else (if (wrap64 ((wrap64 ((wrap64 (Int.tdiv a0 2)) + (wrap64 (Int.tdiv a1 2)))) + (wrap64 (Int.tdiv (wrap64 ((Int.tmod a0 2) + (Int.tmod a1 2))) 2)))) < (-4611686018427387904) then (some ((-9223372036854775808), true)) else (if (wrap64 ((wrap64 ((wrap64 (Int.tdiv a0 2)) + (wrap64 (Int.tdiv a1 2)))) + (wrap64 (Int.tdiv (wrap64 ((Int.tmod a0 2) + (Int.tmod a1 2))) 2)))) = (-4611686018427387904) then (if (Int.tmod (wrap64 ((Int.tmod a0 2) + (Int.tmod a1 2))) 2) < 0 then (some ((-9223372036854775808), true)) else (some (wrap64 ((wrap64 ((wrap64 ((wrap64 ((wrap64 (Int.tdiv a0 2)) + (wrap64 (Int.tdiv a1 2)))) + (wrap64 (Int.tdiv (wrap64 ((Int.tmod a0 2) + (Int.tmod a1 2))) 2)))) * 2)) + (Int.tmod (wrap64 ((Int.tmod a0 2) + (Int.tmod a1 2))) 2)), false))) else (some (wrap64 ((wrap64 ((wrap64 ((wrap64 ((wrap64 (Int.tdiv a0 2)) + (wrap64 (Int.tdiv a1 2)))) + (wrap64 (Int.tdiv (wrap64 ((Int.tmod a0 2) + (Int.tmod a1 2))) 2)))) * 2)) + (Int.tmod (wrap64 ((Int.tmod a0 2) + (Int.tmod a1 2))) 2)), false))))
set_option maxHeartbeats 8000000 in
set_option maxRecDepth 100000 in
theorem tidemillref01_Add.calls (a0 : Int) (a1 : Int) (r1 : Int) (r2 : Bool) (w : World) (h : tidemillref01_Add.f a0 a1 = some (r1, r2)) :
    Calls Tryd.prog 18 #[.int .i64 a0, .int .i64 a1] w fun e w' => e = .returned (.tuple #[.int .i64 r1, .bool r2]) ∧ Drawn0 w w' := by
  have H : (if (wrap64 ((wrap64 ((wrap64 (Int.tdiv a0 2)) + (wrap64 (Int.tdiv a1 2)))) + (wrap64 (Int.tdiv (wrap64 ((Int.tmod a0 2) + (Int.tmod a1 2))) 2)))) > 4611686018427387903 then (some (9223372036854775807, true)) else (if (wrap64 ((wrap64 ((wrap64 (Int.tdiv a0 2)) + (wrap64 (Int.tdiv a1 2)))) + (wrap64 (Int.tdiv (wrap64 ((Int.tmod a0 2) + (Int.tmod a1 2))) 2)))) < (-4611686018427387904) then (some ((-9223372036854775808), true)) else (if (wrap64 ((wrap64 ((wrap64 (Int.tdiv a0 2)) + (wrap64 (Int.tdiv a1 2)))) + (wrap64 (Int.tdiv (wrap64 ((Int.tmod a0 2) + (Int.tmod a1 2))) 2)))) = (-4611686018427387904) then (if (Int.tmod (wrap64 ((Int.tmod a0 2) + (Int.tmod a1 2))) 2) < 0 then (some ((-9223372036854775808), true)) else (some (wrap64 ((wrap64 ((wrap64 ((wrap64 ((wrap64 (Int.tdiv a0 2)) + (wrap64 (Int.tdiv a1 2)))) + (wrap64 (Int.tdiv (wrap64 ((Int.tmod a0 2) + (Int.tmod a1 2))) 2)))) * 2)) + (Int.tmod (wrap64 ((Int.tmod a0 2) + (Int.tmod a1 2))) 2)), false))) else (some (wrap64 ((wrap64 ((wrap64 ((wrap64 ((wrap64 (Int.tdiv a0 2)) + (wrap64 (Int.tdiv a1 2)))) + (wrap64 (Int.tdiv (wrap64 ((Int.tmod a0 2) + (Int.tmod a1 2))) 2)))) * 2)) + (Int.tmod (wrap64 ((Int.tmod a0 2) + (Int.tmod a1 2))) 2)), false))))) = some (r1, r2) := h
  clear h
  by_cases c3 : (wrap64 ((wrap64 ((wrap64 (Int.tdiv a0 2)) + (wrap64 (Int.tdiv a1 2)))) + (wrap64 (Int.tdiv (wrap64 ((Int.tmod a0 2) + (Int.tmod a1 2))) 2)))) > 4611686018427387903
  · rw [if_pos c3] at H
    have c3b0 : decide (4611686018427387903 < (wrap64 ((wrap64 ((wrap64 (Int.tdiv a0 2)) + (wrap64 (Int.tdiv a1 2)))) + (wrap64 (Int.tdiv (wrap64 ((Int.tmod a0 2) + (Int.tmod a1 2))) 2))))) = true := decide_eq_true c3
    clear c3
    simp only [Option.some.injEq, Prod.mk.injEq] at H
    obtain ⟨rfl, rfl⟩ := H
    go_enter Tryd.func18, Tryd.ntmps18
    go_wp2
    go_ret2
    exact ⟨by first | rfl | (simp; done) | (simp [*]; done), by repeat (first | exact Drawn0.refl _ | apply Drawn0.step)⟩
  · rw [if_neg c3] at H
    have c3b0 : decide (4611686018427387903 < (wrap64 ((wrap64 ((wrap64 (Int.tdiv a0 2)) + (wrap64 (Int.tdiv a1 2)))) + (wrap64 (Int.tdiv (wrap64 ((Int.tmod a0 2) + (Int.tmod a1 2))) 2))))) = false := decide_eq_false c3
    clear c3
    by_cases c4 : (wrap64 ((wrap64 ((wrap64 (Int.tdiv a0 2)) + (wrap64 (Int.tdiv a1 2)))) + (wrap64 (Int.tdiv (wrap64 ((Int.tmod a0 2) + (Int.tmod a1 2))) 2)))) < (-4611686018427387904)
    · rw [if_pos c4] at H
      have c4b0 : decide ((wrap64 ((wrap64 ((wrap64 (Int.tdiv a0 2)) + (wrap64 (Int.tdiv a1 2)))) + (wrap64 (Int.tdiv (wrap64 ((Int.tmod a0 2) + (Int.tmod a1 2))) 2)))) < (-4611686018427387904)) = true := decide_eq_true c4
      clear c4
      simp only [Option.some.injEq, Prod.mk.injEq] at H
      obtain ⟨rfl, rfl⟩ := H
      go_enter Tryd.func18, Tryd.ntmps18
      go_wp2
      go_ret2
      exact ⟨by first | rfl | (simp; done) | (simp [*]; done), by repeat (first | exact Drawn0.refl _ | apply Drawn0.step)⟩
    · rw [if_neg c4] at H
      have c4b0 : decide ((wrap64 ((wrap64 ((wrap64 (Int.tdiv a0 2)) + (wrap64 (Int.tdiv a1 2)))) + (wrap64 (Int.tdiv (wrap64 ((Int.tmod a0 2) + (Int.tmod a1 2))) 2)))) < (-4611686018427387904)) = false := decide_eq_false c4
      clear c4
      by_cases c5 : (wrap64 ((wrap64 ((wrap64 (Int.tdiv a0 2)) + (wrap64 (Int.tdiv a1 2)))) + (wrap64 (Int.tdiv (wrap64 ((Int.tmod a0 2) + (Int.tmod a1 2))) 2)))) = (-4611686018427387904)
      · rw [if_pos c5] at H
        have c5b0 : ((wrap64 ((wrap64 ((wrap64 (Int.tdiv a0 2)) + (wrap64 (Int.tdiv a1 2)))) + (wrap64 (Int.tdiv (wrap64 ((Int.tmod a0 2) + (Int.tmod a1 2))) 2)))) == (-4611686018427387904)) = true := beq_iff_eq.mpr c5
        have c5b1 : ((wrap64 ((wrap64 ((wrap64 (Int.tdiv a0 2)) + (wrap64 (Int.tdiv a1 2)))) + (wrap64 (Int.tdiv (wrap64 ((Int.tmod a0 2) + (Int.tmod a1 2))) 2)))) != (-4611686018427387904)) = false := bne_eq_false_iff_eq.mpr c5
        clear c5
        by_cases c6 : (Int.tmod (wrap64 ((Int.tmod a0 2) + (Int.tmod a1 2))) 2) < 0
        · rw [if_pos c6] at H
          have c6b0 : decide ((Int.tmod (wrap64 ((Int.tmod a0 2) + (Int.tmod a1 2))) 2) < 0) = true := decide_eq_true c6
          clear c6
          simp only [Option.some.injEq, Prod.mk.injEq] at H
          obtain ⟨rfl, rfl⟩ := H
          go_enter Tryd.func18, Tryd.ntmps18
          go_wp2
          go_ret2
          exact ⟨by first | rfl | (simp; done) | (simp [*]; done), by repeat (first | exact Drawn0.refl _ | apply Drawn0.step)⟩
        · rw [if_neg c6] at H
          have c6b0 : decide ((Int.tmod (wrap64 ((Int.tmod a0 2) + (Int.tmod a1 2))) 2) < 0) = false := decide_eq_false c6
          clear c6
          simp only [Option.some.injEq, Prod.mk.injEq] at H
          obtain ⟨rfl, rfl⟩ := H
          go_enter Tryd.func18, Tryd.ntmps18
          go_wp2
          go_ret2
          exact ⟨by first | rfl | (simp; done) | (simp [*]; done), by repeat (first | exact Drawn0.refl _ | apply Drawn0.step)⟩
      · rw [if_neg c5] at H
        have c5b0 : ((wrap64 ((wrap64 ((wrap64 (Int.tdiv a0 2)) + (wrap64 (Int.tdiv a1 2)))) + (wrap64 (Int.tdiv (wrap64 ((Int.tmod a0 2) + (Int.tmod a1 2))) 2)))) == (-4611686018427387904)) = false := beq_eq_false_iff_ne.mpr c5
        have c5b1 : ((wrap64 ((wrap64 ((wrap64 (Int.tdiv a0 2)) + (wrap64 (Int.tdiv a1 2)))) + (wrap64 (Int.tdiv (wrap64 ((Int.tmod a0 2) + (Int.tmod a1 2))) 2)))) != (-4611686018427387904)) = true := bne_iff_ne.mpr c5
        simp only [Option.some.injEq, Prod.mk.injEq] at H
        obtain ⟨rfl, rfl⟩ := H
        go_enter Tryd.func18, Tryd.ntmps18
        go_wp2
        go_ret2
        exact ⟨by first | rfl | (simp; done) | (simp [*]; done), by repeat (first | exact Drawn0.refl _ | apply Drawn0.step)⟩

end Go.Proofs.YtiddemgeehcjpaaDoor.PA
