/- Which numbers may be told: tape.number, and whether one of a slice may not. -/
import Derived.Test.YtdgdpkemboeaeaaDoorTpV
import Derived.Test.YtdgdpkemboeaeaaDoorPTx
namespace Go.Proofs.YtdgdpkemboeaeaaDoor.H
open Go.RowKit Go.Proofs.YtdgdpkemboeaeaaDoor.PT Go.Proofs.YtdgdpkemboeaeaaDoorW.PrintWords Go.Proofs.YtdgdpkemboeaeaaDoorW.PrintLast Go.Proofs.YtdgdpkemboeaeaaDoorW.PrintMore
set_option linter.unusedVariables false
set_option linter.unusedSimpArgs false
def numB (n : Int) (t : Bool) : Bool := decide (0 ≤ n) && decide (n ≤ 1000000000) && (t || decide (n = 0))
theorem number_calls (n : Int) (t : Bool) (w : World) : Calls Tryd.prog 71 #[.int .i64 n, .bool t] w fun e w' => e = .returned (.bool (numB n t)) ∧ w' = w := by
  unfold numB
  by_cases h1 : 0 ≤ n
  · by_cases h2 : n ≤ 1000000000
    · rw [decide_eq_true h1, decide_eq_true h2]
      cases t with
      | true =>
        go_enter Tryd.func71, Tryd.ntmps71
        go_wp2
        go_ret
        exact ⟨by simp, rfl⟩
      | false =>
        go_enter Tryd.func71, Tryd.ntmps71
        go_wp2
        go_ret
        exact ⟨by simp; by_cases hz : n = 0 <;> simp [hz], rfl⟩
    · rw [decide_eq_false h2]
      go_enter Tryd.func71, Tryd.ntmps71
      go_wp2
      go_ret
      exact ⟨by simp, rfl⟩
  · rw [decide_eq_false h1]
    go_enter Tryd.func71, Tryd.ntmps71
    go_wp2
    go_ret
    exact ⟨by simp, rfl⟩
def badN (n : Int) : Bool := !numB n true
theorem good1_calls (n : Int) (w : World) : Calls Tryd.prog 70 #[.int .i64 n] w fun e w' => e = .returned (.bool (badN n)) ∧ w' = w := by
  have hn := fun W => number_calls n true W
  unfold badN
  cases hb : numB n true with
  | true =>
    rw [hb] at hn
    go_enter Tryd.func70, Tryd.ntmps70
    go_wp2_with (go_at_call 71; refine (hn _).mono ?_; rintro e w' ⟨rfl, rfl⟩)
    go_ret
    exact ⟨rfl, rfl⟩
  | false =>
    rw [hb] at hn
    go_enter Tryd.func70, Tryd.ntmps70
    go_wp2_with (go_at_call 71; refine (hn _).mono ?_; rintro e w' ⟨rfl, rfl⟩)
    go_ret
    exact ⟨rfl, rfl⟩
set_option maxRecDepth 100000 in
set_option maxHeartbeats 1000000 in
theorem indexInt_calls (A : Option Addr) (c : Nat) (l : List Int) (w : World) (hC : Kd.C (Kd.int .i64) w A l.length l) :
    Calls Tryd.prog 95 #[.slice A l.length c, .func (.func 70) #[] #[]] w fun e w' => (∃ i : Int, e = .returned (.int .i64 i) ∧ -1 ≤ i ∧ i ≤ 9223372036854775807 ∧ decide (0 ≤ i) = l.any badN) ∧ w' = w := by
  have hmax : l.length ≤ 9223372036854775807 := hC.2.1
  have HC := Aside0.mk hC
  clear hC
  go_enter Tryd.func95, Tryd.ntmps95
  go_wp2
  go_loopw [5, 8] (fun _ i wr => ∃ k : Nat, k ≤ l.length ∧ i = .int .i64 k ∧ (l.take k).any badN = false ∧ wr = w) (fun _ i _ => l.length - (intOf i).toNat)
  case atStart => exact ⟨0, Nat.zero_le _, rfl, by simp, rfl⟩
  case round =>
    obtain ⟨k, hk, rfl, hpre, rfl⟩ := hrel
    have HPRE := Aside0.mk hpre
    clear hpre
    by_cases hlt : k < l.length
    · obtain ⟨ad, rfl, hc0⟩ := Kd.at_int HC.out (k : Int) (by omega) (by omega)
      have hrd : rd l (k : Int) = l[k] := by
        unfold rd
        rw [Int.toNat_natCast, List.getD_eq_getElem?_getD, List.getElem?_eq_getElem hlt]
        rfl
      rw [hrd] at hc0
      simp only [Int.toNat_natCast] at hc0
      have htk : (l.take (k + 1)).any badN = ((l.take k).any badN || badN l[k]) := by rw [List.take_succ_eq_append_getElem hlt, List.any_append]; simp
      have hany : badN l[k] = true → l.any badN = true := fun h => List.any_eq_true.2 ⟨_, List.getElem_mem hlt, h⟩
      have hcall := fun W => good1_calls l[k] W
      have HTK := Aside0.mk htk
      have HANY := Aside0.mk hany
      clear htk hany hrd
      generalize l[k] = x at hc0 hcall HTK HANY
      cases hpx : badN x with
      | true =>
        rw [hpx] at hcall HANY
        clear hpx
        go_wp2_with (go_at_call 70; refine (hcall _).mono ?_; rintro e w' ⟨rfl, rfl⟩)
        go_ret
        exact ⟨⟨k, rfl, by omega, by omega, by rw [HANY.out (by first | rfl | trivial)]; simp⟩, by first | rfl | trivial⟩
      | false =>
        rw [hpx] at hcall HTK
        clear hpx
        go_wp2_with (go_at_call 70; refine (hcall _).mono ?_; rintro e w' ⟨rfl, rfl⟩)
        go_roundw
        case rel => exact ⟨k + 1, by omega, by simp, by rw [HTK.out, HPRE.out]; rfl, by first | rfl | trivial⟩
        case measure => simp [intOf]; omega
    · obtain rfl : k = l.length := by omega
      go_wp2
      go_ret
      exact ⟨⟨-1, rfl, by omega, by omega, by have := HPRE.out; rw [List.take_length] at this; rw [this]; rfl⟩, by first | rfl | trivial⟩
theorem ret_boolG {v : Value} {a b : Bool} (h : v = .bool a) (h' : a = b) : Ending.returned v = .returned (.bool b) := by rw [h, h']
theorem containsInt_calls (A : Option Addr) (c : Nat) (l : List Int) (w : World) (hC : Kd.C (Kd.int .i64) w A l.length l) :
    Calls Tryd.prog 69 #[.slice A l.length c, .func (.func 70) #[] #[]] w fun e w' => e = .returned (.bool (l.any badN)) ∧ w' = w := by
  have hcon := indexInt_calls A c l w hC
  clear hC
  generalize l.any badN = r at hcon ⊢
  go_enter Tryd.func69, Tryd.ntmps69
  go_wp2_with (go_at_call 95; refine hcon.mono ?_; rintro e w' ⟨⟨i, rfl, hi1, hi2, hi3⟩, rfl⟩; have HI := Aside0.mk hi3; clear hi3)
  go_ret
  exact ⟨ret_boolG rfl HI.out, rfl⟩
end Go.Proofs.YtdgdpkemboeaeaaDoor.H
