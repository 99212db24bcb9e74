/- A part of the proof: words, contracts and walks that the other texts of this folder use. -/
-- laid by wip/xprint.py (a program of this session) over the kit's print; Lean checks it
import Derived.Test.YtpdppfihpnfblaaGreatPAx0
namespace Go.Proofs.YtpdppfihpnfblaaGreat.PA
open Go.RowKit Go.Proofs.YtpdppfihpnfblaaGreatW.PrintWords Go.Proofs.YtpdppfihpnfblaaGreatW.PrintLast Go.Proofs.YtpdppfihpnfblaaGreatW.PrintMore
attribute [local go_sem] max2_int min2_int max_two min_two max_three min_three max_four min_four   -- for this text's walks alone
set_option linter.unusedVariables false
set_option linter.unusedSimpArgs false

/-- A state of type 145 at block g of W; what its slices lead to came in by w0. -/
def IsS145 (w0 W : World) (g : Nat) (f0 : List Int) (f1 : Int) : Prop := ∃ A0 c0, W.heap[g]? = some (.cells #[.slice A0 f0.length c0, .int .i64 f1] 145 (0, 0)) ∧ w0.heap.size ≤ g ∧ Kd.C (Kd.int .u8) w0 A0 f0.length f0
theorem IsS145.grown {w0 W : World} {g : Nat} {f0 : List Int} {f1 : Int} {W1 : World} {row : Option Nat} (h : IsS145 w0 W g f0 f1) (hw : W.grownBy W1 row) (hne : some g ≠ row) : IsS145 w0 W1 g f0 f1 := by
  obtain ⟨A0, c0, hb, hg, hr0⟩ := h
  exact ⟨A0, c0, blk_grown hb hw hne, hg, hr0⟩
theorem IsS145.kept {w0 W : World} {g : Nat} {f0 : List Int} {f1 : Int} {W1 : World} {S : Nat → Prop} (h : IsS145 w0 W g f0 f1) (hk : Kept W W1 S) (hne : ¬ S g) : IsS145 w0 W1 g f0 f1 := by
  obtain ⟨A0, c0, hb, hg, hr0⟩ := h
  exact ⟨A0, c0, blk_kept hb hk hne, hg, hr0⟩
theorem IsS145.below {w0 W : World} {g : Nat} {f0 : List Int} {f1 : Int} {W1 : World} (h : IsS145 w0 W g f0 f1) (hw : Below W.heap.size W W1) : IsS145 w0 W1 g f0 f1 := h.grown (grown_of_below hw none) (by simp)
theorem IsS145.alloc {w0 W : World} {g : Nat} {f0 : List Int} {f1 : Int} (h : IsS145 w0 W g f0 f1) (o : Obj) : IsS145 w0 (W.alloc o) g f0 f1 := h.below (below_alloc (Below.refl _ _) o)
theorem IsS145.drewN {w0 W : World} {g : Nat} {f0 : List Int} {f1 : Int} (h : IsS145 w0 W g f0 f1) (m : Nat) : IsS145 w0 (W.drewN m) g f0 f1 := h
theorem IsS145.drew {w0 W : World} {g : Nat} {f0 : List Int} {f1 : Int} (h : IsS145 w0 W g f0 f1) : IsS145 w0 W.drew g f0 f1 := h
theorem IsS145.at_ {w0 W : World} {g : Nat} {f0 : List Int} {f1 : Int} {w' : World} {m : Nat} (hq : W.drewN m = w') (h : IsS145 w0 W g f0 f1) : IsS145 w0 w' g f0 f1 := by subst hq; exact IsS145.drewN h m
theorem IsS145.apart {w0 W : World} {g : Nat} {f0 : List Int} {f1 : Int} {α : Type} {d : Kd α} {e : Nat} {base : Nat} {ok : Nat → Prop} {v : Value} {xs : List α} (h : IsS145 w0 W g f0 f1) (ho : d.R e W base ok v xs) (ht : ∀ q, q ∈ e :: d.E → q ≠ 145) : d.R e W base (fun k => ok k ∧ k ≠ g) v xs := by
  obtain ⟨A0, c0, hb, hg, hr0⟩ := h
  exact Kd.R_types ho hb ht
theorem IsS145.own_ne {w0 W : World} {g : Nat} {f0 : List Int} {f1 : Int} {α : Type} {d : Kd α} {e : Nat} {base : Nat} {ok : Nat → Prop} {v : Value} {xs : List α} (h : IsS145 w0 W g f0 f1) (ho : d.R e W base ok v xs) (ht : e ≠ 145) : some g ≠ v.ownBlock := by
  obtain ⟨A0, c0, hb, hg, hr0⟩ := h
  exact Kd.R_ne ho hb ht
theorem IsS145.lt {w0 W : World} {g : Nat} {f0 : List Int} {f1 : Int} (h : IsS145 w0 W g f0 f1) : g < W.heap.size := by
  obtain ⟨A0, c0, hb, hg, hr0⟩ := h
  exact blk_lt hb
theorem IsS145.far {w0 W : World} {g : Nat} {f0 : List Int} {f1 : Int} {p : Addr} (h : IsS145 w0 W g f0 f1) (hne : g ≠ p.block) (u : Value) : IsS145 w0 (W.setCell p u) g f0 f1 := by
  obtain ⟨A0, c0, hb, hg, hr0⟩ := h
  exact ⟨A0, c0, blk_far hb hne u, hg, hr0⟩
theorem IsS145.new (w0 W : World) (A0 : Option Addr) (c0 : Nat) (f0 : List Int) (f1 : Int) (hB : Below w0.heap.size w0 W) (hr0 : Kd.C (Kd.int .u8) w0 A0 f0.length f0) : IsS145 w0 (W.alloc (.cells #[.slice A0 f0.length c0, .int .i64 f1] 145)) W.heap.size f0 f1 := ⟨A0, c0, by simpa using heap_alloc_new W _, hB.size, hr0⟩

/-! ### bale_sum: function 38 -/
def bale_sum.f (a0 : Int) (a1 : Int) : Option (Int) := if a0 > 9223372 then (some 0) else (if a0 < (-9223372) then (some 0) else (if a1 ≤ (-1000000000000) then (some 0) else (if a1 ≥ 1000000000000 then (some 0) else (some (wrap64 ((wrap64 (a0 * 1000000000000)) + a1))))))
set_option maxHeartbeats 8000000 in
set_option maxRecDepth 100000 in
theorem bale_sum.calls (a0 : Int) (a1 : Int) (r : Int) (w : World) (h : bale_sum.f a0 a1 = some r) :
    Calls Tryz.prog 38 #[.int .i64 a0, .int .i64 a1] w fun e w' => e = .returned (.int .i64 r) ∧ Drawn0 w w' := by
  have H : (if a0 > 9223372 then (some 0) else (if a0 < (-9223372) then (some 0) else (if a1 ≤ (-1000000000000) then (some 0) else (if a1 ≥ 1000000000000 then (some 0) else (some (wrap64 ((wrap64 (a0 * 1000000000000)) + a1))))))) = some r := h
  clear h
  by_cases c3 : a0 > 9223372
  · rw [if_pos c3] at H
    have c3b0 : decide (9223372 < a0) = true := decide_eq_true c3
    clear c3
    obtain rfl := Option.some.inj H
    go_enter Tryz.func38, Tryz.ntmps38
    go_wp2
    go_ret
    exact ⟨by first | rfl | (simp; done) | (simp [*]; done), by repeat (first | exact Drawn0.refl _ | apply Drawn0.step)⟩
  · rw [if_neg c3] at H
    have c3b0 : decide (9223372 < a0) = false := decide_eq_false c3
    clear c3
    by_cases c4 : a0 < (-9223372)
    · rw [if_pos c4] at H
      have c4b0 : decide (a0 < (-9223372)) = true := decide_eq_true c4
      clear c4
      obtain rfl := Option.some.inj H
      go_enter Tryz.func38, Tryz.ntmps38
      go_wp2
      go_ret
      exact ⟨by first | rfl | (simp; done) | (simp [*]; done), by repeat (first | exact Drawn0.refl _ | apply Drawn0.step)⟩
    · rw [if_neg c4] at H
      have c4b0 : decide (a0 < (-9223372)) = false := decide_eq_false c4
      clear c4
      by_cases c5 : a1 ≤ (-1000000000000)
      · rw [if_pos c5] at H
        have c5b0 : decide (a1 ≤ (-1000000000000)) = true := decide_eq_true c5
        clear c5
        obtain rfl := Option.some.inj H
        go_enter Tryz.func38, Tryz.ntmps38
        go_wp2
        go_ret
        exact ⟨by first | rfl | (simp; done) | (simp [*]; done), by repeat (first | exact Drawn0.refl _ | apply Drawn0.step)⟩
      · rw [if_neg c5] at H
        have c5b0 : decide (a1 ≤ (-1000000000000)) = false := decide_eq_false c5
        clear c5
        by_cases c6 : a1 ≥ 1000000000000
        · rw [if_pos c6] at H
          have c6b0 : decide (1000000000000 ≤ a1) = true := decide_eq_true c6
          clear c6
          obtain rfl := Option.some.inj H
          go_enter Tryz.func38, Tryz.ntmps38
          go_wp2
          go_ret
          exact ⟨by first | rfl | (simp; done) | (simp [*]; done), by repeat (first | exact Drawn0.refl _ | apply Drawn0.step)⟩
        · rw [if_neg c6] at H
          have c6b0 : decide (1000000000000 ≤ a1) = false := decide_eq_false c6
          clear c6
          obtain rfl := Option.some.inj H
          go_enter Tryz.func38, Tryz.ntmps38
          go_wp2
          go_ret
          exact ⟨by first | rfl | (simp; done) | (simp [*]; done), by repeat (first | exact Drawn0.refl _ | apply Drawn0.step)⟩

end Go.Proofs.YtpdppfihpnfblaaGreat.PA
