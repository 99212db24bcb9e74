/- A part of the proof: words, contracts and walks that the other texts of this folder use. -/
-- laid by wip/xprint.py (a program of this session) over the kit's print; Lean checks it
import Derived.Test.YtiddemgeehcjpaaDoorPAx0
namespace Go.Proofs.YtiddemgeehcjpaaDoor.PA
open Go.RowKit Go.Proofs.YtiddemgeehcjpaaDoorW.PrintWords Go.Proofs.YtiddemgeehcjpaaDoorW.PrintLast Go.Proofs.YtiddemgeehcjpaaDoorW.PrintMore
attribute [local go_sem] max2_int min2_int max_two min_two max_three min_three max_four min_four   -- for this text's walks alone
set_option linter.unusedVariables false
set_option linter.unusedSimpArgs false

/-! ### tidemillref01_digit: function 86 -/
def tidemillref01_digit.f (a0 : Int) : Option (Int) := if (Int.tmod a0 10) < 0 then (some ((wrap64 (48 + (wrap64 (-(Int.tmod a0 10))))) % 256)) else (some ((wrap64 (48 + (Int.tmod a0 10))) % 256))
set_option maxHeartbeats 8000000 in
set_option maxRecDepth 100000 in
theorem tidemillref01_digit.calls (a0 : Int) (r : Int) (w : World) (h : tidemillref01_digit.f a0 = some r) :
    Calls Tryd.prog 86 #[.int .i64 a0] w fun e w' => e = .returned (.int .u8 r) ∧ Drawn0 w w' := by
  have H : (if (Int.tmod a0 10) < 0 then (some ((wrap64 (48 + (wrap64 (-(Int.tmod a0 10))))) % 256)) else (some ((wrap64 (48 + (Int.tmod a0 10))) % 256))) = some r := h
  clear h
  by_cases c2 : (Int.tmod a0 10) < 0
  · rw [if_pos c2] at H
    have c2b0 : decide ((Int.tmod a0 10) < 0) = true := decide_eq_true c2
    clear c2
    obtain rfl := Option.some.inj H
    go_enter Tryd.func86, Tryd.ntmps86
    go_wp2
    go_ret
    exact ⟨by first | rfl | (simp; done) | (simp [*]; done), by repeat (first | exact Drawn0.refl _ | apply Drawn0.step)⟩
  · rw [if_neg c2] at H
    have c2b0 : decide ((Int.tmod a0 10) < 0) = false := decide_eq_false c2
    clear c2
    obtain rfl := Option.some.inj H
    go_enter Tryd.func86, Tryd.ntmps86
    go_wp2
    go_ret
    exact ⟨by first | rfl | (simp; done) | (simp [*]; done), by repeat (first | exact Drawn0.refl _ | apply Drawn0.step)⟩

/-! ### tidemillref01_Decimal: function 49 -/
def tidemillref01_Decimal.l0 : Nat → Int → ByteArray → Int → Option (ByteArray)
  | 0, _, _, _ => none
  | k + 1, x0, x3, x4 => if x4 = 0 then (if x0 < 0 then (if 1 + x3.size ≤ 9223372036854775807 then (some ((⟨#[45]⟩ : ByteArray) ++ x3)) else (none)) else (some x3)) else ((tidemillref01_digit.f x4).bind fun t105 => ((some (([t105] : List Int) : List Int)).bind fun y106 => (if (strOfNums y106).size + x3.size ≤ 9223372036854775807 then (tidemillref01_Decimal.l0 k x0 ((strOfNums y106) ++ x3) (wrap64 (Int.tdiv x4 10))) else (none))))
def tidemillref01_Decimal.f (k : Nat) (a0 : Int) : Option (ByteArray) := (tidemillref01_digit.f a0).bind fun t101 => (tidemillref01_Decimal.l0 k a0 (strOfNums (([t101] : List Int))) (wrap64 (Int.tdiv a0 10)))
set_option maxHeartbeats 8000000 in
set_option maxRecDepth 100000 in
theorem tidemillref01_Decimal.calls (k : Nat) (a0 : Int) (r : ByteArray) (w : World) (h : tidemillref01_Decimal.f k a0 = some r) :
    Calls Tryd.prog 49 #[.int .i64 a0] w fun e w' => e = .returned (.string r) ∧ Below w.heap.size w w' := by
  have HB := Aside0.mk (Below.refl w.heap.size w)
  have H : ((tidemillref01_digit.f a0).bind fun t101 => (tidemillref01_Decimal.l0 k a0 (strOfNums (([t101] : List Int))) (wrap64 (Int.tdiv a0 10)))) = some r := h
  clear h
  replace H := Option.bind_eq_some_iff.mp H
  obtain ⟨t101, A20, H⟩ := H
  replace H : (tidemillref01_Decimal.l0 k a0 (strOfNums (([t101] : List Int))) (wrap64 (Int.tdiv a0 10))) = some r := H
  have A2 := Aside0.mk A20
  clear A20
  obtain ⟨y102, hy102⟩ : ∃ y_ : List Int, y_ = (([t101] : List Int)) := ⟨_, rfl⟩
  replace H : (tidemillref01_Decimal.l0 k a0 (strOfNums y102) (wrap64 (Int.tdiv a0 10))) = some r := by first | (rw [hy102]; with_reducible exact H) | (have H2_ := (Option.bind_some _ _).symm.trans H; rw [hy102]; with_reducible exact H2_) | (have H2_ := (Option.bind_some _ _).symm.trans H; with_reducible exact H2_) | with_reducible exact H | (rw [hy102]; exact H) | exact H
  have Ny102 := Aside0.mk hy102
  clear hy102
  have H' := Aside0.mk H
  clear H
  go_enter Tryd.func49, Tryd.ntmps49
  go_wp2_with (first | ((with_reducible refine gate_callee (f := 86) rfl ?_); refine goesL_ (some 6) rfl rfl Tryd.func86 (by kernel_rfl) rfl #[.int .i64 a0] rfl (by (try simp only [List.map_toArray, List.map_cons, List.map_nil]); first | done | rfl | (simp only [List.length_drop, List.length_take]; rfl)) ?_; (with_reducible refine (tidemillref01_digit.calls a0 t101 _ A2.out).mono ?_); rintro e w' ⟨rfl, ⟨nd, rfl⟩⟩; refine ⟨_, rfl, ?_⟩) | ((with_reducible refine gate_dst (N := 7) rfl ?_); refine Kd.R_lit (Kd.int .u8) _ 5 ?hg (N := 7) ?hd (xs := ([t101] : List Int)) (inner := [.int .u8 t101]) (ok := fun _ => True) (okp := fun _ => True) ?hr ?hp (fun _ hk => hk) trivial (Below.refl _ _) (Nat.le_refl _) (by simp) ?_; (case hd => rfl); (case hg => rfl); (case hr => first | (go_simp; done) | (go_simp; rfl)); (case hp => exact (Reps.one (show Kd.M (Kd.int .u8) _ _ _ t101 [.int .u8 t101] from rfl) (Reps.none _ _))); intro v103 w3 ho4 hb hg_ hnew_; clear hg_ hnew_; (first | rw [← Ny102.out] at ho4 | (simp only [Int.reduceToNat] at ho4; rw [← Ny102.out] at ho4)); have n0_ := Aside0.mk (Kd.R_lower ho4 (below_size (by repeat (first | (with_reducible first | exact HB.out | apply below_alloc | apply pw_below_drewN | apply below_drew1) | exact HB.out)))); have n1_ := Aside0.mk (below_step (by repeat (first | (with_reducible first | exact HB.out | apply below_alloc | apply pw_below_drewN | apply below_drew1) | exact HB.out)) hb); clear HB; have HO104 := n0_; have HB := n1_; clear n0_ n1_; clear hb ho4; have hcv5 := own_string (P := Tryd.prog) Tryd.underlying89 Tryd.underlying5 Tryd.underlying9 (Kd.own_of_R HO104.out)))
  go_loopg [3, 4] k (fun kq v3 v4 w' => ∃ (x3_1 : ByteArray) (x4_1 : Int), v3 = .string x3_1 ∧ v4 = .int .i64 x4_1 ∧ Aside0 (tidemillref01_Decimal.l0 kq a0 x3_1 x4_1 = some r) ∧ Aside0 (kq ≤ k) ∧ Aside0 (Below w.heap.size w w'))
  case atStart => exact ⟨(strOfNums y102), (wrap64 (Int.tdiv a0 10)), (by first | rfl | (simp; done) | (simp [*]; done)), (by first | rfl | (simp; done) | (simp [*]; done)), H', ⟨Nat.le_refl _⟩, ⟨by repeat (first | (with_reducible first | exact HB.out | apply below_alloc | apply pw_below_drewN | apply below_drew1) | exact HB.out)⟩⟩
  case round =>
    clear H'
    try clear p2
    try clear c4
    try clear hcv5
    obtain ⟨x3_1, x4_1, rfl, rfl, HA, HK1, HB⟩ := hrel
    cases gk with
    | zero => exact absurd HA.out (by simp [tidemillref01_Decimal.l0])
    | succ k1 =>
      have H := HA.out
      clear HA
      simp only [tidemillref01_Decimal.l0] at H
      by_cases c6 : x4_1 = 0
      · rw [if_pos c6] at H
        have c6b0 : (x4_1 == 0) = true := beq_iff_eq.mpr c6
        have c6b1 : (x4_1 != 0) = false := bne_eq_false_iff_eq.mpr c6
        clear c6
        by_cases c7 : a0 < 0
        · rw [if_pos c7] at H
          have c7b0 : decide (a0 < 0) = true := decide_eq_true c7
          clear c7
          by_cases c8 : 1 + x3_1.size ≤ 9223372036854775807
          · rw [if_pos c8] at H
            have c8b0 := eq_true c8
            have c8b1 : decide (1 + x3_1.size ≤ 9223372036854775807) = true := decide_eq_true c8
            try have c8b2 : (9223372036854775807 < 1 + x3_1.size) = False := eq_false (Nat.not_lt.2 c8)
            obtain rfl := Option.some.inj H
            go_wp2
            go_ret
            exact ⟨by first | rfl | (simp [errW_none, errW_some] <;> rfl) | (simp [*, errW_none, errW_some] <;> rfl), by repeat (first | (with_reducible first | exact HB.out | apply below_alloc | apply pw_below_drewN | apply below_drew1) | exact HB.out)⟩
          · rw [if_neg c8] at H
            exact absurd H (by simp)
        · rw [if_neg c7] at H
          have c7b0 : decide (a0 < 0) = false := decide_eq_false c7
          clear c7
          obtain rfl := Option.some.inj H
          go_wp2
          go_ret
          exact ⟨by first | rfl | (simp [errW_none, errW_some] <;> rfl) | (simp [*, errW_none, errW_some] <;> rfl), by repeat (first | (with_reducible first | exact HB.out | apply below_alloc | apply pw_below_drewN | apply below_drew1) | exact HB.out)⟩
      · rw [if_neg c6] at H
        have c6b0 : (x4_1 == 0) = false := beq_eq_false_iff_ne.mpr c6
        have c6b1 : (x4_1 != 0) = true := bne_iff_ne.mpr c6
        replace H := Option.bind_eq_some_iff.mp H
        obtain ⟨t105, A90, H⟩ := H
        replace H : ((some (([t105] : List Int) : List Int)).bind fun y106 => (if (strOfNums y106).size + x3_1.size ≤ 9223372036854775807 then (tidemillref01_Decimal.l0 k1 a0 ((strOfNums y106) ++ x3_1) (wrap64 (Int.tdiv x4_1 10))) else (none))) = some r := H
        have A9 := Aside0.mk A90
        clear A90
        obtain ⟨y106, hy106⟩ : ∃ y_ : List Int, y_ = (([t105] : List Int)) := ⟨_, rfl⟩
        replace H : (if (strOfNums y106).size + x3_1.size ≤ 9223372036854775807 then (tidemillref01_Decimal.l0 k1 a0 ((strOfNums y106) ++ x3_1) (wrap64 (Int.tdiv x4_1 10))) else (none)) = some r := by first | (rw [hy106]; with_reducible exact H) | (have H2_ := (Option.bind_some _ _).symm.trans H; rw [hy106]; with_reducible exact H2_) | (have H2_ := (Option.bind_some _ _).symm.trans H; with_reducible exact H2_) | with_reducible exact H | (rw [hy106]; exact H) | exact H
        have Ny106 := Aside0.mk hy106
        clear hy106
        by_cases c10 : (strOfNums y106).size + x3_1.size ≤ 9223372036854775807
        · rw [if_pos c10] at H
          have c10b0 := eq_true c10
          have c10b1 : decide ((strOfNums y106).size + x3_1.size ≤ 9223372036854775807) = true := decide_eq_true c10
          try have c10b2 : (9223372036854775807 < (strOfNums y106).size + x3_1.size) = False := eq_false (Nat.not_lt.2 c10)
          have H' := Aside0.mk H
          clear H
          go_wp2_with (first | ((with_reducible refine gate_callee (f := 86) rfl ?_); refine goesL_ (some 14) rfl rfl Tryd.func86 (by kernel_rfl) rfl #[.int .i64 x4_1] rfl (by (try simp only [List.map_toArray, List.map_cons, List.map_nil]); first | done | rfl | (simp only [List.length_drop, List.length_take]; rfl)) ?_; (with_reducible refine (tidemillref01_digit.calls x4_1 t105 _ A9.out).mono ?_); rintro e w' ⟨rfl, ⟨nd, rfl⟩⟩; refine ⟨_, rfl, ?_⟩) | ((with_reducible refine gate_dst (N := 15) rfl ?_); refine Kd.R_lit (Kd.int .u8) _ 5 ?hg (N := 15) ?hd (xs := ([t105] : List Int)) (inner := [.int .u8 t105]) (ok := fun _ => True) (okp := fun _ => True) ?hr ?hp (fun _ hk => hk) trivial (Below.refl _ _) (Nat.le_refl _) (by simp) ?_; (case hd => rfl); (case hg => rfl); (case hr => first | (go_simp; done) | (go_simp; rfl)); (case hp => exact (Reps.one (show Kd.M (Kd.int .u8) _ _ _ t105 [.int .u8 t105] from rfl) (Reps.none _ _))); intro v107 w11 ho12 hb hg_ hnew_; clear hg_ hnew_; (first | rw [← Ny106.out] at ho12 | (simp only [Int.reduceToNat] at ho12; rw [← Ny106.out] at ho12)); have n0_ := Aside0.mk (Kd.R_lower ho12 (below_size (by repeat (first | (with_reducible first | exact HB.out | apply below_alloc | apply pw_below_drewN | apply below_drew1) | exact HB.out)))); have n1_ := Aside0.mk (below_step (by repeat (first | (with_reducible first | exact HB.out | apply below_alloc | apply pw_below_drewN | apply below_drew1) | exact HB.out)) hb); clear HB; have HO108 := n0_; have HB := n1_; clear n0_ n1_; clear hb ho12; have hcv13 := own_string (P := Tryd.prog) Tryd.underlying89 Tryd.underlying5 Tryd.underlying9 (Kd.own_of_R HO108.out)))
          go_roundg k1
          case measure => have := HK1.out; omega
          case rel => exact ⟨((strOfNums y106) ++ x3_1), (wrap64 (Int.tdiv x4_1 10)), (by first | rfl | (simp; done) | (simp [*]; done)), (by first | rfl | (simp; done) | (simp [*]; done)), H', ⟨by have := HK1.out; omega⟩, ⟨by repeat (first | (with_reducible first | exact HB.out | apply below_alloc | apply pw_below_drewN | apply below_drew1) | exact HB.out)⟩⟩
        · rw [if_neg c10] at H
          exact absurd H (by simp)

/-! ### tidemillref01_Text: function 15 -/
mutual
def tidemillref01_Text.j0 : Nat → ByteArray → ByteArray → Option (ByteArray)
  | 0, _, _ => none
  | k + 1, x3, x4 => tidemillref01_Text.l0 k x3 x4
def tidemillref01_Text.l0 : Nat → ByteArray → ByteArray → Option (ByteArray)
  | 0, _, _ => none
  | k + 1, x3, x4 => if (x3.size : Int) < 7 then (if 1 + x3.size ≤ 9223372036854775807 then (tidemillref01_Text.l0 k ((⟨#[48]⟩ : ByteArray) ++ x3) x4) else (none)) else (if 0 ≤ (wrap64 ((x3.size : Int) - 6)) then (if (wrap64 ((x3.size : Int) - 6)) ≤ (x3.size : Int) then (tidemillref01_Text.l1 k x4 (x3.extract 0 ((wrap64 ((x3.size : Int) - 6)) : Int).toNat) (x3.extract ((wrap64 ((x3.size : Int) - 6)) : Int).toNat x3.size)) else (none)) else (none))
def tidemillref01_Text.l1 : Nat → ByteArray → ByteArray → ByteArray → Option (ByteArray)
  | 0, _, _, _ => none
  | k + 1, x4, x5, x6 => if x6.toList = ([] : List UInt8) then (if x4.size + x5.size ≤ 9223372036854775807 then (if (x4 ++ x5).size + x6.size ≤ 9223372036854775807 then (some ((x4 ++ x5) ++ x6)) else (none)) else (none)) else (if 0 ≤ (wrap64 ((x6.size : Int) - 1)) then (if (wrap64 ((x6.size : Int) - 1)) < (x6.size : Int) then (if (bt x6 (wrap64 ((x6.size : Int) - 1))) = 48 then (if (wrap64 ((x6.size : Int) - 1)) ≤ (x6.size : Int) then (tidemillref01_Text.l1 k x4 x5 (x6.extract 0 ((wrap64 ((x6.size : Int) - 1)) : Int).toNat)) else (none)) else (if 1 + x6.size ≤ 9223372036854775807 then (if x4.size + x5.size ≤ 9223372036854775807 then (if (x4 ++ x5).size + ((⟨#[46]⟩ : ByteArray) ++ x6).size ≤ 9223372036854775807 then (some ((x4 ++ x5) ++ ((⟨#[46]⟩ : ByteArray) ++ x6))) else (none)) else (none)) else (none))) else (none)) else (none))
end
def tidemillref01_Text.f (k : Nat) (a0 : Int) : Option (ByteArray) := (tidemillref01_Decimal.f k a0).bind fun t109 => (if a0 < 0 then (if 1 ≤ (t109.size : Int) then (tidemillref01_Text.j0 k (t109.extract 1 t109.size) (⟨#[45]⟩ : ByteArray)) else (none)) else (tidemillref01_Text.j0 k t109 (⟨#[]⟩ : ByteArray)))
set_option maxHeartbeats 8000000 in
set_option maxRecDepth 100000 in
theorem tidemillref01_Text.calls (k : Nat) (a0 : Int) (r : ByteArray) (w : World) (h : tidemillref01_Text.f k a0 = some r) :
    Calls Tryd.prog 15 #[.int .i64 a0] w fun e w' => e = .returned (.string r) ∧ Below w.heap.size w w' := by
  have HB := Aside0.mk (Below.refl w.heap.size w)
  have H : ((tidemillref01_Decimal.f k a0).bind fun t109 => (if a0 < 0 then (if 1 ≤ (t109.size : Int) then (tidemillref01_Text.j0 k (t109.extract 1 t109.size) (⟨#[45]⟩ : ByteArray)) else (none)) else (tidemillref01_Text.j0 k t109 (⟨#[]⟩ : ByteArray)))) = some r := h
  clear h
  replace H := Option.bind_eq_some_iff.mp H
  obtain ⟨t109, A20, H⟩ := H
  replace H : (if a0 < 0 then (if 1 ≤ (t109.size : Int) then (tidemillref01_Text.j0 k (t109.extract 1 t109.size) (⟨#[45]⟩ : ByteArray)) else (none)) else (tidemillref01_Text.j0 k t109 (⟨#[]⟩ : ByteArray))) = some r := H
  have A2 := Aside0.mk A20
  clear A20
  have HC3 := Aside0.mk H
  clear H
  go_enter Tryd.func15, Tryd.ntmps15
  go_upto_if 10 with (first | (go_at_call 49; (with_reducible refine (tidemillref01_Decimal.calls k a0 t109 _ A2.out).mono ?_); rintro e w4 ⟨rfl, hb⟩; have n0_ := Aside0.mk (below_step (by repeat (first | (with_reducible first | exact HB.out | apply below_alloc | apply pw_below_drewN | apply below_drew1) | exact HB.out)) hb); clear HB; have HB := n0_; clear n0_; (try clear hb); (try clear hb2); (try clear hk); (try clear hi)))
  repeat (go_quiet (first | (go_at_call 49; (with_reducible refine (tidemillref01_Decimal.calls k a0 t109 _ A2.out).mono ?_); rintro e w4 ⟨rfl, hb⟩; have n0_ := Aside0.mk (below_step (by repeat (first | (with_reducible first | exact HB.out | apply below_alloc | apply pw_below_drewN | apply below_drew1) | exact HB.out)) hb); clear HB; have HB := n0_; clear n0_; (try clear hb); (try clear hb2); (try clear hk); (try clear hi))); go_upto_if 10 with (first | (go_at_call 49; (with_reducible refine (tidemillref01_Decimal.calls k a0 t109 _ A2.out).mono ?_); rintro e w4 ⟨rfl, hb⟩; have n0_ := Aside0.mk (below_step (by repeat (first | (with_reducible first | exact HB.out | apply below_alloc | apply pw_below_drewN | apply below_drew1) | exact HB.out)) hb); clear HB; have HB := n0_; clear n0_; (try clear hb); (try clear hb2); (try clear hk); (try clear hi))))
  (try simp only [Act.put, List.setIfInBounds_toArray, List.set_cons_zero, List.set_cons_succ])
  go_cut [3, 4] (fun v3 v4 wc => ∃ (kq : Nat) (x3_2 : ByteArray) (x4_2 : ByteArray), v3 = .string x3_2 ∧ v4 = .string x4_2 ∧ Aside0 (tidemillref01_Text.j0 kq x3_2 x4_2 = some r) ∧ Aside0 (kq ≤ k) ∧ Aside0 (Below w.heap.size w wc))
  case first =>
    have H := HC3.out
    clear HC3
    by_cases c5 : a0 < 0
    · rw [if_pos c5] at H
      have c5b0 : decide (a0 < 0) = true := decide_eq_true c5
      clear c5
      (first | rw [c5b0] | (simp only [i64_w, i32_w]; rw [c5b0]) | skip)
      by_cases c6 : 1 ≤ (t109.size : Int)
      · rw [if_pos c6] at H
        have c6b0 := eq_true c6
        have c6b1 : decide (1 ≤ (t109.size : Int)) = true := decide_eq_true c6
        clear c6
        have H' := Aside0.mk H
        clear H
        go_wp2
        repeat (go_quiet (fail); try go_wp2)
        go_meet
        case rel => exact ⟨_, (t109.extract 1 t109.size), ((⟨#[45]⟩ : ByteArray)), (by first | rfl | (simp; done) | (simp [*]; done)), (by first | rfl | (simp; done) | (simp [*]; done)), H', ⟨by first | omega | exact Nat.le_refl _⟩, ⟨by repeat (first | (with_reducible first | exact HB.out | apply below_alloc | apply pw_below_drewN | apply below_drew1) | exact HB.out)⟩⟩
      · rw [if_neg c6] at H
        exact absurd H (by simp)
    · rw [if_neg c5] at H
      have c5b0 : decide (a0 < 0) = false := decide_eq_false c5
      clear c5
      (first | rw [c5b0] | (simp only [i64_w, i32_w]; rw [c5b0]) | skip)
      have H' := Aside0.mk H
      clear H
      go_wp2
      repeat (go_quiet (fail); try go_wp2)
      go_meet
      case rel => exact ⟨_, (t109), ((⟨#[]⟩ : ByteArray)), (by first | rfl | (simp; done) | (simp [*]; done)), (by first | rfl | (simp; done) | (simp [*]; done)), H', ⟨by first | omega | exact Nat.le_refl _⟩, ⟨by repeat (first | (with_reducible first | exact HB.out | apply below_alloc | apply pw_below_drewN | apply below_drew1) | exact HB.out)⟩⟩
  case rest =>
    clear HC3
    try clear c1
    try clear p2
    try clear c5
    try clear c5b0
    try clear c6
    try clear c6b0
    try clear c6b1
    obtain ⟨kq, x3_2, x4_2, rfl, rfl, HA, HJ2, HB⟩ := hcut
    cases kq with
    | zero => exact absurd HA.out (by simp [tidemillref01_Text.j0])
    | succ kj2 =>
      have H := HA.out
      clear HA
      simp only [tidemillref01_Text.j0] at H
      have H' := Aside0.mk H
      clear H
      go_wp2
      repeat (go_quiet (fail); try go_wp2)
      go_loopg [3] kj2 (fun kq v3 w' => ∃ (x3_2 : ByteArray), v3 = .string x3_2 ∧ Aside0 (tidemillref01_Text.l0 kq x3_2 x4_2 = some r) ∧ Aside0 (kq ≤ kj2) ∧ Aside0 (Below w.heap.size w w'))
      case atStart => exact ⟨(x3_2), (by first | rfl | (simp; done) | (simp [*]; done)), H', ⟨Nat.le_refl _⟩, ⟨by repeat (first | (with_reducible first | exact HB.out | apply below_alloc | apply pw_below_drewN | apply below_drew1) | exact HB.out)⟩⟩
      case round =>
        clear H'
        try clear c1
        try clear p2
        try clear c5
        try clear c5b0
        try clear c6
        try clear c6b0
        try clear c6b1
        try clear p2
        obtain ⟨x3_2, rfl, HA, HK2, HB⟩ := hrel
        cases gk with
        | zero => exact absurd HA.out (by simp [tidemillref01_Text.l0])
        | succ k2 =>
          have H := HA.out
          clear HA
          simp only [tidemillref01_Text.l0] at H
          by_cases c7 : (x3_2.size : Int) < 7
          · rw [if_pos c7] at H
            have c7b0 : decide ((x3_2.size : Int) < 7) = true := decide_eq_true c7
            have c7b1 : decide (x3_2.size < 7) = true := decide_eq_true (by omega)
            clear c7
            by_cases c8 : 1 + x3_2.size ≤ 9223372036854775807
            · rw [if_pos c8] at H
              have c8b0 := eq_true c8
              have c8b1 : decide (1 + x3_2.size ≤ 9223372036854775807) = true := decide_eq_true c8
              try have c8b2 : (9223372036854775807 < 1 + x3_2.size) = False := eq_false (Nat.not_lt.2 c8)
              have H' := Aside0.mk H
              clear H
              go_wp2
              repeat (go_quiet (fail); try go_wp2)
              go_roundg k2
              case measure => have := HJ2.out; have := HK2.out; omega
              case rel => exact ⟨((⟨#[48]⟩ : ByteArray) ++ x3_2), (by first | rfl | (simp; done) | (simp [*]; done)), H', ⟨by have := HJ2.out; have := HK2.out; omega⟩, ⟨by repeat (first | (with_reducible first | exact HB.out | apply below_alloc | apply pw_below_drewN | apply below_drew1) | exact HB.out)⟩⟩
            · rw [if_neg c8] at H
              exact absurd H (by simp)
          · rw [if_neg c7] at H
            have c7b0 : decide ((x3_2.size : Int) < 7) = false := decide_eq_false c7
            have c7b1 : decide (x3_2.size < 7) = false := decide_eq_false (by omega)
            clear c7
            obtain ⟨ji9, hji9⟩ : ∃ j_ : Int, (wrap64 ((x3_2.size : Int) - 6)) = j_ := ⟨_, rfl⟩
            replace H : (if 0 ≤ (ji9) then (if (ji9) ≤ (x3_2.size : Int) then (tidemillref01_Text.l1 k2 x4_2 (x3_2.extract 0 ((ji9) : Int).toNat) (x3_2.extract ((ji9) : Int).toNat x3_2.size)) else (none)) else (none)) = some r := by first | (rw [hji9] at H; exact H) | (simp only [hji9] at H ⊢; exact H)
            have hji9w : (IntKind.i64.wrap ((x3_2.size : Int) - 6)) = ji9 := (i64_w _).trans hji9
            by_cases c10 : 0 ≤ (ji9)
            · rw [if_pos c10] at H
              have c10b0 := eq_true c10
              have c10b1 : decide (0 ≤ (ji9)) = true := decide_eq_true c10
              clear c10
              by_cases c11 : (ji9) ≤ (x3_2.size : Int)
              · rw [if_pos c11] at H
                have c11b0 := eq_true c11
                have c11b1 : decide ((ji9) ≤ (x3_2.size : Int)) = true := decide_eq_true c11
                clear c11
                have c12b0 := eq_true (of_decide_eq_true (by first | (with_reducible assumption) | assumption) : 0 ≤ (ji9))
                have c13b0 := eq_true (of_decide_eq_true (by first | (with_reducible assumption) | assumption) : (ji9) ≤ (x3_2.size : Int))
                have H' := Aside0.mk H
                clear H
                go_wp2
                repeat (go_quiet (fail); try go_wp2)
                go_loopg [6] k2 (fun kq v6 w' => ∃ (x6_3 : ByteArray), v6 = .string x6_3 ∧ Aside0 (tidemillref01_Text.l1 kq x4_2 (x3_2.extract 0 ((ji9) : Int).toNat) x6_3 = some r) ∧ Aside0 (kq ≤ k2) ∧ Aside0 (Below w.heap.size w w'))
                case atStart => exact ⟨(x3_2.extract ((ji9) : Int).toNat x3_2.size), (by first | rfl | (simp; done) | (simp only [← hji9] <;> (first | rfl | simp)) | (simp [*]; done)), H', ⟨Nat.le_refl _⟩, ⟨by repeat (first | (with_reducible first | exact HB.out | apply below_alloc | apply pw_below_drewN | apply below_drew1) | exact HB.out)⟩⟩
                case round =>
                  clear H'
                  try clear c1
                  try clear p2
                  try clear c5
                  try clear c5b0
                  try clear c6
                  try clear c6b0
                  try clear c6b1
                  try clear p6
                  try clear c7
                  try clear c7b0
                  try clear c7b1
                  try clear c8
                  try clear c8b0
                  try clear c8b1
                  try clear c8b2
                  try clear c10
                  try clear c10b0
                  try clear c10b1
                  try clear c11
                  try clear c11b0
                  try clear c11b1
                  try clear c12
                  try clear c12b0
                  try clear c13
                  try clear c13b0
                  try clear p2
                  obtain ⟨x6_3, rfl, HA, HK3, HB⟩ := hrel
                  cases gk with
                  | zero => exact absurd HA.out (by simp [tidemillref01_Text.l1])
                  | succ k3 =>
                    have H := HA.out
                    clear HA
                    simp only [tidemillref01_Text.l1] at H
                    by_cases c14 : x6_3.toList = ([] : List UInt8)
                    · rw [if_pos c14] at H
                      have c14b0 : (x6_3.toList == ([] : List UInt8)) = true := beq_iff_eq.mpr c14
                      have c14b1 : (x6_3.toList != ([] : List UInt8)) = false := bne_eq_false_iff_eq.mpr c14
                      clear c14
                      by_cases c15 : x4_2.size + (x3_2.extract 0 ((ji9) : Int).toNat).size ≤ 9223372036854775807
                      · rw [if_pos c15] at H
                        have c15b0 := eq_true c15
                        have c15b1 : decide (x4_2.size + (x3_2.extract 0 ((ji9) : Int).toNat).size ≤ 9223372036854775807) = true := decide_eq_true c15
                        try have c15b2 : (9223372036854775807 < x4_2.size + (x3_2.extract 0 ((ji9) : Int).toNat).size) = False := eq_false (Nat.not_lt.2 c15)
                        by_cases c16 : (x4_2 ++ (x3_2.extract 0 ((ji9) : Int).toNat)).size + x6_3.size ≤ 9223372036854775807
                        · rw [if_pos c16] at H
                          have c16b0 := eq_true c16
                          have c16b1 : decide ((x4_2 ++ (x3_2.extract 0 ((ji9) : Int).toNat)).size + x6_3.size ≤ 9223372036854775807) = true := decide_eq_true c16
                          try have c16b2 : (9223372036854775807 < (x4_2 ++ (x3_2.extract 0 ((ji9) : Int).toNat)).size + x6_3.size) = False := eq_false (Nat.not_lt.2 c16)
                          obtain rfl := Option.some.inj H
                          go_wp2
                          repeat (go_quiet (fail); try go_wp2)
                          go_ret
                          exact ⟨by first | rfl | (simp [errW_none, errW_some] <;> rfl) | (simp only [← hji9]; first | rfl | (simp [errW_none, errW_some] <;> rfl)) | (simp [*, errW_none, errW_some] <;> rfl), by repeat (first | (with_reducible first | exact HB.out | apply below_alloc | apply pw_below_drewN | apply below_drew1) | exact HB.out)⟩
                        · rw [if_neg c16] at H
                          exact absurd H (by simp)
                      · rw [if_neg c15] at H
                        exact absurd H (by simp)
                    · rw [if_neg c14] at H
                      have c14b0 : (x6_3.toList == ([] : List UInt8)) = false := beq_eq_false_iff_ne.mpr c14
                      have c14b1 : (x6_3.toList != ([] : List UInt8)) = true := bne_iff_ne.mpr c14
                      obtain ⟨ji17, hji17⟩ : ∃ j_ : Int, (wrap64 ((x6_3.size : Int) - 1)) = j_ := ⟨_, rfl⟩
                      replace H : (if 0 ≤ (ji17) then (if (ji17) < (x6_3.size : Int) then (if (bt x6_3 (ji17)) = 48 then (if (ji17) ≤ (x6_3.size : Int) then (tidemillref01_Text.l1 k3 x4_2 (x3_2.extract 0 ((ji9) : Int).toNat) (x6_3.extract 0 ((ji17) : Int).toNat)) else (none)) else (if 1 + x6_3.size ≤ 9223372036854775807 then (if x4_2.size + (x3_2.extract 0 ((ji9) : Int).toNat).size ≤ 9223372036854775807 then (if (x4_2 ++ (x3_2.extract 0 ((ji9) : Int).toNat)).size + ((⟨#[46]⟩ : ByteArray) ++ x6_3).size ≤ 9223372036854775807 then (some ((x4_2 ++ (x3_2.extract 0 ((ji9) : Int).toNat)) ++ ((⟨#[46]⟩ : ByteArray) ++ x6_3))) else (none)) else (none)) else (none))) else (none)) else (none)) = some r := by first | (rw [hji17] at H; exact H) | (simp only [hji17] at H ⊢; exact H)
                      have hji17w : (IntKind.i64.wrap ((x6_3.size : Int) - 1)) = ji17 := (i64_w _).trans hji17
                      by_cases c18 : 0 ≤ (ji17)
                      · rw [if_pos c18] at H
                        have c18b0 : decide (0 ≤ (ji17)) = true := decide_eq_true c18
                        clear c18
                        by_cases c19 : (ji17) < (x6_3.size : Int)
                        · rw [if_pos c19] at H
                          have c19b0 : decide ((ji17) < (x6_3.size : Int)) = true := decide_eq_true c19
                          clear c19
                          by_cases c21 : (bt x6_3 (ji17)) = 48
                          · rw [if_pos c21] at H
                            have c21b0 : ((bt x6_3 (ji17)) == 48) = true := beq_iff_eq.mpr c21
                            have c21b1 : ((bt x6_3 (ji17)) != 48) = false := bne_eq_false_iff_eq.mpr c21
                            clear c21
                            have c22b0 := eq_true (of_decide_eq_true (by first | (with_reducible assumption) | assumption) : 0 ≤ (ji17))
                            by_cases c23 : (ji17) ≤ (x6_3.size : Int)
                            · rw [if_pos c23] at H
                              have c23b0 := eq_true c23
                              have c23b1 : decide ((ji17) ≤ (x6_3.size : Int)) = true := decide_eq_true c23
                              clear c23
                              have H' := Aside0.mk H
                              clear H
                              have p20 : 0 ≤ ((ji17) : Int) := of_decide_eq_true (by first | (with_reducible assumption) | assumption)
                              have q20 : (ji17) < (x6_3.size : Int) := of_decide_eq_true (by first | (with_reducible assumption) | assumption)
                              have hx20 := bt_at x6_3 (ji17)
                              replace p20 := eq_true p20
                              replace q20 := eq_true q20
                              go_wp2
                              repeat (go_quiet (fail); try go_wp2)
                              go_roundg k3
                              case measure => have := HJ2.out; have := HK2.out; have := HK3.out; omega
                              case rel => exact ⟨(x6_3.extract 0 ((ji17) : Int).toNat), (by first | rfl | (simp; done) | (simp only [← hji17] <;> (first | rfl | simp)) | (simp [*]; done)), H', ⟨by have := HJ2.out; have := HK2.out; have := HK3.out; omega⟩, ⟨by repeat (first | (with_reducible first | exact HB.out | apply below_alloc | apply pw_below_drewN | apply below_drew1) | exact HB.out)⟩⟩
                            · rw [if_neg c23] at H
                              exact absurd H (by simp)
                          · rw [if_neg c21] at H
                            have c21b0 : ((bt x6_3 (ji17)) == 48) = false := beq_eq_false_iff_ne.mpr c21
                            have c21b1 : ((bt x6_3 (ji17)) != 48) = true := bne_iff_ne.mpr c21
                            by_cases c24 : 1 + x6_3.size ≤ 9223372036854775807
                            · rw [if_pos c24] at H
                              have c24b0 := eq_true c24
                              have c24b1 : decide (1 + x6_3.size ≤ 9223372036854775807) = true := decide_eq_true c24
                              try have c24b2 : (9223372036854775807 < 1 + x6_3.size) = False := eq_false (Nat.not_lt.2 c24)
                              by_cases c25 : x4_2.size + (x3_2.extract 0 ((ji9) : Int).toNat).size ≤ 9223372036854775807
                              · rw [if_pos c25] at H
                                have c25b0 := eq_true c25
                                have c25b1 : decide (x4_2.size + (x3_2.extract 0 ((ji9) : Int).toNat).size ≤ 9223372036854775807) = true := decide_eq_true c25
                                try have c25b2 : (9223372036854775807 < x4_2.size + (x3_2.extract 0 ((ji9) : Int).toNat).size) = False := eq_false (Nat.not_lt.2 c25)
                                by_cases c26 : (x4_2 ++ (x3_2.extract 0 ((ji9) : Int).toNat)).size + ((⟨#[46]⟩ : ByteArray) ++ x6_3).size ≤ 9223372036854775807
                                · rw [if_pos c26] at H
                                  have c26b0 := eq_true c26
                                  have c26b1 : decide ((x4_2 ++ (x3_2.extract 0 ((ji9) : Int).toNat)).size + ((⟨#[46]⟩ : ByteArray) ++ x6_3).size ≤ 9223372036854775807) = true := decide_eq_true c26
                                  try have c26b2 : (9223372036854775807 < (x4_2 ++ (x3_2.extract 0 ((ji9) : Int).toNat)).size + ((⟨#[46]⟩ : ByteArray) ++ x6_3).size) = False := eq_false (Nat.not_lt.2 c26)
                                  obtain rfl := Option.some.inj H
                                  have p20 : 0 ≤ ((ji17) : Int) := of_decide_eq_true (by first | (with_reducible assumption) | assumption)
                                  have q20 : (ji17) < (x6_3.size : Int) := of_decide_eq_true (by first | (with_reducible assumption) | assumption)
                                  have hx20 := bt_at x6_3 (ji17)
                                  replace p20 := eq_true p20
                                  replace q20 := eq_true q20
                                  go_wp2
                                  repeat (go_quiet (fail); try go_wp2)
                                  go_ret
                                  exact ⟨by first | rfl | (simp [errW_none, errW_some] <;> rfl) | (simp only [← hji9, ← hji17]; first | rfl | (simp [errW_none, errW_some] <;> rfl)) | (simp [*, errW_none, errW_some] <;> rfl), by repeat (first | (with_reducible first | exact HB.out | apply below_alloc | apply pw_below_drewN | apply below_drew1) | exact HB.out)⟩
                                · rw [if_neg c26] at H
                                  exact absurd H (by simp)
                              · rw [if_neg c25] at H
                                exact absurd H (by simp)
                            · rw [if_neg c24] at H
                              exact absurd H (by simp)
                        · rw [if_neg c19] at H
                          exact absurd H (by simp)
                      · rw [if_neg c18] at H
                        exact absurd H (by simp)
              · rw [if_neg c11] at H
                exact absurd H (by simp)
            · rw [if_neg c10] at H
              exact absurd H (by simp)

end Go.Proofs.YtiddemgeehcjpaaDoor.PA
