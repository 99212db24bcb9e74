/- A part of the proof: words, contracts and walks that the other texts of this folder use. -/
-- laid by wip/xprint.py (a program of this session) over the kit's print; Lean checks it
import Derived.Test.YtdgdpkemboeaeaaDoorPRx0
import Derived.Test.YtdgdpkemboeaeaaDoorPRx3
import Derived.Test.YtdgdpkemboeaeaaDoorPRx1
namespace Go.Proofs.YtdgdpkemboeaeaaDoor.PR
open Go.RowKit Go.Proofs.YtdgdpkemboeaeaaDoor.PT Go.Proofs.YtdgdpkemboeaeaaDoor.H Go.Proofs.YtdgdpkemboeaeaaDoorW.PrintWords Go.Proofs.YtdgdpkemboeaeaaDoorW.PrintLast Go.Proofs.YtdgdpkemboeaeaaDoorW.PrintMore
attribute [local go_sem] max2_int min2_int max_two min_two max_three min_three max_four min_four   -- for this text's walks alone
set_option linter.unusedVariables false
set_option linter.unusedSimpArgs false

/-! ### tidemillref26_Line: function 38 -/
mutual
def tidemillref26_Line.j0 : Nat → ByteArray → Int → Int → Int → ByteArray → List Int → Option (ByteArray)
  | 0, _, _, _, _, _, _ => none
  | k + 1, x3, x111000, x111001, x111002, x111003, x111004 => (tidemillref26_tellsN.f x111000).bind fun t114 => (if t114 = true then (if x3.size + 1 ≤ 9223372036854775807 then ((tidemillref01_Decimal.f k x111002).bind fun t115 => (if (x3 ++ (⟨#[32]⟩ : ByteArray)).size + t115.size ≤ 9223372036854775807 then (tidemillref26_Line.j1 k ((x3 ++ (⟨#[32]⟩ : ByteArray)) ++ t115) x111000 x111001 x111002 x111003 x111004) else (none))) else (none)) else (tidemillref26_Line.j1 k x3 x111000 x111001 x111002 x111003 x111004))
def tidemillref26_Line.j1 : Nat → ByteArray → Int → Int → Int → ByteArray → List Int → Option (ByteArray)
  | 0, _, _, _, _, _, _ => none
  | k + 1, x3, x111000, x111001, x111002, x111003, x111004 => if x111003.toList = ([] : List UInt8) then (tidemillref26_Line.j2 k x3 x111000 x111001 x111002 x111003 x111004) else (if x3.size + 1 ≤ 9223372036854775807 then ((tidemillref26_Show.f k x111003).bind fun t116 => (if (x3 ++ (⟨#[32]⟩ : ByteArray)).size + t116.size ≤ 9223372036854775807 then (tidemillref26_Line.j2 k ((x3 ++ (⟨#[32]⟩ : ByteArray)) ++ t116) x111000 x111001 x111002 x111003 x111004) else (none))) else (none))
def tidemillref26_Line.j2 : Nat → ByteArray → Int → Int → Int → ByteArray → List Int → Option (ByteArray)
  | 0, _, _, _, _, _, _ => none
  | k + 1, x3, x111000, x111001, x111002, x111003, x111004 => tidemillref26_Line.l0 k x3 (x111004.length : Int) 0 x111000 x111001 x111002 x111003 x111004
def tidemillref26_Line.l0 : Nat → ByteArray → Int → Int → Int → Int → Int → ByteArray → List Int → Option (ByteArray)
  | 0, _, _, _, _, _, _, _, _ => none
  | k + 1, x3, x37, x38, x111000, x111001, x111002, x111003, x111004 => if x38 < x37 then (if x3.size + 1 ≤ 9223372036854775807 then (if 0 ≤ x38 then (if x38 < (x111004.length : Int) then ((tidemillref01_Decimal.f k (rd x111004 x38)).bind fun t118 => (if (x3 ++ (⟨#[32]⟩ : ByteArray)).size + t118.size ≤ 9223372036854775807 then (tidemillref26_Line.l0 k ((x3 ++ (⟨#[32]⟩ : ByteArray)) ++ t118) x37 (wrap64 (x38 + 1)) x111000 x111001 x111002 x111003 x111004) else (none))) else (none)) else (none)) else (none)) else (some x3)
end
def tidemillref26_Line.f (k : Nat) (a0_0 : Int) (a0_1 : Int) (a0_2 : Int) (a0_3 : ByteArray) (l0_4 : List Int) : Option (ByteArray) := (tidemillref26_word.f a0_0).bind fun t111 => ((tidemillref26_tellsI.f a0_0).bind fun t112 => (if t112 = true then (if t111.size + 1 ≤ 9223372036854775807 then ((tidemillref01_Decimal.f k a0_1).bind fun t113 => (if (t111 ++ (⟨#[32]⟩ : ByteArray)).size + t113.size ≤ 9223372036854775807 then (tidemillref26_Line.j0 k ((t111 ++ (⟨#[32]⟩ : ByteArray)) ++ t113) a0_0 a0_1 a0_2 a0_3 l0_4) else (none))) else (none)) else (tidemillref26_Line.j0 k t111 a0_0 a0_1 a0_2 a0_3 l0_4)))
set_option maxHeartbeats 8000000 in
set_option maxRecDepth 100000 in
theorem tidemillref26_Line.calls (k : Nat) (a0_0 : Int) (a0_1 : Int) (a0_2 : Int) (a0_3 : ByteArray) (A0_4 : Option Addr) (c0_4 : Nat) (l0_4 : List Int) (r : ByteArray) (w : World) (hr0_4 : Kd.C (Kd.int .i64) w A0_4 l0_4.length l0_4) (hc0_4 : l0_4.length ≤ c0_4) (h : tidemillref26_Line.f k a0_0 a0_1 a0_2 a0_3 l0_4 = some r) :
    Calls Tryd.prog 38 #[.agg #[.int .i64 a0_0, .int .i64 a0_1, .int .i64 a0_2, .string a0_3, .slice A0_4 l0_4.length c0_4]] w fun e w' => e = .returned (.string r) ∧ Below w.heap.size w w' := by
  have hu46 := Tryd.underlying46
  have HR0_4 := Aside0.mk hr0_4
  have HC0_4 := Aside0.mk hc0_4
  clear hr0_4 hc0_4
  have HB := Aside0.mk (Below.refl w.heap.size w)
  have H : ((tidemillref26_word.f a0_0).bind fun t111 => ((tidemillref26_tellsI.f a0_0).bind fun t112 => (if t112 = true then (if t111.size + 1 ≤ 9223372036854775807 then ((tidemillref01_Decimal.f k a0_1).bind fun t113 => (if (t111 ++ (⟨#[32]⟩ : ByteArray)).size + t113.size ≤ 9223372036854775807 then (tidemillref26_Line.j0 k ((t111 ++ (⟨#[32]⟩ : ByteArray)) ++ t113) a0_0 a0_1 a0_2 a0_3 l0_4) else (none))) else (none)) else (tidemillref26_Line.j0 k t111 a0_0 a0_1 a0_2 a0_3 l0_4)))) = some r := h
  clear h
  replace H := Option.bind_eq_some_iff.mp H
  obtain ⟨t111, A20, H⟩ := H
  replace H : ((tidemillref26_tellsI.f a0_0).bind fun t112 => (if t112 = true then (if t111.size + 1 ≤ 9223372036854775807 then ((tidemillref01_Decimal.f k a0_1).bind fun t113 => (if (t111 ++ (⟨#[32]⟩ : ByteArray)).size + t113.size ≤ 9223372036854775807 then (tidemillref26_Line.j0 k ((t111 ++ (⟨#[32]⟩ : ByteArray)) ++ t113) a0_0 a0_1 a0_2 a0_3 l0_4) else (none))) else (none)) else (tidemillref26_Line.j0 k t111 a0_0 a0_1 a0_2 a0_3 l0_4))) = some r := H
  have A2 := Aside0.mk A20
  clear A20
  replace H := Option.bind_eq_some_iff.mp H
  obtain ⟨t112, A30, H⟩ := H
  replace H : (if t112 = true then (if t111.size + 1 ≤ 9223372036854775807 then ((tidemillref01_Decimal.f k a0_1).bind fun t113 => (if (t111 ++ (⟨#[32]⟩ : ByteArray)).size + t113.size ≤ 9223372036854775807 then (tidemillref26_Line.j0 k ((t111 ++ (⟨#[32]⟩ : ByteArray)) ++ t113) a0_0 a0_1 a0_2 a0_3 l0_4) else (none))) else (none)) else (tidemillref26_Line.j0 k t111 a0_0 a0_1 a0_2 a0_3 l0_4)) = some r := H
  have A3 := Aside0.mk A30
  clear A30
  have HC4 := Aside0.mk H
  clear H
  go_enter Tryd.func38, Tryd.ntmps38
  go_upto_if 10 with (first | ((with_reducible refine gate_dst (N := 1) rfl ?_); refine box_event ?hg (N := 1) ?hd (cs := #[.int .i64 a0_0, .int .i64 a0_1, .int .i64 a0_2, .string a0_3, .slice A0_4 l0_4.length c0_4]) (t := 46) ?hr ?_; (case hd => rfl); (case hg => rfl); (case hr => first | (go_simp; done) | (go_simp; rfl)); intro gb110 hg w5 hbox hb; have n0_ := Aside0.mk (below_step (by repeat (first | (with_reducible first | exact HB.out | apply below_alloc | apply pw_below_drewN | apply below_drew1) | exact HB.out)) hb); have n1_ := Aside0.mk (hbox); have n2_ := Aside0.mk ((by rw [hg]; exact (below_size (by repeat (first | (with_reducible first | exact HB.out | apply below_alloc | apply pw_below_drewN | apply below_drew1) | exact HB.out))) : w.heap.size ≤ gb110)); have n3_ := Aside0.mk ((by rw [hg]; exact (below_size (by repeat (first | (with_reducible first | exact HB.out | apply below_alloc | apply pw_below_drewN | apply below_drew1) | exact HB.out))) : w.heap.size ≤ gb110)); clear HB; have HB := n0_; have BK110 := n1_; have GW110 := n2_; have GE110 := n3_; clear n0_ n1_ n2_ n3_; clear hb hbox hg; have hcz6_0 : w5.cell? ⟨gb110, 0, none⟩ = some (.int .i64 a0_0) := (blk_cell BK110.out 0).trans rfl; have hcz6_1 : w5.cell? ⟨gb110, 1, none⟩ = some (.int .i64 a0_1) := (blk_cell BK110.out 1).trans rfl; have hcz6_2 : w5.cell? ⟨gb110, 2, none⟩ = some (.int .i64 a0_2) := (blk_cell BK110.out 2).trans rfl; have hcz6_3 : w5.cell? ⟨gb110, 3, none⟩ = some (.string a0_3) := (blk_cell BK110.out 3).trans rfl; have hcz6_4 : w5.cell? ⟨gb110, 4, none⟩ = some (.slice A0_4 l0_4.length c0_4) := (blk_cell BK110.out 4).trans rfl; have hfz6_0 := blk_frozen BK110.out 0; have hfz6_1 := blk_frozen BK110.out 1; have hfz6_2 := blk_frozen BK110.out 2; have hfz6_3 := blk_frozen BK110.out 3; have hfz6_4 := blk_frozen BK110.out 4) | ((with_reducible refine gate_callee (f := 57) rfl ?_); refine goesL_ (some 7) rfl rfl Tryd.func57 (by kernel_rfl) rfl #[.int .i64 a0_0] rfl (by (try simp only [List.map_toArray, List.map_cons, List.map_nil]); first | done | rfl | (simp only [List.length_drop, List.length_take]; rfl)) ?_; (with_reducible refine (tidemillref26_word.calls a0_0 t111 _ A2.out).mono ?_); rintro e w7 ⟨rfl, hb⟩; refine ⟨_, rfl, ?_⟩; have n0_ := Aside0.mk (blk_below (g := gb110) (o := .cells #[.int .i64 a0_0, .int .i64 a0_1, .int .i64 a0_2, .string a0_3, .slice A0_4 l0_4.length c0_4] 46 (0, 0)) (by (with_reducible repeat (first | refine blk_drewN ?_ _ | refine blk_drew ?_ | refine blk_alloc ?_ _)); exact BK110.out) hb); have n1_ := Aside0.mk (below_step (by repeat (first | (with_reducible first | exact HB.out | apply below_alloc | apply pw_below_drewN | apply below_drew1 | refine below_set ?_ GE110.out) | exact HB.out)) hb); clear BK110; clear HB; have BK110 := n0_; have HB := n1_; clear n0_ n1_; (try clear hb); (try clear hb2); (try clear hk); (try clear hi); have hcz8_0 : w7.cell? ⟨gb110, 0, none⟩ = some (.int .i64 a0_0) := (blk_cell BK110.out 0).trans rfl; have hcz8_1 : w7.cell? ⟨gb110, 1, none⟩ = some (.int .i64 a0_1) := (blk_cell BK110.out 1).trans rfl; have hcz8_2 : w7.cell? ⟨gb110, 2, none⟩ = some (.int .i64 a0_2) := (blk_cell BK110.out 2).trans rfl; have hcz8_3 : w7.cell? ⟨gb110, 3, none⟩ = some (.string a0_3) := (blk_cell BK110.out 3).trans rfl; have hcz8_4 : w7.cell? ⟨gb110, 4, none⟩ = some (.slice A0_4 l0_4.length c0_4) := (blk_cell BK110.out 4).trans rfl; have hfz8_0 := blk_frozen BK110.out 0; have hfz8_1 := blk_frozen BK110.out 1; have hfz8_2 := blk_frozen BK110.out 2; have hfz8_3 := blk_frozen BK110.out 3; have hfz8_4 := blk_frozen BK110.out 4) | ((with_reducible refine gate_callee (f := 58) rfl ?_); refine goesL_ (some 10) rfl rfl Tryd.func58 (by kernel_rfl) rfl #[.int .i64 a0_0] rfl (by (try simp only [List.map_toArray, List.map_cons, List.map_nil]); first | done | rfl | (simp only [List.length_drop, List.length_take]; rfl)) ?_; (with_reducible refine (tidemillref26_tellsI.calls a0_0 t112 _ A3.out).mono ?_); rintro e w' ⟨rfl, ⟨nd, rfl⟩⟩; refine ⟨_, rfl, ?_⟩))
  (try simp only [Act.put, List.setIfInBounds_toArray, List.set_cons_zero, List.set_cons_succ])
  go_cut [3] (fun v3 wc => ∃ (kq : Nat) (x3_3 : ByteArray), v3 = .string x3_3 ∧ Aside0 (tidemillref26_Line.j0 kq x3_3 a0_0 a0_1 a0_2 a0_3 l0_4 = some r) ∧ Aside0 (kq ≤ k) ∧ Aside0 (wc.heap[gb110]? = some (.cells #[.int .i64 a0_0, .int .i64 a0_1, .int .i64 a0_2, .string a0_3, (.slice A0_4 l0_4.length c0_4)] 46 (0, 0))) ∧ Aside0 (Below w.heap.size w wc))
  case first =>
    have H := HC4.out
    clear HC4
    by_cases c9 : t112 = true
    · subst c9
      have H1 : (if t111.size + 1 ≤ 9223372036854775807 then ((tidemillref01_Decimal.f k a0_1).bind fun t113 => (if (t111 ++ (⟨#[32]⟩ : ByteArray)).size + t113.size ≤ 9223372036854775807 then (tidemillref26_Line.j0 k ((t111 ++ (⟨#[32]⟩ : ByteArray)) ++ t113) a0_0 a0_1 a0_2 a0_3 l0_4) else (none))) else (none)) = some r := by rw [if_pos rfl] at H; exact H
      clear H
      have H := H1
      clear H1
      by_cases c10 : t111.size + 1 ≤ 9223372036854775807
      · rw [if_pos c10] at H
        have c10b0 := eq_true c10
        have c10b1 : decide (t111.size + 1 ≤ 9223372036854775807) = true := decide_eq_true c10
        try have c10b2 : (9223372036854775807 < t111.size + 1) = False := eq_false (Nat.not_lt.2 c10)
        replace H := Option.bind_eq_some_iff.mp H
        obtain ⟨t113, A110, H⟩ := H
        replace H : (if (t111 ++ (⟨#[32]⟩ : ByteArray)).size + t113.size ≤ 9223372036854775807 then (tidemillref26_Line.j0 k ((t111 ++ (⟨#[32]⟩ : ByteArray)) ++ t113) a0_0 a0_1 a0_2 a0_3 l0_4) else (none)) = some r := H
        have A11 := Aside0.mk A110
        clear A110
        by_cases c12 : (t111 ++ (⟨#[32]⟩ : ByteArray)).size + t113.size ≤ 9223372036854775807
        · rw [if_pos c12] at H
          have c12b0 := eq_true c12
          have c12b1 : decide ((t111 ++ (⟨#[32]⟩ : ByteArray)).size + t113.size ≤ 9223372036854775807) = true := decide_eq_true c12
          try have c12b2 : (9223372036854775807 < (t111 ++ (⟨#[32]⟩ : ByteArray)).size + t113.size) = False := eq_false (Nat.not_lt.2 c12)
          try have c12b3 : (9223372036854775807 < t111.size + 1 + t113.size) = False := by have h_ := c12; simp only [ByteArray.size_append] at h_; exact eq_false (Nat.not_lt.2 h_)
          have H' := Aside0.mk H
          clear H
          have hcz13_0 : w7.cell? ⟨gb110, 0, none⟩ = some (.int .i64 a0_0) := (blk_cell BK110.out 0).trans rfl
          have hcz13_1 : w7.cell? ⟨gb110, 1, none⟩ = some (.int .i64 a0_1) := (blk_cell BK110.out 1).trans rfl
          have hcz13_2 : w7.cell? ⟨gb110, 2, none⟩ = some (.int .i64 a0_2) := (blk_cell BK110.out 2).trans rfl
          have hcz13_3 : w7.cell? ⟨gb110, 3, none⟩ = some (.string a0_3) := (blk_cell BK110.out 3).trans rfl
          have hcz13_4 : w7.cell? ⟨gb110, 4, none⟩ = some (.slice A0_4 l0_4.length c0_4) := (blk_cell BK110.out 4).trans rfl
          have hfz13_0 := blk_frozen BK110.out 0
          have hfz13_1 := blk_frozen BK110.out 1
          have hfz13_2 := blk_frozen BK110.out 2
          have hfz13_3 := blk_frozen BK110.out 3
          have hfz13_4 := blk_frozen BK110.out 4
          go_wp2_with (first | ((with_reducible refine gate_callee (f := 49) rfl ?_); refine goesL_ (some 15) rfl rfl Tryd.func49 (by kernel_rfl) rfl #[.int .i64 a0_1] rfl (by (try simp only [List.map_toArray, List.map_cons, List.map_nil]); first | done | rfl | (simp only [List.length_drop, List.length_take]; rfl)) ?_; (with_reducible refine (tidemillref01_Decimal.calls k a0_1 t113 _ A11.out).mono ?_); rintro e w14 ⟨rfl, hb⟩; refine ⟨_, rfl, ?_⟩; have n0_ := Aside0.mk (blk_below (g := gb110) (o := .cells #[.int .i64 a0_0, .int .i64 a0_1, .int .i64 a0_2, .string a0_3, .slice A0_4 l0_4.length c0_4] 46 (0, 0)) (by (with_reducible repeat (first | refine blk_drewN ?_ _ | refine blk_drew ?_ | refine blk_alloc ?_ _)); exact BK110.out) hb); have n1_ := Aside0.mk (below_step (by repeat (first | (with_reducible first | exact HB.out | apply below_alloc | apply pw_below_drewN | apply below_drew1 | refine below_set ?_ GE110.out) | exact HB.out)) hb); clear BK110; clear HB; have BK110 := n0_; have HB := n1_; clear n0_ n1_; (try clear hb); (try clear hb2); (try clear hk); (try clear hi)))
          go_meet
          case rel => exact ⟨_, ((t111 ++ (⟨#[32]⟩ : ByteArray)) ++ t113), (by first | rfl | (simp; done) | (simp [*]; done)), H', ⟨by first | omega | exact Nat.le_refl _⟩, ⟨by (with_reducible repeat (first | refine blk_drewN ?_ _ | refine blk_drew ?_ | refine blk_alloc ?_ _)); exact BK110.out⟩, ⟨by repeat (first | (with_reducible first | exact HB.out | apply below_alloc | apply pw_below_drewN | apply below_drew1 | refine below_set ?_ GE110.out) | exact HB.out)⟩⟩
        · rw [if_neg c12] at H
          exact absurd H (by simp)
      · rw [if_neg c10] at H
        exact absurd H (by simp)
    · replace c9 := Bool.eq_false_iff.mpr c9
      subst c9
      have H1 : (tidemillref26_Line.j0 k t111 a0_0 a0_1 a0_2 a0_3 l0_4) = some r := by rw [if_neg (show ¬ (false = true) by decide)] at H; exact H
      clear H
      have H := H1
      clear H1
      have H' := Aside0.mk H
      clear H
      go_wp2
      go_meet
      case rel => exact ⟨_, (t111), (by first | rfl | (simp; done) | (simp [*]; done)), H', ⟨by first | omega | exact Nat.le_refl _⟩, ⟨by (with_reducible repeat (first | refine blk_drewN ?_ _ | refine blk_drew ?_ | refine blk_alloc ?_ _)); exact BK110.out⟩, ⟨by repeat (first | (with_reducible first | exact HB.out | apply below_alloc | apply pw_below_drewN | apply below_drew1 | refine below_set ?_ GE110.out) | exact HB.out)⟩⟩
  case rest =>
    clear HC4
    try clear c1
    try clear p2
    try clear c3
    try clear c4
    try clear c5
    try clear c9
    try clear c10
    try clear c10b0
    try clear c10b1
    try clear c10b2
    try clear c12
    try clear c12b0
    try clear c12b1
    try clear c12b2
    try clear hcz13_0
    try clear hcz13_1
    try clear hcz13_2
    try clear hcz13_3
    try clear hcz13_4
    try clear hcz6_0
    try clear hcz6_1
    try clear hcz6_2
    try clear hcz6_3
    try clear hcz6_4
    try clear hcz8_0
    try clear hcz8_1
    try clear hcz8_2
    try clear hcz8_3
    try clear hcz8_4
    try clear hfz13_0
    try clear hfz13_1
    try clear hfz13_2
    try clear hfz13_3
    try clear hfz13_4
    try clear hfz6_0
    try clear hfz6_1
    try clear hfz6_2
    try clear hfz6_3
    try clear hfz6_4
    try clear hfz8_0
    try clear hfz8_1
    try clear hfz8_2
    try clear hfz8_3
    try clear hfz8_4
    obtain ⟨kq, x3_3, rfl, HA, HJ3, BK110, HB⟩ := hcut
    cases kq with
    | zero => exact absurd HA.out (by simp [tidemillref26_Line.j0])
    | succ kj3 =>
      have H := HA.out
      clear HA
      simp only [tidemillref26_Line.j0] at H
      replace H := Option.bind_eq_some_iff.mp H
      obtain ⟨t114, A150, H⟩ := H
      replace H : (if t114 = true then (if x3_3.size + 1 ≤ 9223372036854775807 then ((tidemillref01_Decimal.f kj3 a0_2).bind fun t115 => (if (x3_3 ++ (⟨#[32]⟩ : ByteArray)).size + t115.size ≤ 9223372036854775807 then (tidemillref26_Line.j1 kj3 ((x3_3 ++ (⟨#[32]⟩ : ByteArray)) ++ t115) a0_0 a0_1 a0_2 a0_3 l0_4) else (none))) else (none)) else (tidemillref26_Line.j1 kj3 x3_3 a0_0 a0_1 a0_2 a0_3 l0_4)) = some r := H
      have A15 := Aside0.mk A150
      clear A150
      have HC16 := Aside0.mk H
      clear H
      have hcz17_0 : wc.cell? ⟨gb110, 0, none⟩ = some (.int .i64 a0_0) := (blk_cell BK110.out 0).trans rfl
      have hcz17_1 : wc.cell? ⟨gb110, 1, none⟩ = some (.int .i64 a0_1) := (blk_cell BK110.out 1).trans rfl
      have hcz17_2 : wc.cell? ⟨gb110, 2, none⟩ = some (.int .i64 a0_2) := (blk_cell BK110.out 2).trans rfl
      have hcz17_3 : wc.cell? ⟨gb110, 3, none⟩ = some (.string a0_3) := (blk_cell BK110.out 3).trans rfl
      have hcz17_4 : wc.cell? ⟨gb110, 4, none⟩ = some (.slice A0_4 l0_4.length c0_4) := (blk_cell BK110.out 4).trans rfl
      have hfz17_0 := blk_frozen BK110.out 0
      have hfz17_1 := blk_frozen BK110.out 1
      have hfz17_2 := blk_frozen BK110.out 2
      have hfz17_3 := blk_frozen BK110.out 3
      have hfz17_4 := blk_frozen BK110.out 4
      go_upto_if 19 with (first | ((with_reducible refine gate_callee (f := 60) rfl ?_); refine goesL_ (some 19) rfl rfl Tryd.func60 (by kernel_rfl) rfl #[.int .i64 a0_0] rfl (by (try simp only [List.map_toArray, List.map_cons, List.map_nil]); first | done | rfl | (simp only [List.length_drop, List.length_take]; rfl)) ?_; (with_reducible refine (tidemillref26_tellsN.calls a0_0 t114 _ A15.out).mono ?_); rintro e w' ⟨rfl, ⟨nd, rfl⟩⟩; refine ⟨_, rfl, ?_⟩))
      (try simp only [Act.put, List.setIfInBounds_toArray, List.set_cons_zero, List.set_cons_succ])
      go_cut [3] (fun v3 wc => ∃ (kq : Nat) (x3_15 : ByteArray), v3 = .string x3_15 ∧ Aside0 (tidemillref26_Line.j1 kq x3_15 a0_0 a0_1 a0_2 a0_3 l0_4 = some r) ∧ Aside0 (kq ≤ kj3) ∧ Aside0 (wc.heap[gb110]? = some (.cells #[.int .i64 a0_0, .int .i64 a0_1, .int .i64 a0_2, .string a0_3, (.slice A0_4 l0_4.length c0_4)] 46 (0, 0))) ∧ Aside0 (Below w.heap.size w wc))
      case first =>
        have H := HC16.out
        clear HC16
        by_cases c18 : t114 = true
        · subst c18
          have H1 : (if x3_3.size + 1 ≤ 9223372036854775807 then ((tidemillref01_Decimal.f kj3 a0_2).bind fun t115 => (if (x3_3 ++ (⟨#[32]⟩ : ByteArray)).size + t115.size ≤ 9223372036854775807 then (tidemillref26_Line.j1 kj3 ((x3_3 ++ (⟨#[32]⟩ : ByteArray)) ++ t115) a0_0 a0_1 a0_2 a0_3 l0_4) else (none))) else (none)) = some r := by rw [if_pos rfl] at H; exact H
          clear H
          have H := H1
          clear H1
          by_cases c19 : x3_3.size + 1 ≤ 9223372036854775807
          · rw [if_pos c19] at H
            have c19b0 := eq_true c19
            have c19b1 : decide (x3_3.size + 1 ≤ 9223372036854775807) = true := decide_eq_true c19
            try have c19b2 : (9223372036854775807 < x3_3.size + 1) = False := eq_false (Nat.not_lt.2 c19)
            replace H := Option.bind_eq_some_iff.mp H
            obtain ⟨t115, A200, H⟩ := H
            replace H : (if (x3_3 ++ (⟨#[32]⟩ : ByteArray)).size + t115.size ≤ 9223372036854775807 then (tidemillref26_Line.j1 kj3 ((x3_3 ++ (⟨#[32]⟩ : ByteArray)) ++ t115) a0_0 a0_1 a0_2 a0_3 l0_4) else (none)) = some r := H
            have A20 := Aside0.mk A200
            clear A200
            by_cases c21 : (x3_3 ++ (⟨#[32]⟩ : ByteArray)).size + t115.size ≤ 9223372036854775807
            · rw [if_pos c21] at H
              have c21b0 := eq_true c21
              have c21b1 : decide ((x3_3 ++ (⟨#[32]⟩ : ByteArray)).size + t115.size ≤ 9223372036854775807) = true := decide_eq_true c21
              try have c21b2 : (9223372036854775807 < (x3_3 ++ (⟨#[32]⟩ : ByteArray)).size + t115.size) = False := eq_false (Nat.not_lt.2 c21)
              try have c21b3 : (9223372036854775807 < x3_3.size + 1 + t115.size) = False := by have h_ := c21; simp only [ByteArray.size_append] at h_; exact eq_false (Nat.not_lt.2 h_)
              have H' := Aside0.mk H
              clear H
              have hcz22_0 : wc.cell? ⟨gb110, 0, none⟩ = some (.int .i64 a0_0) := (blk_cell BK110.out 0).trans rfl
              have hcz22_1 : wc.cell? ⟨gb110, 1, none⟩ = some (.int .i64 a0_1) := (blk_cell BK110.out 1).trans rfl
              have hcz22_2 : wc.cell? ⟨gb110, 2, none⟩ = some (.int .i64 a0_2) := (blk_cell BK110.out 2).trans rfl
              have hcz22_3 : wc.cell? ⟨gb110, 3, none⟩ = some (.string a0_3) := (blk_cell BK110.out 3).trans rfl
              have hcz22_4 : wc.cell? ⟨gb110, 4, none⟩ = some (.slice A0_4 l0_4.length c0_4) := (blk_cell BK110.out 4).trans rfl
              have hfz22_0 := blk_frozen BK110.out 0
              have hfz22_1 := blk_frozen BK110.out 1
              have hfz22_2 := blk_frozen BK110.out 2
              have hfz22_3 := blk_frozen BK110.out 3
              have hfz22_4 := blk_frozen BK110.out 4
              go_wp2_with (first | ((with_reducible refine gate_callee (f := 49) rfl ?_); refine goesL_ (some 24) rfl rfl Tryd.func49 (by kernel_rfl) rfl #[.int .i64 a0_2] rfl (by (try simp only [List.map_toArray, List.map_cons, List.map_nil]); first | done | rfl | (simp only [List.length_drop, List.length_take]; rfl)) ?_; (with_reducible refine (tidemillref01_Decimal.calls kj3 a0_2 t115 _ A20.out).mono ?_); rintro e w23 ⟨rfl, hb⟩; refine ⟨_, rfl, ?_⟩; have n0_ := Aside0.mk (blk_below (g := gb110) (o := .cells #[.int .i64 a0_0, .int .i64 a0_1, .int .i64 a0_2, .string a0_3, .slice A0_4 l0_4.length c0_4] 46 (0, 0)) (by (with_reducible repeat (first | refine blk_drewN ?_ _ | refine blk_drew ?_ | refine blk_alloc ?_ _)); exact BK110.out) hb); have n1_ := Aside0.mk (below_step (by repeat (first | (with_reducible first | exact HB.out | apply below_alloc | apply pw_below_drewN | apply below_drew1 | refine below_set ?_ GE110.out) | exact HB.out)) hb); clear BK110; clear HB; have BK110 := n0_; have HB := n1_; clear n0_ n1_; (try clear hb); (try clear hb2); (try clear hk); (try clear hi)))
              go_meet
              case rel => exact ⟨_, ((x3_3 ++ (⟨#[32]⟩ : ByteArray)) ++ t115), (by first | rfl | (simp; done) | (simp [*]; done)), H', ⟨by have := HJ3.out; first | omega | exact Nat.le_refl _⟩, ⟨by (with_reducible repeat (first | refine blk_drewN ?_ _ | refine blk_drew ?_ | refine blk_alloc ?_ _)); exact BK110.out⟩, ⟨by repeat (first | (with_reducible first | exact HB.out | apply below_alloc | apply pw_below_drewN | apply below_drew1 | refine below_set ?_ GE110.out) | exact HB.out)⟩⟩
            · rw [if_neg c21] at H
              exact absurd H (by simp)
          · rw [if_neg c19] at H
            exact absurd H (by simp)
        · replace c18 := Bool.eq_false_iff.mpr c18
          subst c18
          have H1 : (tidemillref26_Line.j1 kj3 x3_3 a0_0 a0_1 a0_2 a0_3 l0_4) = some r := by rw [if_neg (show ¬ (false = true) by decide)] at H; exact H
          clear H
          have H := H1
          clear H1
          have H' := Aside0.mk H
          clear H
          go_wp2
          go_meet
          case rel => exact ⟨_, (x3_3), (by first | rfl | (simp; done) | (simp [*]; done)), H', ⟨by have := HJ3.out; first | omega | exact Nat.le_refl _⟩, ⟨by (with_reducible repeat (first | refine blk_drewN ?_ _ | refine blk_drew ?_ | refine blk_alloc ?_ _)); exact BK110.out⟩, ⟨by repeat (first | (with_reducible first | exact HB.out | apply below_alloc | apply pw_below_drewN | apply below_drew1 | refine below_set ?_ GE110.out) | exact HB.out)⟩⟩
      case rest =>
        clear HC16
        try clear c1
        try clear c2
        try clear p2
        try clear c3
        try clear c4
        try clear c5
        try clear c6
        try clear c9
        try clear c10
        try clear c10b0
        try clear c10b1
        try clear c10b2
        try clear c12
        try clear c12b0
        try clear c12b1
        try clear c12b2
        try clear c18
        try clear c19
        try clear c19b0
        try clear c19b1
        try clear c19b2
        try clear c21
        try clear c21b0
        try clear c21b1
        try clear c21b2
        try clear hcz13_0
        try clear hcz13_1
        try clear hcz13_2
        try clear hcz13_3
        try clear hcz13_4
        try clear hcz17_0
        try clear hcz17_1
        try clear hcz17_2
        try clear hcz17_3
        try clear hcz17_4
        try clear hcz22_0
        try clear hcz22_1
        try clear hcz22_2
        try clear hcz22_3
        try clear hcz22_4
        try clear hcz6_0
        try clear hcz6_1
        try clear hcz6_2
        try clear hcz6_3
        try clear hcz6_4
        try clear hcz8_0
        try clear hcz8_1
        try clear hcz8_2
        try clear hcz8_3
        try clear hcz8_4
        try clear hfz13_0
        try clear hfz13_1
        try clear hfz13_2
        try clear hfz13_3
        try clear hfz13_4
        try clear hfz17_0
        try clear hfz17_1
        try clear hfz17_2
        try clear hfz17_3
        try clear hfz17_4
        try clear hfz22_0
        try clear hfz22_1
        try clear hfz22_2
        try clear hfz22_3
        try clear hfz22_4
        try clear hfz6_0
        try clear hfz6_1
        try clear hfz6_2
        try clear hfz6_3
        try clear hfz6_4
        try clear hfz8_0
        try clear hfz8_1
        try clear hfz8_2
        try clear hfz8_3
        try clear hfz8_4
        try clear p2
        obtain ⟨kq, x3_15, rfl, HA, HJ15, BK110, HB⟩ := hcut
        cases kq with
        | zero => exact absurd HA.out (by simp [tidemillref26_Line.j1])
        | succ kj15 =>
          have H := HA.out
          clear HA
          simp only [tidemillref26_Line.j1] at H
          have HC24 := Aside0.mk H
          clear H
          have hcz25_0 : wc.cell? ⟨gb110, 0, none⟩ = some (.int .i64 a0_0) := (blk_cell BK110.out 0).trans rfl
          have hcz25_1 : wc.cell? ⟨gb110, 1, none⟩ = some (.int .i64 a0_1) := (blk_cell BK110.out 1).trans rfl
          have hcz25_2 : wc.cell? ⟨gb110, 2, none⟩ = some (.int .i64 a0_2) := (blk_cell BK110.out 2).trans rfl
          have hcz25_3 : wc.cell? ⟨gb110, 3, none⟩ = some (.string a0_3) := (blk_cell BK110.out 3).trans rfl
          have hcz25_4 : wc.cell? ⟨gb110, 4, none⟩ = some (.slice A0_4 l0_4.length c0_4) := (blk_cell BK110.out 4).trans rfl
          have hfz25_0 := blk_frozen BK110.out 0
          have hfz25_1 := blk_frozen BK110.out 1
          have hfz25_2 := blk_frozen BK110.out 2
          have hfz25_3 := blk_frozen BK110.out 3
          have hfz25_4 := blk_frozen BK110.out 4
          go_upto_if 28 with (fail)
          go_cut [3] (fun v3 wc => ∃ (kq : Nat) (x3_23 : ByteArray), v3 = .string x3_23 ∧ Aside0 (tidemillref26_Line.j2 kq x3_23 a0_0 a0_1 a0_2 a0_3 l0_4 = some r) ∧ Aside0 (kq ≤ kj15) ∧ Aside0 (wc.heap[gb110]? = some (.cells #[.int .i64 a0_0, .int .i64 a0_1, .int .i64 a0_2, .string a0_3, (.slice A0_4 l0_4.length c0_4)] 46 (0, 0))) ∧ Aside0 (Below w.heap.size w wc))
          case first =>
            have H := HC24.out
            clear HC24
            by_cases c26 : a0_3.toList = ([] : List UInt8)
            · rw [if_pos c26] at H
              have c26b0 : (a0_3.toList == ([] : List UInt8)) = true := beq_iff_eq.mpr c26
              have c26b1 : (a0_3.toList != ([] : List UInt8)) = false := bne_eq_false_iff_eq.mpr c26
              have c26e : a0_3.toList.isEmpty = true := by rw [List.isEmpty_iff]; exact c26
              (try (rw [c26e]; simp only [Bool.not_true, Bool.not_false]))
              clear c26
              (first | rw [c26b0] | (simp only [i64_w, i32_w]; rw [c26b0]) | skip)
              have H' := Aside0.mk H
              clear H
              go_wp2
              go_meet
              case rel => exact ⟨_, (x3_15), (by first | rfl | (simp; done) | (simp [*]; done)), H', ⟨by have := HJ3.out; have := HJ15.out; first | omega | exact Nat.le_refl _⟩, ⟨by (with_reducible repeat (first | refine blk_drewN ?_ _ | refine blk_drew ?_ | refine blk_alloc ?_ _)); exact BK110.out⟩, ⟨by repeat (first | (with_reducible first | exact HB.out | apply below_alloc | apply pw_below_drewN | apply below_drew1 | refine below_set ?_ GE110.out) | exact HB.out)⟩⟩
            · rw [if_neg c26] at H
              have c26b0 : (a0_3.toList == ([] : List UInt8)) = false := beq_eq_false_iff_ne.mpr c26
              have c26b1 : (a0_3.toList != ([] : List UInt8)) = true := bne_iff_ne.mpr c26
              have c26e : a0_3.toList.isEmpty = false := by rw [List.isEmpty_eq_false_iff]; exact c26
              (try (rw [c26e]; simp only [Bool.not_true, Bool.not_false]))
              (first | rw [c26b0] | (simp only [i64_w, i32_w]; rw [c26b0]) | skip)
              by_cases c27 : x3_15.size + 1 ≤ 9223372036854775807
              · rw [if_pos c27] at H
                have c27b0 := eq_true c27
                have c27b1 : decide (x3_15.size + 1 ≤ 9223372036854775807) = true := decide_eq_true c27
                try have c27b2 : (9223372036854775807 < x3_15.size + 1) = False := eq_false (Nat.not_lt.2 c27)
                replace H := Option.bind_eq_some_iff.mp H
                obtain ⟨t116, A280, H⟩ := H
                replace H : (if (x3_15 ++ (⟨#[32]⟩ : ByteArray)).size + t116.size ≤ 9223372036854775807 then (tidemillref26_Line.j2 kj15 ((x3_15 ++ (⟨#[32]⟩ : ByteArray)) ++ t116) a0_0 a0_1 a0_2 a0_3 l0_4) else (none)) = some r := H
                have A28 := Aside0.mk A280
                clear A280
                by_cases c29 : (x3_15 ++ (⟨#[32]⟩ : ByteArray)).size + t116.size ≤ 9223372036854775807
                · rw [if_pos c29] at H
                  have c29b0 := eq_true c29
                  have c29b1 : decide ((x3_15 ++ (⟨#[32]⟩ : ByteArray)).size + t116.size ≤ 9223372036854775807) = true := decide_eq_true c29
                  try have c29b2 : (9223372036854775807 < (x3_15 ++ (⟨#[32]⟩ : ByteArray)).size + t116.size) = False := eq_false (Nat.not_lt.2 c29)
                  try have c29b3 : (9223372036854775807 < x3_15.size + 1 + t116.size) = False := by have h_ := c29; simp only [ByteArray.size_append] at h_; exact eq_false (Nat.not_lt.2 h_)
                  have H' := Aside0.mk H
                  clear H
                  have hcz30_0 : wc.cell? ⟨gb110, 0, none⟩ = some (.int .i64 a0_0) := (blk_cell BK110.out 0).trans rfl
                  have hcz30_1 : wc.cell? ⟨gb110, 1, none⟩ = some (.int .i64 a0_1) := (blk_cell BK110.out 1).trans rfl
                  have hcz30_2 : wc.cell? ⟨gb110, 2, none⟩ = some (.int .i64 a0_2) := (blk_cell BK110.out 2).trans rfl
                  have hcz30_3 : wc.cell? ⟨gb110, 3, none⟩ = some (.string a0_3) := (blk_cell BK110.out 3).trans rfl
                  have hcz30_4 : wc.cell? ⟨gb110, 4, none⟩ = some (.slice A0_4 l0_4.length c0_4) := (blk_cell BK110.out 4).trans rfl
                  have hfz30_0 := blk_frozen BK110.out 0
                  have hfz30_1 := blk_frozen BK110.out 1
                  have hfz30_2 := blk_frozen BK110.out 2
                  have hfz30_3 := blk_frozen BK110.out 3
                  have hfz30_4 := blk_frozen BK110.out 4
                  go_wp2_with (first | ((with_reducible refine gate_callee (f := 33) rfl ?_); refine goesL_ (some 33) rfl rfl Tryd.func33 (by kernel_rfl) rfl #[.string a0_3] rfl (by (try simp only [List.map_toArray, List.map_cons, List.map_nil]); first | done | rfl | (simp only [List.length_drop, List.length_take]; rfl)) ?_; (with_reducible refine (tidemillref26_Show.calls kj15 a0_3 t116 _ A28.out).mono ?_); rintro e w31 ⟨rfl, hb⟩; refine ⟨_, rfl, ?_⟩; have n0_ := Aside0.mk (blk_below (g := gb110) (o := .cells #[.int .i64 a0_0, .int .i64 a0_1, .int .i64 a0_2, .string a0_3, .slice A0_4 l0_4.length c0_4] 46 (0, 0)) (by (with_reducible repeat (first | refine blk_drewN ?_ _ | refine blk_drew ?_ | refine blk_alloc ?_ _)); exact BK110.out) hb); have n1_ := Aside0.mk (below_step (by repeat (first | (with_reducible first | exact HB.out | apply below_alloc | apply pw_below_drewN | apply below_drew1 | refine below_set ?_ GE110.out) | exact HB.out)) hb); clear BK110; clear HB; have BK110 := n0_; have HB := n1_; clear n0_ n1_; (try clear hb); (try clear hb2); (try clear hk); (try clear hi)))
                  go_meet
                  case rel => exact ⟨_, ((x3_15 ++ (⟨#[32]⟩ : ByteArray)) ++ t116), (by first | rfl | (simp; done) | (simp [*]; done)), H', ⟨by have := HJ3.out; have := HJ15.out; first | omega | exact Nat.le_refl _⟩, ⟨by (with_reducible repeat (first | refine blk_drewN ?_ _ | refine blk_drew ?_ | refine blk_alloc ?_ _)); exact BK110.out⟩, ⟨by repeat (first | (with_reducible first | exact HB.out | apply below_alloc | apply pw_below_drewN | apply below_drew1 | refine below_set ?_ GE110.out) | exact HB.out)⟩⟩
                · rw [if_neg c29] at H
                  exact absurd H (by simp)
              · rw [if_neg c27] at H
                exact absurd H (by simp)
          case rest =>
            clear HC24
            try clear c1
            try clear c2
            try clear p2
            try clear c3
            try clear c4
            try clear c5
            try clear c6
            try clear c9
            try clear c10
            try clear c10b0
            try clear c10b1
            try clear c10b2
            try clear c12
            try clear c12b0
            try clear c12b1
            try clear c12b2
            try clear c18
            try clear c19
            try clear c19b0
            try clear c19b1
            try clear c19b2
            try clear c21
            try clear c21b0
            try clear c21b1
            try clear c21b2
            try clear c26
            try clear c26b0
            try clear c26b1
            try clear c27
            try clear c27b0
            try clear c27b1
            try clear c27b2
            try clear c29
            try clear c29b0
            try clear c29b1
            try clear c29b2
            try clear hcz13_0
            try clear hcz13_1
            try clear hcz13_2
            try clear hcz13_3
            try clear hcz13_4
            try clear hcz17_0
            try clear hcz17_1
            try clear hcz17_2
            try clear hcz17_3
            try clear hcz17_4
            try clear hcz22_0
            try clear hcz22_1
            try clear hcz22_2
            try clear hcz22_3
            try clear hcz22_4
            try clear hcz25_0
            try clear hcz25_1
            try clear hcz25_2
            try clear hcz25_3
            try clear hcz25_4
            try clear hcz30_0
            try clear hcz30_1
            try clear hcz30_2
            try clear hcz30_3
            try clear hcz30_4
            try clear hcz6_0
            try clear hcz6_1
            try clear hcz6_2
            try clear hcz6_3
            try clear hcz6_4
            try clear hcz8_0
            try clear hcz8_1
            try clear hcz8_2
            try clear hcz8_3
            try clear hcz8_4
            try clear hfz13_0
            try clear hfz13_1
            try clear hfz13_2
            try clear hfz13_3
            try clear hfz13_4
            try clear hfz17_0
            try clear hfz17_1
            try clear hfz17_2
            try clear hfz17_3
            try clear hfz17_4
            try clear hfz22_0
            try clear hfz22_1
            try clear hfz22_2
            try clear hfz22_3
            try clear hfz22_4
            try clear hfz25_0
            try clear hfz25_1
            try clear hfz25_2
            try clear hfz25_3
            try clear hfz25_4
            try clear hfz30_0
            try clear hfz30_1
            try clear hfz30_2
            try clear hfz30_3
            try clear hfz30_4
            try clear hfz6_0
            try clear hfz6_1
            try clear hfz6_2
            try clear hfz6_3
            try clear hfz6_4
            try clear hfz8_0
            try clear hfz8_1
            try clear hfz8_2
            try clear hfz8_3
            try clear hfz8_4
            try clear p2
            obtain ⟨kq, x3_23, rfl, HA, HJ23, BK110, HB⟩ := hcut
            cases kq with
            | zero => exact absurd HA.out (by simp [tidemillref26_Line.j2])
            | succ kj23 =>
              have H := HA.out
              clear HA
              simp only [tidemillref26_Line.j2] at H
              have H' := Aside0.mk H
              clear H
              have hcz32_0 : wc.cell? ⟨gb110, 0, none⟩ = some (.int .i64 a0_0) := (blk_cell BK110.out 0).trans rfl
              have hcz32_1 : wc.cell? ⟨gb110, 1, none⟩ = some (.int .i64 a0_1) := (blk_cell BK110.out 1).trans rfl
              have hcz32_2 : wc.cell? ⟨gb110, 2, none⟩ = some (.int .i64 a0_2) := (blk_cell BK110.out 2).trans rfl
              have hcz32_3 : wc.cell? ⟨gb110, 3, none⟩ = some (.string a0_3) := (blk_cell BK110.out 3).trans rfl
              have hcz32_4 : wc.cell? ⟨gb110, 4, none⟩ = some (.slice A0_4 l0_4.length c0_4) := (blk_cell BK110.out 4).trans rfl
              have hfz32_0 := blk_frozen BK110.out 0
              have hfz32_1 := blk_frozen BK110.out 1
              have hfz32_2 := blk_frozen BK110.out 2
              have hfz32_3 := blk_frozen BK110.out 3
              have hfz32_4 := blk_frozen BK110.out 4
              go_wp2
              go_loopg [3, 38] kj23 (fun kq v3 v38 w' => ∃ (x3_4 : ByteArray) (x38_4 : Int), v3 = .string x3_4 ∧ v38 = .int .i64 x38_4 ∧ Aside0 (tidemillref26_Line.l0 kq x3_4 (l0_4.length : Int) x38_4 a0_0 a0_1 a0_2 a0_3 l0_4 = some r) ∧ Aside0 (kq ≤ kj23) ∧ Aside0 (w'.heap[gb110]? = some (.cells #[.int .i64 a0_0, .int .i64 a0_1, .int .i64 a0_2, .string a0_3, (.slice A0_4 l0_4.length c0_4)] 46 (0, 0))) ∧ Aside0 (Below w.heap.size w w'))
              case atStart => exact ⟨(x3_23), (0), (by first | rfl | (simp; done) | (simp [*]; done)), (by first | rfl | (simp; done) | (simp [*]; done)), H', ⟨Nat.le_refl _⟩, ⟨by (with_reducible repeat (first | refine blk_drewN ?_ _ | refine blk_drew ?_ | refine blk_alloc ?_ _)); exact BK110.out⟩, ⟨by repeat (first | (with_reducible first | exact HB.out | apply below_alloc | apply pw_below_drewN | apply below_drew1 | refine below_set ?_ GE110.out) | exact HB.out)⟩⟩
              case round =>
                clear H'
                try clear c1
                try clear c2
                try clear p2
                try clear c3
                try clear c4
                try clear c5
                try clear c6
                try clear c9
                try clear c10
                try clear c10b0
                try clear c10b1
                try clear c10b2
                try clear c12
                try clear c12b0
                try clear c12b1
                try clear c12b2
                try clear c18
                try clear c19
                try clear c19b0
                try clear c19b1
                try clear c19b2
                try clear c21
                try clear c21b0
                try clear c21b1
                try clear c21b2
                try clear c26
                try clear c26b0
                try clear c26b1
                try clear c27
                try clear c27b0
                try clear c27b1
                try clear c27b2
                try clear c29
                try clear c29b0
                try clear c29b1
                try clear c29b2
                try clear hcz13_0
                try clear hcz13_1
                try clear hcz13_2
                try clear hcz13_3
                try clear hcz13_4
                try clear hcz17_0
                try clear hcz17_1
                try clear hcz17_2
                try clear hcz17_3
                try clear hcz17_4
                try clear hcz22_0
                try clear hcz22_1
                try clear hcz22_2
                try clear hcz22_3
                try clear hcz22_4
                try clear hcz25_0
                try clear hcz25_1
                try clear hcz25_2
                try clear hcz25_3
                try clear hcz25_4
                try clear hcz30_0
                try clear hcz30_1
                try clear hcz30_2
                try clear hcz30_3
                try clear hcz30_4
                try clear hcz32_0
                try clear hcz32_1
                try clear hcz32_2
                try clear hcz32_3
                try clear hcz32_4
                try clear hcz6_0
                try clear hcz6_1
                try clear hcz6_2
                try clear hcz6_3
                try clear hcz6_4
                try clear hcz8_0
                try clear hcz8_1
                try clear hcz8_2
                try clear hcz8_3
                try clear hcz8_4
                try clear hfz13_0
                try clear hfz13_1
                try clear hfz13_2
                try clear hfz13_3
                try clear hfz13_4
                try clear hfz17_0
                try clear hfz17_1
                try clear hfz17_2
                try clear hfz17_3
                try clear hfz17_4
                try clear hfz22_0
                try clear hfz22_1
                try clear hfz22_2
                try clear hfz22_3
                try clear hfz22_4
                try clear hfz25_0
                try clear hfz25_1
                try clear hfz25_2
                try clear hfz25_3
                try clear hfz25_4
                try clear hfz30_0
                try clear hfz30_1
                try clear hfz30_2
                try clear hfz30_3
                try clear hfz30_4
                try clear hfz32_0
                try clear hfz32_1
                try clear hfz32_2
                try clear hfz32_3
                try clear hfz32_4
                try clear hfz6_0
                try clear hfz6_1
                try clear hfz6_2
                try clear hfz6_3
                try clear hfz6_4
                try clear hfz8_0
                try clear hfz8_1
                try clear hfz8_2
                try clear hfz8_3
                try clear hfz8_4
                try clear p2
                obtain ⟨x3_4, x38_4, rfl, rfl, HA, HK4, BK110, HB⟩ := hrel
                cases gk with
                | zero => exact absurd HA.out (by simp [tidemillref26_Line.l0])
                | succ k4 =>
                  have H := HA.out
                  clear HA
                  simp only [tidemillref26_Line.l0] at H
                  by_cases c33 : x38_4 < (l0_4.length : Int)
                  · rw [if_pos c33] at H
                    have c33b0 : decide (x38_4 < (l0_4.length : Int)) = true := decide_eq_true c33
                    clear c33
                    by_cases c34 : x3_4.size + 1 ≤ 9223372036854775807
                    · rw [if_pos c34] at H
                      have c34b0 := eq_true c34
                      have c34b1 : decide (x3_4.size + 1 ≤ 9223372036854775807) = true := decide_eq_true c34
                      try have c34b2 : (9223372036854775807 < x3_4.size + 1) = False := eq_false (Nat.not_lt.2 c34)
                      by_cases c35 : 0 ≤ x38_4
                      · rw [if_pos c35] at H
                        have c35b0 : decide (0 ≤ x38_4) = true := decide_eq_true c35
                        clear c35
                        by_cases c36 : x38_4 < (l0_4.length : Int)
                        · rw [if_pos c36] at H
                          have c36b0 : decide (x38_4 < (l0_4.length : Int)) = true := decide_eq_true c36
                          clear c36
                          replace H := Option.bind_eq_some_iff.mp H
                          obtain ⟨t118, A370, H⟩ := H
                          replace H : (if (x3_4 ++ (⟨#[32]⟩ : ByteArray)).size + t118.size ≤ 9223372036854775807 then (tidemillref26_Line.l0 k4 ((x3_4 ++ (⟨#[32]⟩ : ByteArray)) ++ t118) (l0_4.length : Int) (wrap64 (x38_4 + 1)) a0_0 a0_1 a0_2 a0_3 l0_4) else (none)) = some r := H
                          have A37 := Aside0.mk A370
                          clear A370
                          by_cases c38 : (x3_4 ++ (⟨#[32]⟩ : ByteArray)).size + t118.size ≤ 9223372036854775807
                          · rw [if_pos c38] at H
                            have c38b0 := eq_true c38
                            have c38b1 : decide ((x3_4 ++ (⟨#[32]⟩ : ByteArray)).size + t118.size ≤ 9223372036854775807) = true := decide_eq_true c38
                            try have c38b2 : (9223372036854775807 < (x3_4 ++ (⟨#[32]⟩ : ByteArray)).size + t118.size) = False := eq_false (Nat.not_lt.2 c38)
                            try have c38b3 : (9223372036854775807 < x3_4.size + 1 + t118.size) = False := by have h_ := c38; simp only [ByteArray.size_append] at h_; exact eq_false (Nat.not_lt.2 h_)
                            have H' := Aside0.mk H
                            clear H
                            have hcz39_0 : wr.cell? ⟨gb110, 0, none⟩ = some (.int .i64 a0_0) := (blk_cell BK110.out 0).trans rfl
                            have hcz39_1 : wr.cell? ⟨gb110, 1, none⟩ = some (.int .i64 a0_1) := (blk_cell BK110.out 1).trans rfl
                            have hcz39_2 : wr.cell? ⟨gb110, 2, none⟩ = some (.int .i64 a0_2) := (blk_cell BK110.out 2).trans rfl
                            have hcz39_3 : wr.cell? ⟨gb110, 3, none⟩ = some (.string a0_3) := (blk_cell BK110.out 3).trans rfl
                            have hcz39_4 : wr.cell? ⟨gb110, 4, none⟩ = some (.slice A0_4 l0_4.length c0_4) := (blk_cell BK110.out 4).trans rfl
                            have hfz39_0 := blk_frozen BK110.out 0
                            have hfz39_1 := blk_frozen BK110.out 1
                            have hfz39_2 := blk_frozen BK110.out 2
                            have hfz39_3 := blk_frozen BK110.out 3
                            have hfz39_4 := blk_frozen BK110.out 4
                            have p117 : 0 ≤ (x38_4 : Int) := of_decide_eq_true (by first | (with_reducible assumption) | assumption)
                            have q117 : x38_4 < (l0_4.length : Int) := of_decide_eq_true (by first | (with_reducible assumption) | assumption)
                            obtain ⟨ad117, e117, hx117_0⟩ := Kd.at_int HR0_4.out x38_4 p117 q117
                            cases e117
                            replace hx117_0 := (HB.out.cell (World.block_lt_of_cell? w _ hx117_0)).trans hx117_0
                            replace p117 := eq_true p117
                            replace q117 := eq_true q117
                            go_wp2_with (first | ((with_reducible refine gate_callee (f := 49) rfl ?_); refine goesL_ (some 48) rfl rfl Tryd.func49 (by kernel_rfl) rfl #[.int .i64 (rd l0_4 x38_4)] rfl (by (try simp only [List.map_toArray, List.map_cons, List.map_nil]); first | done | rfl | (simp only [List.length_drop, List.length_take]; rfl)) ?_; (with_reducible refine (tidemillref01_Decimal.calls k4 (rd l0_4 x38_4) t118 _ A37.out).mono ?_); rintro e w40 ⟨rfl, hb⟩; refine ⟨_, rfl, ?_⟩; have n0_ := Aside0.mk (blk_below (g := gb110) (o := .cells #[.int .i64 a0_0, .int .i64 a0_1, .int .i64 a0_2, .string a0_3, .slice (some ad117) l0_4.length c0_4] 46 (0, 0)) (by (with_reducible repeat (first | refine blk_drewN ?_ _ | refine blk_drew ?_ | refine blk_alloc ?_ _)); exact BK110.out) hb); have n1_ := Aside0.mk (below_step (by repeat (first | (with_reducible first | exact HB.out | apply below_alloc | apply pw_below_drewN | apply below_drew1 | refine below_set ?_ GE110.out) | exact HB.out)) hb); clear BK110; clear HB; have BK110 := n0_; have HB := n1_; clear n0_ n1_; (try clear hb); (try clear hb2); (try clear hk); (try clear hi)))
                            go_roundg k4
                            case measure => have := HJ3.out; have := HJ15.out; have := HJ23.out; have := HK4.out; omega
                            case rel => exact ⟨((x3_4 ++ (⟨#[32]⟩ : ByteArray)) ++ t118), (wrap64 (x38_4 + 1)), (by first | rfl | (simp; done) | (simp [*]; done)), (by first | rfl | (simp; done) | (simp [*]; done)), H', ⟨by have := HJ3.out; have := HJ15.out; have := HJ23.out; have := HK4.out; omega⟩, ⟨by (with_reducible repeat (first | refine blk_drewN ?_ _ | refine blk_drew ?_ | refine blk_alloc ?_ _)); exact BK110.out⟩, ⟨by repeat (first | (with_reducible first | exact HB.out | apply below_alloc | apply pw_below_drewN | apply below_drew1 | refine below_set ?_ GE110.out) | exact HB.out)⟩⟩
                          · rw [if_neg c38] at H
                            exact absurd H (by simp)
                        · rw [if_neg c36] at H
                          exact absurd H (by simp)
                      · rw [if_neg c35] at H
                        exact absurd H (by simp)
                    · rw [if_neg c34] at H
                      exact absurd H (by simp)
                  · rw [if_neg c33] at H
                    have c33b0 : decide (x38_4 < (l0_4.length : Int)) = false := decide_eq_false c33
                    clear c33
                    obtain rfl := Option.some.inj H
                    go_wp2
                    go_ret
                    exact ⟨by first | rfl | (simp [errW_none, errW_some] <;> rfl) | (simp [*, errW_none, errW_some] <;> first | rfl | exact empty_ne _ | exact ⟨rfl, empty_ne _⟩), by repeat (first | (with_reducible first | exact HB.out | apply below_alloc | apply pw_below_drewN | apply below_drew1 | refine below_set ?_ GE110.out) | exact HB.out)⟩

end Go.Proofs.YtdgdpkemboeaeaaDoor.PR
namespace Go.Proofs.YtdgdpkemboeaeaaDoor.PR
open Go.RowKit Go.Proofs.YtdgdpkemboeaeaaDoor.PT Go.Proofs.YtdgdpkemboeaeaaDoor.H Go.Proofs.YtdgdpkemboeaeaaDoorW.PrintWords Go.Proofs.YtdgdpkemboeaeaaDoorW.PrintLast Go.Proofs.YtdgdpkemboeaeaaDoorW.PrintMore
attribute [local go_sem] max2_int min2_int max_two min_two max_three min_three max_four min_four   -- for this text's walks alone
set_option linter.unusedVariables false
set_option linter.unusedSimpArgs false

end Go.Proofs.YtdgdpkemboeaeaaDoor.PR
namespace Go.Proofs.YtdgdpkemboeaeaaDoor.PR
open Go.RowKit Go.Proofs.YtdgdpkemboeaeaaDoor.PT Go.Proofs.YtdgdpkemboeaeaaDoor.H Go.Proofs.YtdgdpkemboeaeaaDoorW.PrintWords Go.Proofs.YtdgdpkemboeaeaaDoorW.PrintLast Go.Proofs.YtdgdpkemboeaeaaDoorW.PrintMore
attribute [local go_sem] max2_int min2_int max_two min_two max_three min_three max_four min_four   -- for this text's walks alone
set_option linter.unusedVariables false
set_option linter.unusedSimpArgs false

end Go.Proofs.YtdgdpkemboeaeaaDoor.PR


