/- A part of the proof: words, contracts and walks that the other texts of this folder use. -/
-- laid by wip/xprint.py (a program of this session) over the kit's print; Lean checks it
import Derived.Test.YtdgdpkemboeaeaaDoorPRx0
namespace Go.Proofs.YtdgdpkemboeaeaaDoor.PR
open Go.RowKit Go.Proofs.YtdgdpkemboeaeaaDoor.PT Go.Proofs.YtdgdpkemboeaeaaDoor.H Go.Proofs.YtdgdpkemboeaeaaDoorW.PrintWords Go.Proofs.YtdgdpkemboeaeaaDoorW.PrintLast Go.Proofs.YtdgdpkemboeaeaaDoorW.PrintMore
attribute [local go_sem] max2_int min2_int max_two min_two max_three min_three max_four min_four   -- for this text's walks alone
set_option linter.unusedVariables false
set_option linter.unusedSimpArgs false

/-! ### tidemillref26_Act1: function 28 -/
mutual
def tidemillref26_Act1.l0 : Nat → List ByteArray → Int → Int → Int → Int → ByteArray → Option (Int × Int × Int × ByteArray × List Int × Bool)
  | 0, _, _, _, _, _, _ => none
  | k + 1, x4, x6, x124000, x124001, x124002, x124003 => if x6 ≤ 10 then ((tidemillref26_word.f x6).bind fun t124 => (if 0 < (x4.length : Int) then (if t124.toList = (rdOf ByteArray.empty x4 0).toList then (tidemillref26_Act1.l0 k x4 (wrap64 (x6 + 1)) x6 x124001 x124002 x124003) else (tidemillref26_Act1.l0 k x4 (wrap64 (x6 + 1)) x124000 x124001 x124002 x124003)) else (none))) else (if x124000 = 0 then (some (0, 0, 0, (⟨#[]⟩ : ByteArray), ([] : List Int), false)) else (if 1 ≤ (x4.length : Int) then ((some (x4.drop (1 : Int).toNat : List ByteArray)).bind fun y126 => ((tidemillref26_tellsI.f x124000).bind fun t129 => (if t129 = true then (if (y126.length : Int) = 0 then (some (0, 0, 0, (⟨#[]⟩ : ByteArray), ([] : List Int), false)) else (if 0 < (y126.length : Int) then ((tidemillref26_number.f k (rdOf ByteArray.empty y126 0)).bind fun bt131 => (if 1 ≤ (y126.length : Int) then (tidemillref26_Act1.j1 k (y126.drop (1 : Int).toNat) bt131.2 x124000 bt131.1 x124002 x124003) else (none))) else (none))) else (tidemillref26_Act1.j1 k y126 true x124000 x124001 x124002 x124003)))) else (none)))
def tidemillref26_Act1.j1 : Nat → List ByteArray → Bool → Int → Int → Int → ByteArray → Option (Int × Int × Int × ByteArray × List Int × Bool)
  | 0, _, _, _, _, _, _ => none
  | k + 1, x4, x7, x124000, x124001, x124002, x124003 => if x7 = true then ((tidemillref26_tellsN.f x124000).bind fun t136 => (tidemillref26_Act1.j2 k x4 x7 t136 x124000 x124001 x124002 x124003)) else (tidemillref26_Act1.j2 k x4 x7 false x124000 x124001 x124002 x124003)
def tidemillref26_Act1.j2 : Nat → List ByteArray → Bool → Bool → Int → Int → Int → ByteArray → Option (Int × Int × Int × ByteArray × List Int × Bool)
  | 0, _, _, _, _, _, _, _ => none
  | k + 1, x4, x7, x54, x124000, x124001, x124002, x124003 => if x54 = true then (if (x4.length : Int) = 0 then (some (0, 0, 0, (⟨#[]⟩ : ByteArray), ([] : List Int), false)) else (if 0 < (x4.length : Int) then ((tidemillref26_number.f k (rdOf ByteArray.empty x4 0)).bind fun bt138 => (if 1 ≤ (x4.length : Int) then (tidemillref26_Act1.j3 k (x4.drop (1 : Int).toNat) bt138.2 x124000 x124001 bt138.1 x124003) else (none))) else (none))) else (tidemillref26_Act1.j3 k x4 x7 x124000 x124001 x124002 x124003)
def tidemillref26_Act1.j3 : Nat → List ByteArray → Bool → Int → Int → Int → ByteArray → Option (Int × Int × Int × ByteArray × List Int × Bool)
  | 0, _, _, _, _, _, _ => none
  | k + 1, x4, x7, x124000, x124001, x124002, x124003 => if x7 = true then (if x124000 = 1 then (tidemillref26_Act1.j4 k x4 x7 ((x4.length : Int) == 1) x124000 x124001 x124002 x124003) else (tidemillref26_Act1.j4 k x4 x7 false x124000 x124001 x124002 x124003)) else (some (0, 0, 0, (⟨#[]⟩ : ByteArray), ([] : List Int), false))
def tidemillref26_Act1.j4 : Nat → List ByteArray → Bool → Bool → Int → Int → Int → ByteArray → Option (Int × Int × Int × ByteArray × List Int × Bool)
  | 0, _, _, _, _, _, _, _ => none
  | k + 1, x4, x7, x79, x124000, x124001, x124002, x124003 => if x79 = true then (if 0 < (x4.length : Int) then ((tidemillref26_Unshow.f k (rdOf ByteArray.empty x4 0)).bind fun bt144 => (if bt144.2 = true then (some (x124000, x124001, x124002, bt144.1, ([] : List Int), (bt144.1.toList != ([] : List UInt8)))) else (some (x124000, x124001, x124002, bt144.1, ([] : List Int), false)))) else (none)) else (if x124000 = 8 then (tidemillref26_Act1.l1 k x4 x7 (x4.length : Int) 0 x124000 x124001 x124002 x124003 ([] : List Int)) else (some (x124000, x124001, x124002, x124003, ([] : List Int), ((x4.length : Int) == 0))))
def tidemillref26_Act1.l1 : Nat → List ByteArray → Bool → Int → Int → Int → Int → Int → ByteArray → List Int → Option (Int × Int × Int × ByteArray × List Int × Bool)
  | 0, _, _, _, _, _, _, _, _, _ => none
  | k + 1, x4, x7, x103, x104, x124000, x124001, x124002, x124003, x124004 => if x104 < x103 then (if 0 ≤ x104 then (if x104 < (x4.length : Int) then ((tidemillref26_number.f k (rdOf ByteArray.empty x4 x104)).bind fun bt147 => (if x7 = true then (if x124004.length < 17592186044416 then (tidemillref26_Act1.l1 k x4 bt147.2 x103 (wrap64 (x104 + 1)) x124000 x124001 x124002 x124003 (x124004 ++ [bt147.1])) else (none)) else (if x124004.length < 17592186044416 then (tidemillref26_Act1.l1 k x4 false x103 (wrap64 (x104 + 1)) x124000 x124001 x124002 x124003 (x124004 ++ [bt147.1])) else (none)))) else (none)) else (none)) else (if x7 = true then (some (x124000, x124001, x124002, x124003, x124004, decide ((x4.length : Int) ≤ 16))) else (some (x124000, x124001, x124002, x124003, x124004, false)))
end
def tidemillref26_Act1.f (k : Nat) (a0 : ByteArray) : Option (Int × Int × Int × ByteArray × List Int × Bool) := (tidemillref07_Split.f k a0 32).bind fun t120 => (tidemillref26_Act1.l0 k t120 1 0 0 0 (⟨#[]⟩ : ByteArray))
def tidemillref26_Act1.T26 : Bool × List (List Nat × List Nat) := (true, [([], []), ([], []), ([1], [1]), ([2], [2]), ([3, 2], [2, 3]), ([4, 2], [2, 4]), ([2, 5], [2, 5]), ([0, 2, 0], [0]), ([6, 7, 0, 1, 2, 3, 4, 5, 6, 7], [6])])
def tidemillref26_Act1.B26 : List Nat := [0, 0, 2, 6, 14, 30, 62, 7, 255]
theorem tidemillref26_Act1.tab26 : rtab .any (opsOf Tryd.f28 26) = tidemillref26_Act1.T26 := by kernel_rfl
theorem tidemillref26_Act1.bits26 : waitsOk tidemillref26_Act1.T26.2 tidemillref26_Act1.B26 = true := by kernel_rfl
set_option maxHeartbeats 8000000 in
set_option maxRecDepth 100000 in
theorem tidemillref26_Act1.calls (k : Nat) (a0 : ByteArray) (r1 : Int) (r2 : Int) (r3 : Int) (r4 : ByteArray) (r5 : List Int) (r6 : Bool) (w : World) (h : tidemillref26_Act1.f k a0 = some (r1, r2, r3, r4, r5, r6)) :
    Calls Tryd.prog 28 #[.string a0] w fun e w' => ∃ v4_ : Value, e = .returned (.tuple #[.agg #[.int .i64 r1, .int .i64 r2, .int .i64 r3, .string r4, v4_], .bool r6]) ∧ Kd.R (Kd.int .i64) 3 w' w.heap.size (fun _ => True) v4_ r5 ∧ Below w.heap.size w w' := by
  have hu46 := Tryd.underlying46
  have HB := Aside0.mk (Below.refl w.heap.size w)
  have H : ((tidemillref07_Split.f k a0 32).bind fun t120 => (tidemillref26_Act1.l0 k t120 1 0 0 0 (⟨#[]⟩ : ByteArray))) = some (r1, r2, r3, r4, r5, r6) := h
  clear h
  replace H := Option.bind_eq_some_iff.mp H
  obtain ⟨t120, A20, H⟩ := H
  replace H : (tidemillref26_Act1.l0 k t120 1 0 0 0 (⟨#[]⟩ : ByteArray)) = some (r1, r2, r3, r4, r5, r6) := H
  have A2 := Aside0.mk A20
  clear A20
  have H' := Aside0.mk H
  clear H
  go_enter Tryd.func28, Tryd.ntmps28
  go_wp2_with (first | ((with_reducible refine gate_dst (N := 2) rfl ?_); (try (refine gate_guard (by rfl) ?_; dsimp only)); refine box_event ?hg (N := 2) ?hd (cs := #[.int .i64 0, .int .i64 0, .int .i64 0, .string (⟨#[]⟩ : ByteArray), .slice none 0 0]) (t := 46) ?hr ?_; (case hd => rfl); (case hg => rfl); (case hr => first | (go_simp; done) | (go_simp; rfl)); intro gb119 hg w3 hbox hb; have n0_ := Aside0.mk (below_step (by repeat (first | (with_reducible first | exact HB.out | apply below_alloc | apply pw_below_drewN | apply below_drew1) | exact HB.out)) hb); have n1_ := Aside0.mk (hbox); have n2_ := Aside0.mk ((by rw [hg]; exact (below_size (by repeat (first | (with_reducible first | exact HB.out | apply below_alloc | apply pw_below_drewN | apply below_drew1) | exact HB.out))) : w.heap.size ≤ gb119)); have n3_ := Aside0.mk ((by rw [hg]; exact (below_size (by repeat (first | (with_reducible first | exact HB.out | apply below_alloc | apply pw_below_drewN | apply below_drew1) | exact HB.out))) : w.heap.size ≤ gb119)); clear HB; have HB := n0_; have BK119 := n1_; have GW119 := n2_; have GE119 := n3_; clear n0_ n1_ n2_ n3_; clear hb hbox hg) | ((with_reducible refine gate_callee (f := 56) rfl ?_); refine goesL_ (some 12) rfl rfl Tryd.func56 (by kernel_rfl) rfl #[.string a0, .int .u8 32] rfl (by (try simp only [List.map_toArray, List.map_cons, List.map_nil]); first | done | rfl | (simp only [List.length_drop, List.length_take]; rfl)) ?_; (with_reducible refine (tidemillref07_Split.calls k a0 32 t120 _ A2.out).mono ?_); rintro e w4 ⟨v121, rfl, ho0, hb⟩; refine ⟨_, rfl, ?_⟩; have n0_ := Aside0.mk (Kd.R_lower ho0 (below_size (by repeat (first | (with_reducible first | exact HB.out | apply below_alloc | apply pw_below_drewN | apply below_drew1 | refine below_set ?_ GE119.out) | exact HB.out)))); have n1_ := Aside0.mk (blk_below (g := gb119) (o := .cells #[.int .i64 0, .int .i64 0, .int .i64 0, .string (⟨#[]⟩ : ByteArray), .slice none 0 0] 46 (0, 0)) (by (with_reducible repeat (first | refine blk_drewN ?_ _ | refine blk_drew ?_ | refine blk_alloc ?_ _)); exact BK119.out) hb); have n2_ := Aside0.mk (below_step (by repeat (first | (with_reducible first | exact HB.out | apply below_alloc | apply pw_below_drewN | apply below_drew1 | refine below_set ?_ GE119.out) | exact HB.out)) hb); clear BK119; clear HB; have HO122 := n0_; have BK119 := n1_; have HB := n2_; clear n0_ n1_ n2_; (try clear hb); (try clear hb2); (try clear hk); (try clear hi); (try clear ho0)) | ((with_reducible refine gate_dst (N := 5) rfl ?_); (try (refine gate_guard (by rfl) ?_; dsimp only)); refine box_event ?hg (N := 5) ?hd (cs := #[.int .i64 0, .int .i64 0, .int .i64 0, .string (⟨#[]⟩ : ByteArray), .slice none 0 0]) (t := 46) ?hr ?_; (case hd => rfl); (case hg => rfl); (case hr => first | (go_simp; done) | (go_simp; rfl)); intro gb123 hg w5 hbox hb; have n0_ := Aside0.mk (Kd.R_below (by (with_reducible repeat (first | apply Kd.R_alloc | apply Kd.R_drewN | apply Kd.R_drew)); exact HO122.out) hb); have n1_ := Aside0.mk (blk_below (g := gb119) (o := .cells #[.int .i64 0, .int .i64 0, .int .i64 0, .string (⟨#[]⟩ : ByteArray), .slice none 0 0] 46 (0, 0)) (by (with_reducible repeat (first | refine blk_drewN ?_ _ | refine blk_drew ?_ | refine blk_alloc ?_ _)); exact BK119.out) hb); have n2_ := Aside0.mk (below_step (by repeat (first | (with_reducible first | exact HB.out | apply below_alloc | apply pw_below_drewN | apply below_drew1 | refine below_set ?_ GE119.out) | exact HB.out)) hb); have n3_ := Aside0.mk (hbox); have n4_ := Aside0.mk ((by rw [hg]; exact (below_size (by repeat (first | (with_reducible first | exact HB.out | apply below_alloc | apply pw_below_drewN | apply below_drew1 | refine below_set ?_ GE119.out) | exact HB.out))) : w.heap.size ≤ gb123)); have n5_ := Aside0.mk ((by rw [hg]; exact (below_size (by repeat (first | (with_reducible first | exact HB.out | apply below_alloc | apply pw_below_drewN | apply below_drew1 | refine below_set ?_ GE119.out) | exact HB.out))) : w.heap.size ≤ gb123)); have n6_ := Aside0.mk ((by rw [hg]; exact Nat.ne_of_lt (blk_lt (g := gb119) (o := .cells #[.int .i64 0, .int .i64 0, .int .i64 0, .string (⟨#[]⟩ : ByteArray), .slice none 0 0] 46 (0, 0)) (by (with_reducible repeat (first | refine blk_drewN ?_ _ | refine blk_drew ?_ | refine blk_alloc ?_ _)); exact BK119.out)) : gb119 ≠ gb123)); have n7_ := Aside0.mk ((by rw [hg]; exact Nat.ne_of_gt (blk_lt (g := gb119) (o := .cells #[.int .i64 0, .int .i64 0, .int .i64 0, .string (⟨#[]⟩ : ByteArray), .slice none 0 0] 46 (0, 0)) (by (with_reducible repeat (first | refine blk_drewN ?_ _ | refine blk_drew ?_ | refine blk_alloc ?_ _)); exact BK119.out)) : gb123 ≠ gb119)); clear HO122; clear BK119; clear HB; have HO122 := n0_; have BK119 := n1_; have HB := n2_; have BK123 := n3_; have GW123 := n4_; have GE123 := n5_; have NB119_123 := n6_; have NB123_119 := n7_; clear n0_ n1_ n2_ n3_ n4_ n5_ n6_ n7_; clear hb hbox hg; have hnb6 := NB123_119.out; have hnc6 := NB119_123.out; have hcz7_0 : w5.cell? ⟨gb123, 0, none⟩ = some (.int .i64 0) := (blk_cell BK123.out 0).trans rfl; have hcz7_1 : w5.cell? ⟨gb123, 1, none⟩ = some (.int .i64 0) := (blk_cell BK123.out 1).trans rfl; have hcz7_2 : w5.cell? ⟨gb123, 2, none⟩ = some (.int .i64 0) := (blk_cell BK123.out 2).trans rfl; have hcz7_3 : w5.cell? ⟨gb123, 3, none⟩ = some (.string (⟨#[]⟩ : ByteArray)) := (blk_cell BK123.out 3).trans rfl; have hcz7_4 : w5.cell? ⟨gb123, 4, none⟩ = some (.slice none 0 0) := (blk_cell BK123.out 4).trans rfl; have hfz7_0 := blk_frozen BK123.out 0; have hfz7_1 := blk_frozen BK123.out 1; have hfz7_2 := blk_frozen BK123.out 2; have hfz7_3 := blk_frozen BK123.out 3; have hfz7_4 := blk_frozen BK123.out 4))
  go_loopg [6] k (fun kq v6 w' => ∃ (x6_1 : Int) (x124000_1 : Int), v6 = .int .i64 x6_1 ∧ Aside0 (tidemillref26_Act1.l0 kq t120 x6_1 x124000_1 0 0 (⟨#[]⟩ : ByteArray) = some (r1, r2, r3, r4, r5, r6)) ∧ Aside0 (kq ≤ k) ∧ Aside0 (Kd.Q Kd.string 9 w' w.heap.size (fun _ => True) v121 t120) ∧ Aside0 (w'.heap[gb119]? = some (.cells #[.int .i64 0, .int .i64 0, .int .i64 0, .string (⟨#[]⟩ : ByteArray), (.slice none 0 0)] 46 (0, 0))) ∧ Aside0 (w'.heap[gb123]? = some (.cells #[.int .i64 x124000_1, .int .i64 0, .int .i64 0, .string (⟨#[]⟩ : ByteArray), (.slice none 0 0)] 46 (0, 0))) ∧ Aside0 (Below w.heap.size w w'))
  case atStart => exact ⟨(1), (0), (by first | rfl | (simp; done) | (simp [*]; done)), H', ⟨Nat.le_refl _⟩, ⟨Kd.Q_of_R (by (with_reducible repeat (first | apply Kd.R_alloc | apply Kd.R_drewN | apply Kd.R_drew)); exact Kd.R_mono (Kd.R_far (p := ⟨gb123, 4, none⟩) (Kd.R_far (p := ⟨gb123, 3, none⟩) (Kd.R_far (p := ⟨gb123, 2, none⟩) (Kd.R_far (p := ⟨gb123, 1, none⟩) (Kd.R_far (p := ⟨gb123, 0, none⟩) (Kd.R_types HO122.out BK123.out (by decide)) (fun _ hk => hk.2) (.int .i64 0)) (fun _ hk => hk.2) (.int .i64 0)) (fun _ hk => hk.2) (.int .i64 0)) (fun _ hk => hk.2) (.string (⟨#[]⟩ : ByteArray))) (fun _ hk => hk.2) (.slice none 0 0)) (fun _ hk => trivial))⟩, ⟨by (with_reducible repeat (first | refine blk_drewN ?_ _ | refine blk_drew ?_ | refine blk_alloc ?_ _)); refine blk_far ?_ NB119_123.out _; (with_reducible repeat (first | refine blk_drewN ?_ _ | refine blk_drew ?_ | refine blk_alloc ?_ _)); refine blk_far ?_ NB119_123.out _; (with_reducible repeat (first | refine blk_drewN ?_ _ | refine blk_drew ?_ | refine blk_alloc ?_ _)); refine blk_far ?_ NB119_123.out _; (with_reducible repeat (first | refine blk_drewN ?_ _ | refine blk_drew ?_ | refine blk_alloc ?_ _)); refine blk_far ?_ NB119_123.out _; (with_reducible repeat (first | refine blk_drewN ?_ _ | refine blk_drew ?_ | refine blk_alloc ?_ _)); refine blk_far ?_ NB119_123.out _; (with_reducible repeat (first | refine blk_drewN ?_ _ | refine blk_drew ?_ | refine blk_alloc ?_ _)); exact BK119.out⟩, ⟨by (with_reducible repeat (first | refine blk_drewN ?_ _ | refine blk_drew ?_ | refine blk_alloc ?_ _)); refine blk_put (cs := #[.int .i64 0, .int .i64 0, .int .i64 0, .string (⟨#[]⟩ : ByteArray), .slice none 0 0]) ?_ 4 _ rfl; (with_reducible repeat (first | refine blk_drewN ?_ _ | refine blk_drew ?_ | refine blk_alloc ?_ _)); refine blk_put (cs := #[.int .i64 0, .int .i64 0, .int .i64 0, .string (⟨#[]⟩ : ByteArray), .slice none 0 0]) ?_ 3 _ rfl; (with_reducible repeat (first | refine blk_drewN ?_ _ | refine blk_drew ?_ | refine blk_alloc ?_ _)); refine blk_put (cs := #[.int .i64 0, .int .i64 0, .int .i64 0, .string (⟨#[]⟩ : ByteArray), .slice none 0 0]) ?_ 2 _ rfl; (with_reducible repeat (first | refine blk_drewN ?_ _ | refine blk_drew ?_ | refine blk_alloc ?_ _)); refine blk_put (cs := #[.int .i64 0, .int .i64 0, .int .i64 0, .string (⟨#[]⟩ : ByteArray), .slice none 0 0]) ?_ 1 _ rfl; (with_reducible repeat (first | refine blk_drewN ?_ _ | refine blk_drew ?_ | refine blk_alloc ?_ _)); refine blk_put (cs := #[.int .i64 0, .int .i64 0, .int .i64 0, .string (⟨#[]⟩ : ByteArray), .slice none 0 0]) ?_ 0 _ rfl; (with_reducible repeat (first | refine blk_drewN ?_ _ | refine blk_drew ?_ | refine blk_alloc ?_ _)); exact BK123.out⟩, ⟨by repeat (first | (with_reducible first | exact HB.out | apply below_alloc | apply pw_below_drewN | apply below_drew1 | refine below_set ?_ GE119.out | refine below_set ?_ GE123.out) | exact HB.out)⟩⟩
  case round =>
    clear H'
    try clear c2
    try clear p2
    try clear c5
    try clear c6
    try clear hcz7_0
    try clear hcz7_1
    try clear hcz7_2
    try clear hcz7_3
    try clear hcz7_4
    try clear hfz7_0
    try clear hfz7_1
    try clear hfz7_2
    try clear hfz7_3
    try clear hfz7_4
    obtain ⟨x6_1, x124000_1, rfl, HA, HK1, HO_4, BK119, BK123, HB⟩ := hrel
    cases gk with
    | zero => exact absurd HA.out (by simp [tidemillref26_Act1.l0])
    | succ k1 =>
      have H := HA.out
      clear HA
      simp only [tidemillref26_Act1.l0] at H
      by_cases c8 : x6_1 ≤ 10
      · rw [if_pos c8] at H
        have c8b0 : decide (x6_1 ≤ 10) = true := decide_eq_true c8
        clear c8
        replace H := Option.bind_eq_some_iff.mp H
        obtain ⟨t124, A90, H⟩ := H
        replace H : (if 0 < (t120.length : Int) then (if t124.toList = (rdOf ByteArray.empty t120 0).toList then (tidemillref26_Act1.l0 k1 t120 (wrap64 (x6_1 + 1)) x6_1 0 0 (⟨#[]⟩ : ByteArray)) else (tidemillref26_Act1.l0 k1 t120 (wrap64 (x6_1 + 1)) x124000_1 0 0 (⟨#[]⟩ : ByteArray))) else (none)) = some (r1, r2, r3, r4, r5, r6) := H
        have A9 := Aside0.mk A90
        clear A90
        by_cases c10 : 0 < (t120.length : Int)
        · rw [if_pos c10] at H
          have c10b0 : decide (0 < (t120.length : Int)) = true := decide_eq_true c10
          have c10b1 : decide (0 < t120.length) = true := decide_eq_true (by omega)
          clear c10
          by_cases c11 : t124.toList = (rdOf ByteArray.empty t120 0).toList
          · rw [if_pos c11] at H
            have c11b0 : (t124.toList == (rdOf ByteArray.empty t120 0).toList) = true := beq_iff_eq.mpr c11
            have c11b1 : (t124.toList != (rdOf ByteArray.empty t120 0).toList) = false := bne_eq_false_iff_eq.mpr c11
            clear c11
            have H' := Aside0.mk H
            clear H
            try go_wp2
            have n0_ := Aside0.mk (Kd.Q_drew HO_4.out)
            have n1_ := Aside0.mk (blk_drew BK119.out)
            have n2_ := Aside0.mk (blk_drew BK123.out)
            have n3_ := Aside0.mk (below_drew1 HB.out)
            clear HO_4
            clear BK119
            clear BK123
            clear HB
            have HO_4 := n0_
            have BK119 := n1_
            have BK123 := n2_
            have HB := n3_
            clear n0_ n1_ n2_ n3_
            obtain ⟨Ao13, co13, eo13, _⟩ := Kd.Q_slice HO_4.out
            (first | subst eo13 | (injection eo13 with f1_ f2_ f3_; have f4_ := f1_.symm; have f5_ := f3_.symm; clear f1_ f2_ f3_; subst f4_; subst f5_))
            have p125 : 0 ≤ (0 : Int) := (by omega)
            have q125 : 0 < (t120.length : Int) := of_decide_eq_true (by first | (with_reducible assumption) | assumption)
            obtain ⟨ad125, e125, hx125_0⟩ := Kd.at_string (Kd.Q_reads' HO_4.out).2.2 0 p125 q125
            cases e125
            have qi125 : (0 < t120.length) = True := eq_true (by omega)
            (try rw [show ((0 : Int)).toNat = 0 from rfl] at hx125_0)
            (try rw [Addr.add_zero'] at hx125_0)
            replace p125 := eq_true p125
            replace q125 := eq_true q125
            refine start_ (n := 6) (S := fun w' => w'.cell? ad125 = some (.string (rdOf ByteArray.empty t120 0))) (ds := []) #[false, false, false, false, false, false] (by kernel_rfl) rfl rfl (hx125_0) (fun hHeld => ?_)
            generalize wr.drew = w12 at HO_4 BK119 BK123 HB hx125_0 hHeld ⊢
            refine pure_ (i := 0) (N := some 18) (v := ?_) (a' := ?_) #[true, false, false, false, false, false] rfl rfl (by kernel_rfl) (fun _ _ _ h => h) (Or.inl ⟨by rfl, ?_⟩) ?_ ?_
            rotate_left
            · intro w'
              go_simp
              with_reducible rfl
            rotate_left
            · simp only [Act.put, List.setIfInBounds_toArray, List.set_cons_zero, List.set_cons_succ, i64_w, i32_w]
              rfl
            refine pure_ (i := 2) (N := some 20) (v := ?_) (a' := ?_) #[true, false, true, false, false, false] rfl rfl (by kernel_rfl) (fun _ _ _ h => h) (Or.inl ⟨by rfl, ?_⟩) ?_ ?_
            rotate_left
            · intro w'
              go_simp
              with_reducible rfl
            rotate_left
            · simp only [Act.put, List.setIfInBounds_toArray, List.set_cons_zero, List.set_cons_succ, i64_w, i32_w]
              rfl
            refine pure_ (i := 3) (N := some 21) (v := ?_) (a' := ?_) #[true, false, true, true, false, false] rfl rfl (by kernel_rfl) (fun _ _ _ h => h) (Or.inl ⟨by rfl, ?_⟩) ?_ ?_
            rotate_left
            · intro w'
              go_simp
              with_reducible rfl
            rotate_left
            · simp only [Act.put, List.setIfInBounds_toArray, List.set_cons_zero, List.set_cons_succ, i64_w, i32_w]
              rfl
            refine take_ (i := 4) (N := some 22) (v := ?_) (a' := ?_) #[true, false, true, true, true, false] rfl rfl (by kernel_rfl) (fun _ _ _ h => h) (Or.inl ⟨by rfl, ?_⟩) hHeld ?_ ?_
            rotate_left
            · intro w' s0
              go_simp
              with_reducible rfl
            rotate_left
            · simp only [Act.put, List.setIfInBounds_toArray, List.set_cons_zero, List.set_cons_succ, i64_w, i32_w]
              rfl
            refine one_ (i := 1) (N := some 19) #[true, true, true, true, true, false] rfl rfl (by kernel_rfl) (by decide) (fun K hK => ?_)
            refine goes_ Tryd.func57 (by kernel_rfl) rfl #[.int .i64 x6_1] (by rfl) rfl rfl (by (try simp only [List.map_toArray, List.map_cons, List.map_nil]); first | done | rfl | (simp only [List.length_drop, List.length_take]; rfl)) ?_
            with_reducible refine (tidemillref26_word.calls x6_1 t124 _ A9.out).mono ?_
            rintro e w14 ⟨rfl, hb⟩
            have HS0_ := (hb.cell (World.block_lt_of_cell? _ _ (hHeld))).trans (hHeld)
            refine ⟨_, rfl, ?_⟩
            have n0_ := Aside0.mk (Kd.Q_below (by (with_reducible repeat (first | apply Kd.Q_alloc | apply Kd.Q_drewN | apply Kd.Q_drew)); exact HO_4.out) hb)
            have n1_ := Aside0.mk (blk_below (g := gb119) (o := .cells #[.int .i64 0, .int .i64 0, .int .i64 0, .string (⟨#[]⟩ : ByteArray), .slice none 0 0] 46 (0, 0)) (by (with_reducible repeat (first | refine blk_drewN ?_ _ | refine blk_drew ?_ | refine blk_alloc ?_ _)); exact BK119.out) hb)
            have n2_ := Aside0.mk (blk_below (g := gb123) (o := .cells #[.int .i64 x124000_1, .int .i64 0, .int .i64 0, .string (⟨#[]⟩ : ByteArray), .slice none 0 0] 46 (0, 0)) (by (with_reducible repeat (first | refine blk_drewN ?_ _ | refine blk_drew ?_ | refine blk_alloc ?_ _)); exact BK123.out) hb)
            have n3_ := Aside0.mk (below_step (by repeat (first | (with_reducible first | exact HB.out | apply below_alloc | apply pw_below_drewN | apply below_drew1 | refine below_set ?_ GE119.out | refine below_set ?_ GE123.out) | exact HB.out)) hb)
            clear HO_4
            clear BK119
            clear BK123
            clear HB
            have HO_4 := n0_
            have BK119 := n1_
            have BK123 := n2_
            have HB := n3_
            clear n0_ n1_ n2_ n3_
            (try clear hb)
            (try clear hb2)
            (try clear hk)
            (try clear hi)
            refine hK.out _ _ (HS0_) (fun hHeld => ?_)
            clear hK K
            refine norm_ (a' := ?_) ?_ ?_
            rotate_left
            · show Act.put _ (some 19) _ = _
              simp only [Act.put, List.setIfInBounds_toArray, List.set_cons_zero, List.set_cons_succ, i64_w, i32_w]
              rfl
            refine pure_ (i := 5) (N := some 23) (v := ?_) (a' := ?_) #[true, true, true, true, true, true] rfl rfl (by kernel_rfl) (fun _ _ _ h => h) (Or.inl ⟨by rfl, ?_⟩) ?_ ?_
            rotate_left
            · intro w'
              go_simp
              with_reducible rfl
            rotate_left
            · simp only [Act.put, List.setIfInBounds_toArray, List.set_cons_zero, List.set_cons_succ, i64_w, i32_w]
              rfl
            refine done_ (by kernel_rfl) ?_
            have hnb15 := NB123_119.out
            have hnc15 := NB119_123.out
            have hcz16_0 : w14.cell? ⟨gb123, 0, none⟩ = some (.int .i64 x124000_1) := (blk_cell BK123.out 0).trans rfl
            have hcz16_1 : w14.cell? ⟨gb123, 1, none⟩ = some (.int .i64 0) := (blk_cell BK123.out 1).trans rfl
            have hcz16_2 : w14.cell? ⟨gb123, 2, none⟩ = some (.int .i64 0) := (blk_cell BK123.out 2).trans rfl
            have hcz16_3 : w14.cell? ⟨gb123, 3, none⟩ = some (.string (⟨#[]⟩ : ByteArray)) := (blk_cell BK123.out 3).trans rfl
            have hcz16_4 : w14.cell? ⟨gb123, 4, none⟩ = some (.slice none 0 0) := (blk_cell BK123.out 4).trans rfl
            have hfz16_0 := blk_frozen BK123.out 0
            have hfz16_1 := blk_frozen BK123.out 1
            have hfz16_2 := blk_frozen BK123.out 2
            have hfz16_3 := blk_frozen BK123.out 3
            have hfz16_4 := blk_frozen BK123.out 4
            try go_wp2
            go_roundg k1
            case measure => have := HK1.out; omega
            case rel => exact ⟨(wrap64 (x6_1 + 1)), (x6_1), (by first | rfl | (simp; done) | (simp [*]; done)), H', ⟨by have := HK1.out; omega⟩, ⟨by (with_reducible repeat (first | apply Kd.Q_alloc | apply Kd.Q_drewN | apply Kd.Q_drew)); exact Kd.Q_mono (Kd.Q_far (p := ⟨gb123, 0, none⟩) (Kd.Q_types HO_4.out BK123.out (by decide)) (fun _ hk => hk.2) (.int .i64 x6_1)) (fun _ hk => trivial)⟩, ⟨by (with_reducible repeat (first | refine blk_drewN ?_ _ | refine blk_drew ?_ | refine blk_alloc ?_ _)); refine blk_far ?_ NB119_123.out _; (with_reducible repeat (first | refine blk_drewN ?_ _ | refine blk_drew ?_ | refine blk_alloc ?_ _)); exact BK119.out⟩, ⟨by (with_reducible repeat (first | refine blk_drewN ?_ _ | refine blk_drew ?_ | refine blk_alloc ?_ _)); refine blk_put (cs := #[.int .i64 x124000_1, .int .i64 0, .int .i64 0, .string (⟨#[]⟩ : ByteArray), .slice none 0 0]) ?_ 0 _ rfl; (with_reducible repeat (first | refine blk_drewN ?_ _ | refine blk_drew ?_ | refine blk_alloc ?_ _)); exact BK123.out⟩, ⟨by repeat (first | (with_reducible first | exact HB.out | apply below_alloc | apply pw_below_drewN | apply below_drew1 | refine below_set ?_ GE119.out | refine below_set ?_ GE123.out) | exact HB.out)⟩⟩
          · rw [if_neg c11] at H
            have c11b0 : (t124.toList == (rdOf ByteArray.empty t120 0).toList) = false := beq_eq_false_iff_ne.mpr c11
            have c11b1 : (t124.toList != (rdOf ByteArray.empty t120 0).toList) = true := bne_iff_ne.mpr c11
            have H' := Aside0.mk H
            clear H
            try go_wp2
            have n0_ := Aside0.mk (Kd.Q_drew HO_4.out)
            have n1_ := Aside0.mk (blk_drew BK119.out)
            have n2_ := Aside0.mk (blk_drew BK123.out)
            have n3_ := Aside0.mk (below_drew1 HB.out)
            clear HO_4
            clear BK119
            clear BK123
            clear HB
            have HO_4 := n0_
            have BK119 := n1_
            have BK123 := n2_
            have HB := n3_
            clear n0_ n1_ n2_ n3_
            obtain ⟨Ao18, co18, eo18, _⟩ := Kd.Q_slice HO_4.out
            (first | subst eo18 | (injection eo18 with f1_ f2_ f3_; have f4_ := f1_.symm; have f5_ := f3_.symm; clear f1_ f2_ f3_; subst f4_; subst f5_))
            have p125 : 0 ≤ (0 : Int) := (by omega)
            have q125 : 0 < (t120.length : Int) := of_decide_eq_true (by first | (with_reducible assumption) | assumption)
            obtain ⟨ad125, e125, hx125_0⟩ := Kd.at_string (Kd.Q_reads' HO_4.out).2.2 0 p125 q125
            cases e125
            have qi125 : (0 < t120.length) = True := eq_true (by omega)
            (try rw [show ((0 : Int)).toNat = 0 from rfl] at hx125_0)
            (try rw [Addr.add_zero'] at hx125_0)
            replace p125 := eq_true p125
            replace q125 := eq_true q125
            refine start_ (n := 6) (S := fun w' => w'.cell? ad125 = some (.string (rdOf ByteArray.empty t120 0))) (ds := []) #[false, false, false, false, false, false] (by kernel_rfl) rfl rfl (hx125_0) (fun hHeld => ?_)
            generalize wr.drew = w17 at HO_4 BK119 BK123 HB hx125_0 hHeld ⊢
            refine pure_ (i := 0) (N := some 18) (v := ?_) (a' := ?_) #[true, false, false, false, false, false] rfl rfl (by kernel_rfl) (fun _ _ _ h => h) (Or.inl ⟨by rfl, ?_⟩) ?_ ?_
            rotate_left
            · intro w'
              go_simp
              with_reducible rfl
            rotate_left
            · simp only [Act.put, List.setIfInBounds_toArray, List.set_cons_zero, List.set_cons_succ, i64_w, i32_w]
              rfl
            refine pure_ (i := 2) (N := some 20) (v := ?_) (a' := ?_) #[true, false, true, false, false, false] rfl rfl (by kernel_rfl) (fun _ _ _ h => h) (Or.inl ⟨by rfl, ?_⟩) ?_ ?_
            rotate_left
            · intro w'
              go_simp
              with_reducible rfl
            rotate_left
            · simp only [Act.put, List.setIfInBounds_toArray, List.set_cons_zero, List.set_cons_succ, i64_w, i32_w]
              rfl
            refine pure_ (i := 3) (N := some 21) (v := ?_) (a' := ?_) #[true, false, true, true, false, false] rfl rfl (by kernel_rfl) (fun _ _ _ h => h) (Or.inl ⟨by rfl, ?_⟩) ?_ ?_
            rotate_left
            · intro w'
              go_simp
              with_reducible rfl
            rotate_left
            · simp only [Act.put, List.setIfInBounds_toArray, List.set_cons_zero, List.set_cons_succ, i64_w, i32_w]
              rfl
            refine take_ (i := 4) (N := some 22) (v := ?_) (a' := ?_) #[true, false, true, true, true, false] rfl rfl (by kernel_rfl) (fun _ _ _ h => h) (Or.inl ⟨by rfl, ?_⟩) hHeld ?_ ?_
            rotate_left
            · intro w' s0
              go_simp
              with_reducible rfl
            rotate_left
            · simp only [Act.put, List.setIfInBounds_toArray, List.set_cons_zero, List.set_cons_succ, i64_w, i32_w]
              rfl
            refine one_ (i := 1) (N := some 19) #[true, true, true, true, true, false] rfl rfl (by kernel_rfl) (by decide) (fun K hK => ?_)
            refine goes_ Tryd.func57 (by kernel_rfl) rfl #[.int .i64 x6_1] (by rfl) rfl rfl (by (try simp only [List.map_toArray, List.map_cons, List.map_nil]); first | done | rfl | (simp only [List.length_drop, List.length_take]; rfl)) ?_
            with_reducible refine (tidemillref26_word.calls x6_1 t124 _ A9.out).mono ?_
            rintro e w19 ⟨rfl, hb⟩
            have HS0_ := (hb.cell (World.block_lt_of_cell? _ _ (hHeld))).trans (hHeld)
            refine ⟨_, rfl, ?_⟩
            have n0_ := Aside0.mk (Kd.Q_below (by (with_reducible repeat (first | apply Kd.Q_alloc | apply Kd.Q_drewN | apply Kd.Q_drew)); exact HO_4.out) hb)
            have n1_ := Aside0.mk (blk_below (g := gb119) (o := .cells #[.int .i64 0, .int .i64 0, .int .i64 0, .string (⟨#[]⟩ : ByteArray), .slice none 0 0] 46 (0, 0)) (by (with_reducible repeat (first | refine blk_drewN ?_ _ | refine blk_drew ?_ | refine blk_alloc ?_ _)); exact BK119.out) hb)
            have n2_ := Aside0.mk (blk_below (g := gb123) (o := .cells #[.int .i64 x124000_1, .int .i64 0, .int .i64 0, .string (⟨#[]⟩ : ByteArray), .slice none 0 0] 46 (0, 0)) (by (with_reducible repeat (first | refine blk_drewN ?_ _ | refine blk_drew ?_ | refine blk_alloc ?_ _)); exact BK123.out) hb)
            have n3_ := Aside0.mk (below_step (by repeat (first | (with_reducible first | exact HB.out | apply below_alloc | apply pw_below_drewN | apply below_drew1 | refine below_set ?_ GE119.out | refine below_set ?_ GE123.out) | exact HB.out)) hb)
            clear HO_4
            clear BK119
            clear BK123
            clear HB
            have HO_4 := n0_
            have BK119 := n1_
            have BK123 := n2_
            have HB := n3_
            clear n0_ n1_ n2_ n3_
            (try clear hb)
            (try clear hb2)
            (try clear hk)
            (try clear hi)
            refine hK.out _ _ (HS0_) (fun hHeld => ?_)
            clear hK K
            refine norm_ (a' := ?_) ?_ ?_
            rotate_left
            · show Act.put _ (some 19) _ = _
              simp only [Act.put, List.setIfInBounds_toArray, List.set_cons_zero, List.set_cons_succ, i64_w, i32_w]
              rfl
            refine pure_ (i := 5) (N := some 23) (v := ?_) (a' := ?_) #[true, true, true, true, true, true] rfl rfl (by kernel_rfl) (fun _ _ _ h => h) (Or.inl ⟨by rfl, ?_⟩) ?_ ?_
            rotate_left
            · intro w'
              go_simp
              with_reducible rfl
            rotate_left
            · simp only [Act.put, List.setIfInBounds_toArray, List.set_cons_zero, List.set_cons_succ, i64_w, i32_w]
              rfl
            refine done_ (by kernel_rfl) ?_
            try go_wp2
            go_roundg k1
            case measure => have := HK1.out; omega
            case rel => exact ⟨(wrap64 (x6_1 + 1)), (x124000_1), (by first | rfl | (simp; done) | (simp [*]; done)), H', ⟨by have := HK1.out; omega⟩, ⟨by (with_reducible repeat (first | apply Kd.Q_alloc | apply Kd.Q_drewN | apply Kd.Q_drew)); exact HO_4.out⟩, ⟨by (with_reducible repeat (first | refine blk_drewN ?_ _ | refine blk_drew ?_ | refine blk_alloc ?_ _)); exact BK119.out⟩, ⟨by (with_reducible repeat (first | refine blk_drewN ?_ _ | refine blk_drew ?_ | refine blk_alloc ?_ _)); exact BK123.out⟩, ⟨by repeat (first | (with_reducible first | exact HB.out | apply below_alloc | apply pw_below_drewN | apply below_drew1 | refine below_set ?_ GE119.out | refine below_set ?_ GE123.out) | exact HB.out)⟩⟩
        · rw [if_neg c10] at H
          exact absurd H (by simp)
      · rw [if_neg c8] at H
        have c8b0 : decide (x6_1 ≤ 10) = false := decide_eq_false c8
        clear c8
        by_cases c20 : x124000_1 = 0
        · rw [if_pos c20] at H
          have c20b0 : (x124000_1 == 0) = true := beq_iff_eq.mpr c20
          have c20b1 : (x124000_1 != 0) = false := bne_eq_false_iff_eq.mpr c20
          clear c20
          simp only [Option.some.injEq, Prod.mk.injEq] at H
          obtain ⟨rfl, rfl, rfl, rfl, rfl, rfl⟩ := H
          have hnb21 := NB123_119.out
          have hnc21 := NB119_123.out
          have hcz22_0 : wr.cell? ⟨gb123, 0, none⟩ = some (.int .i64 x124000_1) := (blk_cell BK123.out 0).trans rfl
          have hcz22_1 : wr.cell? ⟨gb123, 1, none⟩ = some (.int .i64 0) := (blk_cell BK123.out 1).trans rfl
          have hcz22_2 : wr.cell? ⟨gb123, 2, none⟩ = some (.int .i64 0) := (blk_cell BK123.out 2).trans rfl
          have hcz22_3 : wr.cell? ⟨gb123, 3, none⟩ = some (.string (⟨#[]⟩ : ByteArray)) := (blk_cell BK123.out 3).trans rfl
          have hcz22_4 : wr.cell? ⟨gb123, 4, none⟩ = some (.slice none 0 0) := (blk_cell BK123.out 4).trans rfl
          have hfz22_0 := blk_frozen BK123.out 0
          have hfz22_1 := blk_frozen BK123.out 1
          have hfz22_2 := blk_frozen BK123.out 2
          have hfz22_3 := blk_frozen BK123.out 3
          have hfz22_4 := blk_frozen BK123.out 4
          have hcz23_0 : wr.cell? ⟨gb119, 0, none⟩ = some (.int .i64 0) := (blk_cell BK119.out 0).trans rfl
          have hcz23_1 : wr.cell? ⟨gb119, 1, none⟩ = some (.int .i64 0) := (blk_cell BK119.out 1).trans rfl
          have hcz23_2 : wr.cell? ⟨gb119, 2, none⟩ = some (.int .i64 0) := (blk_cell BK119.out 2).trans rfl
          have hcz23_3 : wr.cell? ⟨gb119, 3, none⟩ = some (.string (⟨#[]⟩ : ByteArray)) := (blk_cell BK119.out 3).trans rfl
          have hcz23_4 : wr.cell? ⟨gb119, 4, none⟩ = some (.slice none 0 0) := (blk_cell BK119.out 4).trans rfl
          have hfz23_0 := blk_frozen BK119.out 0
          have hfz23_1 := blk_frozen BK119.out 1
          have hfz23_2 := blk_frozen BK119.out 2
          have hfz23_3 := blk_frozen BK119.out 3
          have hfz23_4 := blk_frozen BK119.out 4
          go_wp2
          refine bodyPost_ret (results_ct rfl _ _ gb119 46 #[.int .i64 0, .int .i64 0, .int .i64 0, .string (⟨#[]⟩ : ByteArray), .slice none 0 0] (0, 0) _ rfl (by (with_reducible repeat (first | refine blk_drewN ?_ _ | refine blk_drew ?_ | refine blk_alloc ?_ _)); refine blk_put (cs := #[.int .i64 0, .int .i64 0, .int .i64 0, .string (⟨#[]⟩ : ByteArray), .slice none 0 0]) ?_ 4 _ rfl; (with_reducible repeat (first | refine blk_drewN ?_ _ | refine blk_drew ?_ | refine blk_alloc ?_ _)); refine blk_put (cs := #[.int .i64 0, .int .i64 0, .int .i64 0, .string (⟨#[]⟩ : ByteArray), .slice none 0 0]) ?_ 3 _ rfl; (with_reducible repeat (first | refine blk_drewN ?_ _ | refine blk_drew ?_ | refine blk_alloc ?_ _)); refine blk_put (cs := #[.int .i64 0, .int .i64 0, .int .i64 0, .string (⟨#[]⟩ : ByteArray), .slice none 0 0]) ?_ 2 _ rfl; (with_reducible repeat (first | refine blk_drewN ?_ _ | refine blk_drew ?_ | refine blk_alloc ?_ _)); refine blk_put (cs := #[.int .i64 0, .int .i64 0, .int .i64 0, .string (⟨#[]⟩ : ByteArray), .slice none 0 0]) ?_ 1 _ rfl; (with_reducible repeat (first | refine blk_drewN ?_ _ | refine blk_drew ?_ | refine blk_alloc ?_ _)); refine blk_put (cs := #[.int .i64 0, .int .i64 0, .int .i64 0, .string (⟨#[]⟩ : ByteArray), .slice none 0 0]) ?_ 0 _ rfl; (with_reducible repeat (first | refine blk_drewN ?_ _ | refine blk_drew ?_ | refine blk_alloc ?_ _)); exact BK119.out) Tryd.underlying46 rfl (by kernel_rfl)) rfl ?_
          exact ⟨_, by first | rfl | (simp [errW_none, errW_some] <;> rfl) | (simp [*, errW_none, errW_some] <;> first | rfl | exact empty_ne _ | exact ⟨rfl, empty_ne _⟩), by first | exact Kd.R_nil _ _ _ _ _ | exact Kd.N_nil _ _ _ _ _ | exact Kd.V_nil _ _ _ _ _ | exact Kd.Q_nil _ _ _ _ _ | exact Kd.S_nil _ _ _ _ _, by repeat (first | (with_reducible first | exact HB.out | apply below_alloc | apply pw_below_drewN | apply below_drew1 | refine below_set ?_ GE119.out | refine below_set ?_ GE123.out) | exact HB.out)⟩
        · rw [if_neg c20] at H
          have c20b0 : (x124000_1 == 0) = false := beq_eq_false_iff_ne.mpr c20
          have c20b1 : (x124000_1 != 0) = true := bne_iff_ne.mpr c20
          by_cases c24 : 1 ≤ (t120.length : Int)
          · rw [if_pos c24] at H
            have c24b0 := eq_true c24
            have c24b1 : decide (1 ≤ (t120.length : Int)) = true := decide_eq_true c24
            clear c24
            obtain ⟨y126, hy126⟩ : ∃ y_ : List ByteArray, y_ = (t120.drop (1 : Int).toNat) := ⟨_, rfl⟩
            replace H : ((tidemillref26_tellsI.f x124000_1).bind fun t129 => (if t129 = true then (if (y126.length : Int) = 0 then (some (0, 0, 0, (⟨#[]⟩ : ByteArray), ([] : List Int), false)) else (if 0 < (y126.length : Int) then ((tidemillref26_number.f k1 (rdOf ByteArray.empty y126 0)).bind fun bt131 => (if 1 ≤ (y126.length : Int) then (tidemillref26_Act1.j1 k1 (y126.drop (1 : Int).toNat) bt131.2 x124000_1 bt131.1 0 (⟨#[]⟩ : ByteArray)) else (none))) else (none))) else (tidemillref26_Act1.j1 k1 y126 true x124000_1 0 0 (⟨#[]⟩ : ByteArray)))) = some (r1, r2, r3, r4, r5, r6) := by first | (rw [hy126]; with_reducible exact H) | (have H2_ := (Option.bind_some _ _).symm.trans H; rw [hy126]; with_reducible exact H2_) | (have H2_ := (Option.bind_some _ _).symm.trans H; with_reducible exact H2_) | with_reducible exact H | (rw [hy126]; exact H) | exact H
            have Ny126 := Aside0.mk hy126
            clear hy126
            replace H := Option.bind_eq_some_iff.mp H
            obtain ⟨t129, A250, H⟩ := H
            replace H : (if t129 = true then (if (y126.length : Int) = 0 then (some (0, 0, 0, (⟨#[]⟩ : ByteArray), ([] : List Int), false)) else (if 0 < (y126.length : Int) then ((tidemillref26_number.f k1 (rdOf ByteArray.empty y126 0)).bind fun bt131 => (if 1 ≤ (y126.length : Int) then (tidemillref26_Act1.j1 k1 (y126.drop (1 : Int).toNat) bt131.2 x124000_1 bt131.1 0 (⟨#[]⟩ : ByteArray)) else (none))) else (none))) else (tidemillref26_Act1.j1 k1 y126 true x124000_1 0 0 (⟨#[]⟩ : ByteArray))) = some (r1, r2, r3, r4, r5, r6) := H
            have A25 := Aside0.mk A250
            clear A250
            have HC26 := Aside0.mk H
            clear H
            have hnb27 := NB123_119.out
            have hnc27 := NB119_123.out
            have hcz28_0 : wr.cell? ⟨gb123, 0, none⟩ = some (.int .i64 x124000_1) := (blk_cell BK123.out 0).trans rfl
            have hcz28_1 : wr.cell? ⟨gb123, 1, none⟩ = some (.int .i64 0) := (blk_cell BK123.out 1).trans rfl
            have hcz28_2 : wr.cell? ⟨gb123, 2, none⟩ = some (.int .i64 0) := (blk_cell BK123.out 2).trans rfl
            have hcz28_3 : wr.cell? ⟨gb123, 3, none⟩ = some (.string (⟨#[]⟩ : ByteArray)) := (blk_cell BK123.out 3).trans rfl
            have hcz28_4 : wr.cell? ⟨gb123, 4, none⟩ = some (.slice none 0 0) := (blk_cell BK123.out 4).trans rfl
            have hfz28_0 := blk_frozen BK123.out 0
            have hfz28_1 := blk_frozen BK123.out 1
            have hfz28_2 := blk_frozen BK123.out 2
            have hfz28_3 := blk_frozen BK123.out 3
            have hfz28_4 := blk_frozen BK123.out 4
            obtain ⟨Ao29, co29, eo29, _⟩ := Kd.Q_slice HO_4.out
            subst eo29
            have q30 : (1 : Int) ≤ ((t120.length : Int) : Int) := of_decide_eq_true (by first | (with_reducible assumption) | assumption)
            obtain ⟨i030, hi030, _, hsz30, _⟩ := info_parts info9
            have hcut30 := cut_from (P := Tryd.prog) 86 9 .i64 Tryd.underlying86 hi030 1 hsz30 Ao29 t120.length co29 1 (by omega) q30
            have hr30 := Kd.Q_drop (k := (1 : Int).toNat) HO_4.out (by omega)
            obtain ⟨A30, hA30⟩ : ∃ A1, A1 = (if co29 = (1 : Int).toNat then Ao29 else (Ao29 : Option Addr).map (·.add ((1 : Int).toNat * 1))) := ⟨_, rfl⟩
            obtain ⟨c30, hc30⟩ : ∃ c1, c1 = co29 - (1 : Int).toNat := ⟨_, rfl⟩
            have hy30 : y126.length = t120.length - (1 : Int).toNat := (by rw [Ny126.out, List.length_drop])
            rw [← Ny126.out] at hr30
            rw [← hy30, ← hA30, ← hc30] at hcut30
            replace hr30 : Kd.Q Kd.string 9 wr w.heap.size (fun _ => True) (.slice A30 y126.length c30) y126 := (by rw [hA30, hc30, hy30]; exact hr30)
            have HE30 : Aside0 ((Value.slice A30 y126.length c30).ownBlock = (.slice Ao29 t120.length co29 : Value).ownBlock) := ⟨by rw [hA30]; split <;> (cases (Ao29 : Option Addr) <;> rfl)⟩
            clear hy30 hi030 hsz30 HO_4 hA30 hc30
            have HO128 := Aside0.mk hr30
            clear hr30
            replace q30 := eq_true q30
            go_upto_if 34 with (first | ((with_reducible refine gate_callee (f := 58) rfl ?_); refine goesL_ (some 34) rfl rfl Tryd.func58 (by kernel_rfl) rfl #[.int .i64 x124000_1] rfl (by (try simp only [List.map_toArray, List.map_cons, List.map_nil]); first | done | rfl | (simp only [List.length_drop, List.length_take]; rfl)) ?_; (with_reducible refine (tidemillref26_tellsI.calls x124000_1 t129 _ A25.out).mono ?_); rintro e w' ⟨rfl, ⟨nd, rfl⟩⟩; refine ⟨_, rfl, ?_⟩))
            (try simp only [Act.put, List.setIfInBounds_toArray, List.set_cons_zero, List.set_cons_succ])
            go_cut [4, 7] (fun v4 v7 wc => ∃ (kq : Nat) (x4_25 : List ByteArray) (x7_25 : Bool) (x120000_25 : Int) (x120001_25 : Int) (x120002_25 : Int) (x120003_25 : ByteArray) (x124001_25 : Int), v7 = .bool x7_25 ∧ Aside0 (tidemillref26_Act1.j1 kq x4_25 x7_25 x124000_1 x124001_25 0 (⟨#[]⟩ : ByteArray) = some (r1, r2, r3, r4, r5, r6)) ∧ Aside0 (kq ≤ k1) ∧ Aside0 (Kd.Q Kd.string 9 wc w.heap.size (fun _ => True) v4 x4_25) ∧ Aside0 (wc.heap[gb119]? = some (.cells #[.int .i64 x120000_25, .int .i64 x120001_25, .int .i64 x120002_25, .string x120003_25, (.slice none 0 0)] 46 (0, 0))) ∧ Aside0 (wc.heap[gb123]? = some (.cells #[.int .i64 x124000_1, .int .i64 x124001_25, .int .i64 0, .string (⟨#[]⟩ : ByteArray), (.slice none 0 0)] 46 (0, 0))) ∧ Aside0 (Below w.heap.size w wc))
            case first =>
              have H := HC26.out
              clear HC26
              by_cases c31 : t129 = true
              · subst c31
                have H1 : (if (y126.length : Int) = 0 then (some (0, 0, 0, (⟨#[]⟩ : ByteArray), ([] : List Int), false)) else (if 0 < (y126.length : Int) then ((tidemillref26_number.f k1 (rdOf ByteArray.empty y126 0)).bind fun bt131 => (if 1 ≤ (y126.length : Int) then (tidemillref26_Act1.j1 k1 (y126.drop (1 : Int).toNat) bt131.2 x124000_1 bt131.1 0 (⟨#[]⟩ : ByteArray)) else (none))) else (none))) = some (r1, r2, r3, r4, r5, r6) := by rw [if_pos rfl] at H; exact H
                clear H
                have H := H1
                clear H1
                by_cases c32 : (y126.length : Int) = 0
                · rw [if_pos c32] at H
                  have c32b0 : ((y126.length : Int) == 0) = true := beq_iff_eq.mpr c32
                  have c32b1 : ((y126.length : Int) != 0) = false := bne_eq_false_iff_eq.mpr c32
                  clear c32
                  (first | rw [c32b0] | (simp only [i64_w, i32_w]; rw [c32b0]) | skip)
                  simp only [Option.some.injEq, Prod.mk.injEq] at H
                  obtain ⟨rfl, rfl, rfl, rfl, rfl, rfl⟩ := H
                  have hnb33 := NB119_123.out
                  have hnc33 := NB123_119.out
                  have hcz34_0 : wr.cell? ⟨gb119, 0, none⟩ = some (.int .i64 0) := (blk_cell BK119.out 0).trans rfl
                  have hcz34_1 : wr.cell? ⟨gb119, 1, none⟩ = some (.int .i64 0) := (blk_cell BK119.out 1).trans rfl
                  have hcz34_2 : wr.cell? ⟨gb119, 2, none⟩ = some (.int .i64 0) := (blk_cell BK119.out 2).trans rfl
                  have hcz34_3 : wr.cell? ⟨gb119, 3, none⟩ = some (.string (⟨#[]⟩ : ByteArray)) := (blk_cell BK119.out 3).trans rfl
                  have hcz34_4 : wr.cell? ⟨gb119, 4, none⟩ = some (.slice none 0 0) := (blk_cell BK119.out 4).trans rfl
                  have hfz34_0 := blk_frozen BK119.out 0
                  have hfz34_1 := blk_frozen BK119.out 1
                  have hfz34_2 := blk_frozen BK119.out 2
                  have hfz34_3 := blk_frozen BK119.out 3
                  have hfz34_4 := blk_frozen BK119.out 4
                  go_wp2
                  refine bodyPost_ret (results_ct rfl _ _ gb119 46 #[.int .i64 0, .int .i64 0, .int .i64 0, .string (⟨#[]⟩ : ByteArray), .slice none 0 0] (0, 0) _ rfl (by (with_reducible repeat (first | refine blk_drewN ?_ _ | refine blk_drew ?_ | refine blk_alloc ?_ _)); refine blk_put (cs := #[.int .i64 0, .int .i64 0, .int .i64 0, .string (⟨#[]⟩ : ByteArray), .slice none 0 0]) ?_ 4 _ rfl; (with_reducible repeat (first | refine blk_drewN ?_ _ | refine blk_drew ?_ | refine blk_alloc ?_ _)); refine blk_put (cs := #[.int .i64 0, .int .i64 0, .int .i64 0, .string (⟨#[]⟩ : ByteArray), .slice none 0 0]) ?_ 3 _ rfl; (with_reducible repeat (first | refine blk_drewN ?_ _ | refine blk_drew ?_ | refine blk_alloc ?_ _)); refine blk_put (cs := #[.int .i64 0, .int .i64 0, .int .i64 0, .string (⟨#[]⟩ : ByteArray), .slice none 0 0]) ?_ 2 _ rfl; (with_reducible repeat (first | refine blk_drewN ?_ _ | refine blk_drew ?_ | refine blk_alloc ?_ _)); refine blk_put (cs := #[.int .i64 0, .int .i64 0, .int .i64 0, .string (⟨#[]⟩ : ByteArray), .slice none 0 0]) ?_ 1 _ rfl; (with_reducible repeat (first | refine blk_drewN ?_ _ | refine blk_drew ?_ | refine blk_alloc ?_ _)); refine blk_put (cs := #[.int .i64 0, .int .i64 0, .int .i64 0, .string (⟨#[]⟩ : ByteArray), .slice none 0 0]) ?_ 0 _ rfl; (with_reducible repeat (first | refine blk_drewN ?_ _ | refine blk_drew ?_ | refine blk_alloc ?_ _)); exact BK119.out) Tryd.underlying46 rfl (by kernel_rfl)) rfl ?_
                  exact ⟨_, by first | rfl | (simp [errW_none, errW_some] <;> rfl) | (simp [*, errW_none, errW_some] <;> first | rfl | exact empty_ne _ | exact ⟨rfl, empty_ne _⟩), by first | exact Kd.R_nil _ _ _ _ _ | exact Kd.N_nil _ _ _ _ _ | exact Kd.V_nil _ _ _ _ _ | exact Kd.Q_nil _ _ _ _ _ | exact Kd.S_nil _ _ _ _ _, by repeat (first | (with_reducible first | exact HB.out | apply below_alloc | apply pw_below_drewN | apply below_drew1 | refine below_set ?_ GE119.out | refine below_set ?_ GE123.out) | exact HB.out)⟩
                · rw [if_neg c32] at H
                  have c32b0 : ((y126.length : Int) == 0) = false := beq_eq_false_iff_ne.mpr c32
                  have c32b1 : ((y126.length : Int) != 0) = true := bne_iff_ne.mpr c32
                  have c32b2 : ¬ (y126 = []) := fun h_ => c32 (by rw [h_]; rfl)
                  (first | rw [c32b0] | (simp only [i64_w, i32_w]; rw [c32b0]) | skip)
                  by_cases c35 : 0 < (y126.length : Int)
                  · rw [if_pos c35] at H
                    have c35b0 : decide (0 < (y126.length : Int)) = true := decide_eq_true c35
                    have c35b1 : decide (0 < y126.length) = true := decide_eq_true (by omega)
                    clear c35
                    replace H := Option.bind_eq_some_iff.mp H
                    obtain ⟨⟨t131, t132⟩, A360, H⟩ := H
                    replace H : (if 1 ≤ (y126.length : Int) then (tidemillref26_Act1.j1 k1 (y126.drop (1 : Int).toNat) t132 x124000_1 t131 0 (⟨#[]⟩ : ByteArray)) else (none)) = some (r1, r2, r3, r4, r5, r6) := H
                    have A36 := Aside0.mk A360
                    clear A360
                    by_cases c37 : 1 ≤ (y126.length : Int)
                    · rw [if_pos c37] at H
                      have c37b0 := eq_true c37
                      have c37b1 : decide (1 ≤ (y126.length : Int)) = true := decide_eq_true c37
                      clear c37
                      obtain ⟨y133, hy133⟩ : ∃ y_ : List ByteArray, y_ = (y126.drop (1 : Int).toNat) := ⟨_, rfl⟩
                      replace H : (tidemillref26_Act1.j1 k1 y133 t132 x124000_1 t131 0 (⟨#[]⟩ : ByteArray)) = some (r1, r2, r3, r4, r5, r6) := by first | (rw [hy133]; with_reducible exact H) | (have H2_ := (Option.bind_some _ _).symm.trans H; rw [hy133]; with_reducible exact H2_) | (have H2_ := (Option.bind_some _ _).symm.trans H; with_reducible exact H2_) | with_reducible exact H | (rw [hy133]; exact H) | exact H
                      have Ny133 := Aside0.mk hy133
                      clear hy133
                      have H' := Aside0.mk H
                      clear H
                      have p130 : 0 ≤ (0 : Int) := (by omega)
                      have q130 : 0 < (y126.length : Int) := of_decide_eq_true (by first | (with_reducible assumption) | assumption)
                      obtain ⟨ad130, e130, hx130_0⟩ := Kd.at_string (Kd.Q_reads' HO128.out).2.2 0 p130 q130
                      cases e130
                      have qi130 : (0 < y126.length) = True := eq_true (by omega)
                      (try rw [show ((0 : Int)).toNat = 0 from rfl] at hx130_0)
                      (try rw [Addr.add_zero'] at hx130_0)
                      replace p130 := eq_true p130
                      replace q130 := eq_true q130
                      go_wp2_with (first | ((with_reducible refine gate_callee (f := 59) rfl ?_); refine goesL_ (some 43) rfl rfl Tryd.func59 (by kernel_rfl) rfl #[.string (rdOf ByteArray.empty y126 0)] rfl (by (try simp only [List.map_toArray, List.map_cons, List.map_nil]); first | done | rfl | (simp only [List.length_drop, List.length_take]; rfl)) ?_; (with_reducible refine (tidemillref26_number.calls k1 (rdOf ByteArray.empty y126 0) t131 t132 _ A36.out).mono ?_); rintro e w' ⟨rfl, ⟨nd, rfl⟩⟩; refine ⟨_, rfl, ?_⟩; (first | (generalize hq_ : World.drewN (World.drewN wr _) nd = wr; have n0_ : Aside0 (Kd.Q Kd.string 9 wr w.heap.size (fun _ => True) (.slice (some ad130) y126.length c30) y126) := ⟨by rw [← hq_]; exact (by (with_reducible repeat (first | apply Kd.Q_alloc | apply Kd.Q_drewN | apply Kd.Q_drew)); exact HO128.out)⟩; have n1_ : Aside0 (wr.heap[gb119]? = some (.cells #[.int .i64 0, .int .i64 0, .int .i64 0, .string (⟨#[]⟩ : ByteArray), .slice none 0 0] 46 (0, 0))) := ⟨by rw [← hq_]; exact (by (with_reducible repeat (first | refine blk_drewN ?_ _ | refine blk_drew ?_ | refine blk_alloc ?_ _)); exact BK119.out)⟩; have n2_ : Aside0 (wr.heap[gb123]? = some (.cells #[.int .i64 x124000_1, .int .i64 0, .int .i64 0, .string (⟨#[]⟩ : ByteArray), .slice none 0 0] 46 (0, 0))) := ⟨by rw [← hq_]; exact (by (with_reducible repeat (first | refine blk_drewN ?_ _ | refine blk_drew ?_ | refine blk_alloc ?_ _)); exact BK123.out)⟩; have n3_ : Aside0 (Below w.heap.size w wr) := ⟨by rw [← hq_]; exact (by repeat (first | (with_reducible first | exact HB.out | apply below_alloc | apply pw_below_drewN | apply below_drew1 | refine below_set ?_ GE119.out | refine below_set ?_ GE123.out) | exact HB.out))⟩; clear HO128 BK119 BK123 HB hq_; have HO128 := n0_; have BK119 := n1_; have BK123 := n2_; have HB := n3_; clear n0_ n1_ n2_ n3_) | (rw [drewN_self wr]; generalize hq_ : World.drewN wr _ = wr; have n0_ : Aside0 (Kd.Q Kd.string 9 wr w.heap.size (fun _ => True) (.slice (some ad130) y126.length c30) y126) := ⟨by rw [← hq_]; exact (by (with_reducible repeat (first | apply Kd.Q_alloc | apply Kd.Q_drewN | apply Kd.Q_drew)); exact HO128.out)⟩; have n1_ : Aside0 (wr.heap[gb119]? = some (.cells #[.int .i64 0, .int .i64 0, .int .i64 0, .string (⟨#[]⟩ : ByteArray), .slice none 0 0] 46 (0, 0))) := ⟨by rw [← hq_]; exact (by (with_reducible repeat (first | refine blk_drewN ?_ _ | refine blk_drew ?_ | refine blk_alloc ?_ _)); exact BK119.out)⟩; have n2_ : Aside0 (wr.heap[gb123]? = some (.cells #[.int .i64 x124000_1, .int .i64 0, .int .i64 0, .string (⟨#[]⟩ : ByteArray), .slice none 0 0] 46 (0, 0))) := ⟨by rw [← hq_]; exact (by (with_reducible repeat (first | refine blk_drewN ?_ _ | refine blk_drew ?_ | refine blk_alloc ?_ _)); exact BK123.out)⟩; have n3_ : Aside0 (Below w.heap.size w wr) := ⟨by rw [← hq_]; exact (by repeat (first | (with_reducible first | exact HB.out | apply below_alloc | apply pw_below_drewN | apply below_drew1 | refine below_set ?_ GE119.out | refine below_set ?_ GE123.out) | exact HB.out))⟩; clear HO128 BK119 BK123 HB hq_; have HO128 := n0_; have BK119 := n1_; have BK123 := n2_; have HB := n3_; clear n0_ n1_ n2_ n3_) | skip); have hnb38 := NB123_119.out; have hnc38 := NB119_123.out; have hcz39_0 : wr.cell? ⟨gb123, 0, none⟩ = some (.int .i64 x124000_1) := (blk_cell BK123.out 0).trans rfl; have hcz39_1 : wr.cell? ⟨gb123, 1, none⟩ = some (.int .i64 0) := (blk_cell BK123.out 1).trans rfl; have hcz39_2 : wr.cell? ⟨gb123, 2, none⟩ = some (.int .i64 0) := (blk_cell BK123.out 2).trans rfl; have hcz39_3 : wr.cell? ⟨gb123, 3, none⟩ = some (.string (⟨#[]⟩ : ByteArray)) := (blk_cell BK123.out 3).trans rfl; have hcz39_4 : wr.cell? ⟨gb123, 4, none⟩ = some (.slice none 0 0) := (blk_cell BK123.out 4).trans rfl; have hfz39_0 := blk_frozen BK123.out 0; have hfz39_1 := blk_frozen BK123.out 1; have hfz39_2 := blk_frozen BK123.out 2; have hfz39_3 := blk_frozen BK123.out 3; have hfz39_4 := blk_frozen BK123.out 4) | ((with_reducible refine gate_store (t := 3) (p := 46) rfl ?_); refine store_event (t := 3) (p := 46) (v := ?vo_w40) (w1 := (wr.setCell ⟨gb123, 1, none⟩ (.int .i64 t131))) ?hg ?ho ?hn ?hr ?_; (case ho => rfl); (case hg => rfl); (case hn => rfl); (case hr => first | (go_simp; done) | (go_simp; rfl)); intro w40 hw; have n0_ : Aside0 (Kd.Q Kd.string 9 w40 w.heap.size (fun _ => True) (.slice (some ad130) y126.length c30) y126) := ⟨(by rw [hw]; exact (by (with_reducible repeat (first | apply Kd.Q_alloc | apply Kd.Q_drewN | apply Kd.Q_drew)); exact Kd.Q_mono (Kd.Q_far (p := ⟨gb123, 1, none⟩) (Kd.Q_types HO128.out BK123.out (by decide)) (fun _ hk => hk.2) (.int .i64 t131)) (fun _ hk => trivial)))⟩; have n1_ : Aside0 (w40.heap[gb119]? = some (.cells #[.int .i64 0, .int .i64 0, .int .i64 0, .string (⟨#[]⟩ : ByteArray), .slice none 0 0] 46 (0, 0))) := ⟨(by rw [hw]; exact (by (with_reducible repeat (first | refine blk_drewN ?_ _ | refine blk_drew ?_ | refine blk_alloc ?_ _)); refine blk_far ?_ NB119_123.out _; (with_reducible repeat (first | refine blk_drewN ?_ _ | refine blk_drew ?_ | refine blk_alloc ?_ _)); exact BK119.out))⟩; have n2_ : Aside0 (w40.heap[gb123]? = some (.cells #[.int .i64 x124000_1, .int .i64 t131, .int .i64 0, .string (⟨#[]⟩ : ByteArray), .slice none 0 0] 46 (0, 0))) := ⟨(by rw [hw]; exact (by (with_reducible repeat (first | refine blk_drewN ?_ _ | refine blk_drew ?_ | refine blk_alloc ?_ _)); refine blk_put (cs := #[.int .i64 x124000_1, .int .i64 0, .int .i64 0, .string (⟨#[]⟩ : ByteArray), .slice none 0 0]) ?_ 1 _ rfl; (with_reducible repeat (first | refine blk_drewN ?_ _ | refine blk_drew ?_ | refine blk_alloc ?_ _)); exact BK123.out))⟩; have n3_ : Aside0 (Below w.heap.size w w40) := ⟨(by rw [hw]; exact (by repeat (first | (with_reducible first | exact HB.out | apply below_alloc | apply pw_below_drewN | apply below_drew1 | refine below_set ?_ GE119.out | refine below_set ?_ GE123.out) | exact HB.out)))⟩; clear hw; clear HO128; clear BK119; clear BK123; clear HB; have HO128 := n0_; have BK119 := n1_; have BK123 := n2_; have HB := n3_; clear n0_ n1_ n2_ n3_; have q41 : (1 : Int) ≤ ((y126.length : Int) : Int) := of_decide_eq_true (by first | (with_reducible assumption) | assumption); obtain ⟨i041, hi041, _, hsz41, _⟩ := info_parts info9; have hcut41 := cut_from (P := Tryd.prog) 86 9 .i64 Tryd.underlying86 hi041 1 hsz41 (some ad130) y126.length c30 1 (by omega) q41; have hr41 := Kd.Q_drop (k := (1 : Int).toNat) HO128.out (by omega); obtain ⟨A41, hA41⟩ : ∃ A1, A1 = (if c30 = (1 : Int).toNat then (some ad130) else ((some ad130) : Option Addr).map (·.add ((1 : Int).toNat * 1))) := ⟨_, rfl⟩; obtain ⟨c41, hc41⟩ : ∃ c1, c1 = c30 - (1 : Int).toNat := ⟨_, rfl⟩; have hy41 : y133.length = y126.length - (1 : Int).toNat := (by rw [Ny133.out, List.length_drop]); rw [← Ny133.out] at hr41; rw [← hy41, ← hA41, ← hc41] at hcut41; replace hr41 : Kd.Q Kd.string 9 w40 w.heap.size (fun _ => True) (.slice A41 y133.length c41) y133 := (by rw [hA41, hc41, hy41]; exact hr41); have HE41 : Aside0 ((Value.slice A41 y133.length c41).ownBlock = (.slice (some ad130) y126.length c30 : Value).ownBlock) := ⟨by rw [hA41]; split <;> (cases ((some ad130) : Option Addr) <;> rfl)⟩; clear hy41 hi041 hsz41 HO128 hA41 hc41; have HO135 := Aside0.mk hr41; clear hr41; replace q41 := eq_true q41))
                      go_meet
                      case rel => exact ⟨_, (y133), (t132), (0), (0), (0), ((⟨#[]⟩ : ByteArray)), (t131), (by first | rfl | (simp; done) | (simp [*]; done)), H', ⟨by have := HK1.out; first | omega | exact Nat.le_refl _⟩, ⟨by (with_reducible repeat (first | apply Kd.Q_alloc | apply Kd.Q_drewN | apply Kd.Q_drew)); exact HO135.out⟩, ⟨by (with_reducible repeat (first | refine blk_drewN ?_ _ | refine blk_drew ?_ | refine blk_alloc ?_ _)); exact BK119.out⟩, ⟨by (with_reducible repeat (first | refine blk_drewN ?_ _ | refine blk_drew ?_ | refine blk_alloc ?_ _)); exact BK123.out⟩, ⟨by repeat (first | (with_reducible first | exact HB.out | apply below_alloc | apply pw_below_drewN | apply below_drew1 | refine below_set ?_ GE119.out | refine below_set ?_ GE123.out) | exact HB.out)⟩⟩
                    · rw [if_neg c37] at H
                      exact absurd H (by simp)
                  · rw [if_neg c35] at H
                    exact absurd H (by simp)
              · replace c31 := Bool.eq_false_iff.mpr c31
                subst c31
                have H1 : (tidemillref26_Act1.j1 k1 y126 true x124000_1 0 0 (⟨#[]⟩ : ByteArray)) = some (r1, r2, r3, r4, r5, r6) := by rw [if_neg (show ¬ (false = true) by decide)] at H; exact H
                clear H
                have H := H1
                clear H1
                have H' := Aside0.mk H
                clear H
                go_wp2
                go_meet
                case rel => exact ⟨_, (y126), (true), (0), (0), (0), ((⟨#[]⟩ : ByteArray)), (0), (by first | rfl | (simp; done) | (simp [*]; done)), H', ⟨by have := HK1.out; first | omega | exact Nat.le_refl _⟩, ⟨by (with_reducible repeat (first | apply Kd.Q_alloc | apply Kd.Q_drewN | apply Kd.Q_drew)); exact HO128.out⟩, ⟨by (with_reducible repeat (first | refine blk_drewN ?_ _ | refine blk_drew ?_ | refine blk_alloc ?_ _)); exact BK119.out⟩, ⟨by (with_reducible repeat (first | refine blk_drewN ?_ _ | refine blk_drew ?_ | refine blk_alloc ?_ _)); exact BK123.out⟩, ⟨by repeat (first | (with_reducible first | exact HB.out | apply below_alloc | apply pw_below_drewN | apply below_drew1 | refine below_set ?_ GE119.out | refine below_set ?_ GE123.out) | exact HB.out)⟩⟩
            case rest =>
              clear HC26
              try clear c1
              try clear p1
              try clear q1
              try clear hx1
              try clear qi1
              try clear c2
              try clear p2
              try clear c3
              try clear q3
              try clear c4
              try clear q4
              try clear c5
              try clear c6
              try clear p6
              try clear c8
              try clear c8b0
              try clear c10
              try clear c10b0
              try clear c10b1
              try clear c11
              try clear c11b0
              try clear c11b1
              try clear p12
              try clear q12
              try clear hx12
              try clear qi12
              try clear p13
              try clear q13
              try clear hx13
              try clear qi13
              try clear c15
              try clear c20
              try clear c20b0
              try clear c20b1
              try clear c21
              try clear c24
              try clear c24b0
              try clear c24b1
              try clear c27
              try clear c28
              try clear c30
              try clear q30
              try clear c31
              try clear c32
              try clear c32b0
              try clear c32b1
              try clear c32b2
              try clear c33
              try clear c35
              try clear c35b0
              try clear c35b1
              try clear c37
              try clear c37b0
              try clear c37b1
              try clear c38
              try clear c41
              try clear q41
              try clear hcz16_0
              try clear hcz16_1
              try clear hcz16_2
              try clear hcz16_3
              try clear hcz16_4
              try clear hcz22_0
              try clear hcz22_1
              try clear hcz22_2
              try clear hcz22_3
              try clear hcz22_4
              try clear hcz23_0
              try clear hcz23_1
              try clear hcz23_2
              try clear hcz23_3
              try clear hcz23_4
              try clear hcz28_0
              try clear hcz28_1
              try clear hcz28_2
              try clear hcz28_3
              try clear hcz28_4
              try clear hcz34_0
              try clear hcz34_1
              try clear hcz34_2
              try clear hcz34_3
              try clear hcz34_4
              try clear hcz39_0
              try clear hcz39_1
              try clear hcz39_2
              try clear hcz39_3
              try clear hcz39_4
              try clear hcz7_0
              try clear hcz7_1
              try clear hcz7_2
              try clear hcz7_3
              try clear hcz7_4
              try clear hfz16_0
              try clear hfz16_1
              try clear hfz16_2
              try clear hfz16_3
              try clear hfz16_4
              try clear hfz22_0
              try clear hfz22_1
              try clear hfz22_2
              try clear hfz22_3
              try clear hfz22_4
              try clear hfz23_0
              try clear hfz23_1
              try clear hfz23_2
              try clear hfz23_3
              try clear hfz23_4
              try clear hfz28_0
              try clear hfz28_1
              try clear hfz28_2
              try clear hfz28_3
              try clear hfz28_4
              try clear hfz34_0
              try clear hfz34_1
              try clear hfz34_2
              try clear hfz34_3
              try clear hfz34_4
              try clear hfz39_0
              try clear hfz39_1
              try clear hfz39_2
              try clear hfz39_3
              try clear hfz39_4
              try clear hfz7_0
              try clear hfz7_1
              try clear hfz7_2
              try clear hfz7_3
              try clear hfz7_4
              try clear hx125_0
              try clear hx130_0
              try clear p125
              try clear p130
              try clear p2
              try clear q125
              try clear q130
              try clear q30
              try clear q41
              obtain ⟨kq, x4_25, x7_25, x120000_25, x120001_25, x120002_25, x120003_25, x124001_25, rfl, HA, HJ25, HO_4, BK119, BK123, HB⟩ := hcut
              cases kq with
              | zero => exact absurd HA.out (by simp [tidemillref26_Act1.j1])
              | succ kj25 =>
                have H := HA.out
                clear HA
                simp only [tidemillref26_Act1.j1] at H
                have HC42 := Aside0.mk H
                clear H
                go_upto_region 17 with (fail)
                go_cut [54] (fun v54 wc => ∃ (kq : Nat) (x54_41 : Bool), v54 = .bool x54_41 ∧ Aside0 (tidemillref26_Act1.j2 kq x4_25 x7_25 x54_41 x124000_1 x124001_25 0 (⟨#[]⟩ : ByteArray) = some (r1, r2, r3, r4, r5, r6)) ∧ Aside0 (kq ≤ kj25) ∧ Aside0 (Kd.Q Kd.string 9 wc w.heap.size (fun _ => True) u4 x4_25) ∧ Aside0 (wc.heap[gb119]? = some (.cells #[.int .i64 x120000_25, .int .i64 x120001_25, .int .i64 x120002_25, .string x120003_25, (.slice none 0 0)] 46 (0, 0))) ∧ Aside0 (wc.heap[gb123]? = some (.cells #[.int .i64 x124000_1, .int .i64 x124001_25, .int .i64 0, .string (⟨#[]⟩ : ByteArray), (.slice none 0 0)] 46 (0, 0))) ∧ Aside0 (Below w.heap.size w wc))
                case first =>
                  have H := HC42.out
                  clear HC42
                  by_cases c43 : x7_25 = true
                  · subst c43
                    have H1 : ((tidemillref26_tellsN.f x124000_1).bind fun t136 => (tidemillref26_Act1.j2 kj25 x4_25 true t136 x124000_1 x124001_25 0 (⟨#[]⟩ : ByteArray))) = some (r1, r2, r3, r4, r5, r6) := by rw [if_pos rfl] at H; exact H
                    clear H
                    have H := H1
                    clear H1
                    replace H := Option.bind_eq_some_iff.mp H
                    obtain ⟨t136, A440, H⟩ := H
                    replace H : (tidemillref26_Act1.j2 kj25 x4_25 true t136 x124000_1 x124001_25 0 (⟨#[]⟩ : ByteArray)) = some (r1, r2, r3, r4, r5, r6) := H
                    have A44 := Aside0.mk A440
                    clear A440
                    have H' := Aside0.mk H
                    clear H
                    have hnb45 := NB123_119.out
                    have hnc45 := NB119_123.out
                    have hcz46_0 : wc.cell? ⟨gb123, 0, none⟩ = some (.int .i64 x124000_1) := (blk_cell BK123.out 0).trans rfl
                    have hcz46_1 : wc.cell? ⟨gb123, 1, none⟩ = some (.int .i64 x124001_25) := (blk_cell BK123.out 1).trans rfl
                    have hcz46_2 : wc.cell? ⟨gb123, 2, none⟩ = some (.int .i64 0) := (blk_cell BK123.out 2).trans rfl
                    have hcz46_3 : wc.cell? ⟨gb123, 3, none⟩ = some (.string (⟨#[]⟩ : ByteArray)) := (blk_cell BK123.out 3).trans rfl
                    have hcz46_4 : wc.cell? ⟨gb123, 4, none⟩ = some (.slice none 0 0) := (blk_cell BK123.out 4).trans rfl
                    have hfz46_0 := blk_frozen BK123.out 0
                    have hfz46_1 := blk_frozen BK123.out 1
                    have hfz46_2 := blk_frozen BK123.out 2
                    have hfz46_3 := blk_frozen BK123.out 3
                    have hfz46_4 := blk_frozen BK123.out 4
                    go_wp2_with (first | (go_at_call 60; (with_reducible refine (tidemillref26_tellsN.calls x124000_1 t136 _ A44.out).mono ?_); rintro e w' ⟨rfl, ⟨nd, rfl⟩⟩))
                    go_meet
                    case rel => exact ⟨_, (t136), (by first | rfl | (simp; done) | (simp [*]; done)), H', ⟨by have := HK1.out; have := HJ25.out; first | omega | exact Nat.le_refl _⟩, ⟨by (with_reducible repeat (first | apply Kd.Q_alloc | apply Kd.Q_drewN | apply Kd.Q_drew)); exact HO_4.out⟩, ⟨by (with_reducible repeat (first | refine blk_drewN ?_ _ | refine blk_drew ?_ | refine blk_alloc ?_ _)); exact BK119.out⟩, ⟨by (with_reducible repeat (first | refine blk_drewN ?_ _ | refine blk_drew ?_ | refine blk_alloc ?_ _)); exact BK123.out⟩, ⟨by repeat (first | (with_reducible first | exact HB.out | apply below_alloc | apply pw_below_drewN | apply below_drew1 | refine below_set ?_ GE119.out | refine below_set ?_ GE123.out) | exact HB.out)⟩⟩
                  · replace c43 := Bool.eq_false_iff.mpr c43
                    subst c43
                    have H1 : (tidemillref26_Act1.j2 kj25 x4_25 false false x124000_1 x124001_25 0 (⟨#[]⟩ : ByteArray)) = some (r1, r2, r3, r4, r5, r6) := by rw [if_neg (show ¬ (false = true) by decide)] at H; exact H
                    clear H
                    have H := H1
                    clear H1
                    have H' := Aside0.mk H
                    clear H
                    go_wp2
                    go_meet
                    case rel => exact ⟨_, (false), (by first | rfl | (simp; done) | (simp [*]; done)), H', ⟨by have := HK1.out; have := HJ25.out; first | omega | exact Nat.le_refl _⟩, ⟨by (with_reducible repeat (first | apply Kd.Q_alloc | apply Kd.Q_drewN | apply Kd.Q_drew)); exact HO_4.out⟩, ⟨by (with_reducible repeat (first | refine blk_drewN ?_ _ | refine blk_drew ?_ | refine blk_alloc ?_ _)); exact BK119.out⟩, ⟨by (with_reducible repeat (first | refine blk_drewN ?_ _ | refine blk_drew ?_ | refine blk_alloc ?_ _)); exact BK123.out⟩, ⟨by repeat (first | (with_reducible first | exact HB.out | apply below_alloc | apply pw_below_drewN | apply below_drew1 | refine below_set ?_ GE119.out | refine below_set ?_ GE123.out) | exact HB.out)⟩⟩
                case rest =>
                  clear HC42
                  try clear c1
                  try clear p1
                  try clear q1
                  try clear hx1
                  try clear qi1
                  try clear c2
                  try clear p2
                  try clear c3
                  try clear q3
                  try clear c4
                  try clear q4
                  try clear c5
                  try clear c6
                  try clear p6
                  try clear c8
                  try clear c8b0
                  try clear c10
                  try clear c10b0
                  try clear c10b1
                  try clear c11
                  try clear c11b0
                  try clear c11b1
                  try clear p12
                  try clear q12
                  try clear hx12
                  try clear qi12
                  try clear p13
                  try clear q13
                  try clear hx13
                  try clear qi13
                  try clear c15
                  try clear c20
                  try clear c20b0
                  try clear c20b1
                  try clear c21
                  try clear c24
                  try clear c24b0
                  try clear c24b1
                  try clear c27
                  try clear c28
                  try clear c30
                  try clear q30
                  try clear c31
                  try clear c32
                  try clear c32b0
                  try clear c32b1
                  try clear c32b2
                  try clear c33
                  try clear c35
                  try clear c35b0
                  try clear c35b1
                  try clear c37
                  try clear c37b0
                  try clear c37b1
                  try clear c38
                  try clear c41
                  try clear q41
                  try clear c43
                  try clear c45
                  try clear hcz16_0
                  try clear hcz16_1
                  try clear hcz16_2
                  try clear hcz16_3
                  try clear hcz16_4
                  try clear hcz22_0
                  try clear hcz22_1
                  try clear hcz22_2
                  try clear hcz22_3
                  try clear hcz22_4
                  try clear hcz23_0
                  try clear hcz23_1
                  try clear hcz23_2
                  try clear hcz23_3
                  try clear hcz23_4
                  try clear hcz28_0
                  try clear hcz28_1
                  try clear hcz28_2
                  try clear hcz28_3
                  try clear hcz28_4
                  try clear hcz34_0
                  try clear hcz34_1
                  try clear hcz34_2
                  try clear hcz34_3
                  try clear hcz34_4
                  try clear hcz39_0
                  try clear hcz39_1
                  try clear hcz39_2
                  try clear hcz39_3
                  try clear hcz39_4
                  try clear hcz46_0
                  try clear hcz46_1
                  try clear hcz46_2
                  try clear hcz46_3
                  try clear hcz46_4
                  try clear hcz7_0
                  try clear hcz7_1
                  try clear hcz7_2
                  try clear hcz7_3
                  try clear hcz7_4
                  try clear hfz16_0
                  try clear hfz16_1
                  try clear hfz16_2
                  try clear hfz16_3
                  try clear hfz16_4
                  try clear hfz22_0
                  try clear hfz22_1
                  try clear hfz22_2
                  try clear hfz22_3
                  try clear hfz22_4
                  try clear hfz23_0
                  try clear hfz23_1
                  try clear hfz23_2
                  try clear hfz23_3
                  try clear hfz23_4
                  try clear hfz28_0
                  try clear hfz28_1
                  try clear hfz28_2
                  try clear hfz28_3
                  try clear hfz28_4
                  try clear hfz34_0
                  try clear hfz34_1
                  try clear hfz34_2
                  try clear hfz34_3
                  try clear hfz34_4
                  try clear hfz39_0
                  try clear hfz39_1
                  try clear hfz39_2
                  try clear hfz39_3
                  try clear hfz39_4
                  try clear hfz46_0
                  try clear hfz46_1
                  try clear hfz46_2
                  try clear hfz46_3
                  try clear hfz46_4
                  try clear hfz7_0
                  try clear hfz7_1
                  try clear hfz7_2
                  try clear hfz7_3
                  try clear hfz7_4
                  try clear hx125_0
                  try clear hx130_0
                  try clear p1
                  try clear p12
                  try clear p125
                  try clear p13
                  try clear p130
                  try clear p2
                  try clear p6
                  try clear q1
                  try clear q12
                  try clear q125
                  try clear q13
                  try clear q130
                  try clear q3
                  try clear q30
                  try clear q4
                  try clear q41
                  obtain ⟨kq, x54_41, rfl, HA, HJ41, HO_4, BK119, BK123, HB⟩ := hcut
                  cases kq with
                  | zero => exact absurd HA.out (by simp [tidemillref26_Act1.j2])
                  | succ kj41 =>
                    have H := HA.out
                    clear HA
                    simp only [tidemillref26_Act1.j2] at H
                    have HC47 := Aside0.mk H
                    clear H
                    go_upto_if 54 with (fail)
                    go_cut [4, 7] (fun v4 v7 wc => ∃ (kq : Nat) (x4_46 : List ByteArray) (x7_46 : Bool) (x120000_46 : Int) (x120001_46 : Int) (x120002_46 : Int) (x120003_46 : ByteArray) (x124002_46 : Int), v7 = .bool x7_46 ∧ Aside0 (tidemillref26_Act1.j3 kq x4_46 x7_46 x124000_1 x124001_25 x124002_46 (⟨#[]⟩ : ByteArray) = some (r1, r2, r3, r4, r5, r6)) ∧ Aside0 (kq ≤ kj41) ∧ Aside0 (Kd.Q Kd.string 9 wc w.heap.size (fun _ => True) v4 x4_46) ∧ Aside0 (wc.heap[gb119]? = some (.cells #[.int .i64 x120000_46, .int .i64 x120001_46, .int .i64 x120002_46, .string x120003_46, (.slice none 0 0)] 46 (0, 0))) ∧ Aside0 (wc.heap[gb123]? = some (.cells #[.int .i64 x124000_1, .int .i64 x124001_25, .int .i64 x124002_46, .string (⟨#[]⟩ : ByteArray), (.slice none 0 0)] 46 (0, 0))) ∧ Aside0 (Below w.heap.size w wc))
                    case first =>
                      have H := HC47.out
                      clear HC47
                      by_cases c48 : x54_41 = true
                      · subst c48
                        have H1 : (if (x4_25.length : Int) = 0 then (some (0, 0, 0, (⟨#[]⟩ : ByteArray), ([] : List Int), false)) else (if 0 < (x4_25.length : Int) then ((tidemillref26_number.f kj41 (rdOf ByteArray.empty x4_25 0)).bind fun bt138 => (if 1 ≤ (x4_25.length : Int) then (tidemillref26_Act1.j3 kj41 (x4_25.drop (1 : Int).toNat) bt138.2 x124000_1 x124001_25 bt138.1 (⟨#[]⟩ : ByteArray)) else (none))) else (none))) = some (r1, r2, r3, r4, r5, r6) := by rw [if_pos rfl] at H; exact H
                        clear H
                        have H := H1
                        clear H1
                        by_cases c49 : (x4_25.length : Int) = 0
                        · rw [if_pos c49] at H
                          have c49b0 : ((x4_25.length : Int) == 0) = true := beq_iff_eq.mpr c49
                          have c49b1 : ((x4_25.length : Int) != 0) = false := bne_eq_false_iff_eq.mpr c49
                          clear c49
                          (first | rw [c49b0] | (simp only [i64_w, i32_w]; rw [c49b0]) | skip)
                          simp only [Option.some.injEq, Prod.mk.injEq] at H
                          obtain ⟨rfl, rfl, rfl, rfl, rfl, rfl⟩ := H
                          obtain ⟨Ao50, co50, eo50, _⟩ := Kd.Q_slice HO_4.out
                          subst eo50
                          have hnb51 := NB119_123.out
                          have hnc51 := NB123_119.out
                          have hcz52_0 : wc.cell? ⟨gb119, 0, none⟩ = some (.int .i64 x120000_25) := (blk_cell BK119.out 0).trans rfl
                          have hcz52_1 : wc.cell? ⟨gb119, 1, none⟩ = some (.int .i64 x120001_25) := (blk_cell BK119.out 1).trans rfl
                          have hcz52_2 : wc.cell? ⟨gb119, 2, none⟩ = some (.int .i64 x120002_25) := (blk_cell BK119.out 2).trans rfl
                          have hcz52_3 : wc.cell? ⟨gb119, 3, none⟩ = some (.string x120003_25) := (blk_cell BK119.out 3).trans rfl
                          have hcz52_4 : wc.cell? ⟨gb119, 4, none⟩ = some (.slice none 0 0) := (blk_cell BK119.out 4).trans rfl
                          have hfz52_0 := blk_frozen BK119.out 0
                          have hfz52_1 := blk_frozen BK119.out 1
                          have hfz52_2 := blk_frozen BK119.out 2
                          have hfz52_3 := blk_frozen BK119.out 3
                          have hfz52_4 := blk_frozen BK119.out 4
                          go_wp2
                          refine bodyPost_ret (results_ct rfl _ _ gb119 46 #[.int .i64 0, .int .i64 0, .int .i64 0, .string (⟨#[]⟩ : ByteArray), .slice none 0 0] (0, 0) _ rfl (by (with_reducible repeat (first | refine blk_drewN ?_ _ | refine blk_drew ?_ | refine blk_alloc ?_ _)); refine blk_put (cs := #[.int .i64 0, .int .i64 0, .int .i64 0, .string (⟨#[]⟩ : ByteArray), .slice none 0 0]) ?_ 4 _ rfl; (with_reducible repeat (first | refine blk_drewN ?_ _ | refine blk_drew ?_ | refine blk_alloc ?_ _)); refine blk_put (cs := #[.int .i64 0, .int .i64 0, .int .i64 0, .string x120003_25, .slice none 0 0]) ?_ 3 _ rfl; (with_reducible repeat (first | refine blk_drewN ?_ _ | refine blk_drew ?_ | refine blk_alloc ?_ _)); refine blk_put (cs := #[.int .i64 0, .int .i64 0, .int .i64 x120002_25, .string x120003_25, .slice none 0 0]) ?_ 2 _ rfl; (with_reducible repeat (first | refine blk_drewN ?_ _ | refine blk_drew ?_ | refine blk_alloc ?_ _)); refine blk_put (cs := #[.int .i64 0, .int .i64 x120001_25, .int .i64 x120002_25, .string x120003_25, .slice none 0 0]) ?_ 1 _ rfl; (with_reducible repeat (first | refine blk_drewN ?_ _ | refine blk_drew ?_ | refine blk_alloc ?_ _)); refine blk_put (cs := #[.int .i64 x120000_25, .int .i64 x120001_25, .int .i64 x120002_25, .string x120003_25, .slice none 0 0]) ?_ 0 _ rfl; (with_reducible repeat (first | refine blk_drewN ?_ _ | refine blk_drew ?_ | refine blk_alloc ?_ _)); exact BK119.out) Tryd.underlying46 rfl (by kernel_rfl)) rfl ?_
                          exact ⟨_, by first | rfl | (simp [errW_none, errW_some] <;> rfl) | (simp [*, errW_none, errW_some] <;> first | rfl | exact empty_ne _ | exact ⟨rfl, empty_ne _⟩), by first | exact Kd.R_nil _ _ _ _ _ | exact Kd.N_nil _ _ _ _ _ | exact Kd.V_nil _ _ _ _ _ | exact Kd.Q_nil _ _ _ _ _ | exact Kd.S_nil _ _ _ _ _, by repeat (first | (with_reducible first | exact HB.out | apply below_alloc | apply pw_below_drewN | apply below_drew1 | refine below_set ?_ GE119.out | refine below_set ?_ GE123.out) | exact HB.out)⟩
                        · rw [if_neg c49] at H
                          have c49b0 : ((x4_25.length : Int) == 0) = false := beq_eq_false_iff_ne.mpr c49
                          have c49b1 : ((x4_25.length : Int) != 0) = true := bne_iff_ne.mpr c49
                          have c49b2 : ¬ (x4_25 = []) := fun h_ => c49 (by rw [h_]; rfl)
                          (first | rw [c49b0] | (simp only [i64_w, i32_w]; rw [c49b0]) | skip)
                          by_cases c53 : 0 < (x4_25.length : Int)
                          · rw [if_pos c53] at H
                            have c53b0 : decide (0 < (x4_25.length : Int)) = true := decide_eq_true c53
                            have c53b1 : decide (0 < x4_25.length) = true := decide_eq_true (by omega)
                            clear c53
                            replace H := Option.bind_eq_some_iff.mp H
                            obtain ⟨⟨t138, t139⟩, A540, H⟩ := H
                            replace H : (if 1 ≤ (x4_25.length : Int) then (tidemillref26_Act1.j3 kj41 (x4_25.drop (1 : Int).toNat) t139 x124000_1 x124001_25 t138 (⟨#[]⟩ : ByteArray)) else (none)) = some (r1, r2, r3, r4, r5, r6) := H
                            have A54 := Aside0.mk A540
                            clear A540
                            by_cases c55 : 1 ≤ (x4_25.length : Int)
                            · rw [if_pos c55] at H
                              have c55b0 := eq_true c55
                              have c55b1 : decide (1 ≤ (x4_25.length : Int)) = true := decide_eq_true c55
                              clear c55
                              obtain ⟨y140, hy140⟩ : ∃ y_ : List ByteArray, y_ = (x4_25.drop (1 : Int).toNat) := ⟨_, rfl⟩
                              replace H : (tidemillref26_Act1.j3 kj41 y140 t139 x124000_1 x124001_25 t138 (⟨#[]⟩ : ByteArray)) = some (r1, r2, r3, r4, r5, r6) := by first | (rw [hy140]; with_reducible exact H) | (have H2_ := (Option.bind_some _ _).symm.trans H; rw [hy140]; with_reducible exact H2_) | (have H2_ := (Option.bind_some _ _).symm.trans H; with_reducible exact H2_) | with_reducible exact H | (rw [hy140]; exact H) | exact H
                              have Ny140 := Aside0.mk hy140
                              clear hy140
                              have H' := Aside0.mk H
                              clear H
                              obtain ⟨Ao56, co56, eo56, _⟩ := Kd.Q_slice HO_4.out
                              subst eo56
                              have p137 : 0 ≤ (0 : Int) := (by omega)
                              have q137 : 0 < (x4_25.length : Int) := of_decide_eq_true (by first | (with_reducible assumption) | assumption)
                              obtain ⟨ad137, e137, hx137_0⟩ := Kd.at_string (Kd.Q_reads' HO_4.out).2.2 0 p137 q137
                              cases e137
                              have qi137 : (0 < x4_25.length) = True := eq_true (by omega)
                              (try rw [show ((0 : Int)).toNat = 0 from rfl] at hx137_0)
                              (try rw [Addr.add_zero'] at hx137_0)
                              replace p137 := eq_true p137
                              replace q137 := eq_true q137
                              go_wp2_with (first | ((with_reducible refine gate_callee (f := 59) rfl ?_); refine goesL_ (some 63) rfl rfl Tryd.func59 (by kernel_rfl) rfl #[.string (rdOf ByteArray.empty x4_25 0)] rfl (by (try simp only [List.map_toArray, List.map_cons, List.map_nil]); first | done | rfl | (simp only [List.length_drop, List.length_take]; rfl)) ?_; (with_reducible refine (tidemillref26_number.calls kj41 (rdOf ByteArray.empty x4_25 0) t138 t139 _ A54.out).mono ?_); rintro e w' ⟨rfl, ⟨nd, rfl⟩⟩; refine ⟨_, rfl, ?_⟩; (try (rw [drewN_self wc]; generalize hq_ : World.drewN wc _ = wc; have n0_ : Aside0 (Kd.Q Kd.string 9 wc w.heap.size (fun _ => True) (.slice (some ad137) x4_25.length co56) x4_25) := ⟨by rw [← hq_]; exact (by (with_reducible repeat (first | apply Kd.Q_alloc | apply Kd.Q_drewN | apply Kd.Q_drew)); exact HO_4.out)⟩; have n1_ : Aside0 (wc.heap[gb119]? = some (.cells #[.int .i64 x120000_25, .int .i64 x120001_25, .int .i64 x120002_25, .string x120003_25, .slice none 0 0] 46 (0, 0))) := ⟨by rw [← hq_]; exact (by (with_reducible repeat (first | refine blk_drewN ?_ _ | refine blk_drew ?_ | refine blk_alloc ?_ _)); exact BK119.out)⟩; have n2_ : Aside0 (wc.heap[gb123]? = some (.cells #[.int .i64 x124000_1, .int .i64 x124001_25, .int .i64 0, .string (⟨#[]⟩ : ByteArray), .slice none 0 0] 46 (0, 0))) := ⟨by rw [← hq_]; exact (by (with_reducible repeat (first | refine blk_drewN ?_ _ | refine blk_drew ?_ | refine blk_alloc ?_ _)); exact BK123.out)⟩; have n3_ : Aside0 (Below w.heap.size w wc) := ⟨by rw [← hq_]; exact (by repeat (first | (with_reducible first | exact HB.out | apply below_alloc | apply pw_below_drewN | apply below_drew1 | refine below_set ?_ GE119.out | refine below_set ?_ GE123.out) | exact HB.out))⟩; clear HO_4 BK119 BK123 HB hq_; have HO_4 := n0_; have BK119 := n1_; have BK123 := n2_; have HB := n3_; clear n0_ n1_ n2_ n3_)); have hnb57 := NB123_119.out; have hnc57 := NB119_123.out; have hcz58_0 : wc.cell? ⟨gb123, 0, none⟩ = some (.int .i64 x124000_1) := (blk_cell BK123.out 0).trans rfl; have hcz58_1 : wc.cell? ⟨gb123, 1, none⟩ = some (.int .i64 x124001_25) := (blk_cell BK123.out 1).trans rfl; have hcz58_2 : wc.cell? ⟨gb123, 2, none⟩ = some (.int .i64 0) := (blk_cell BK123.out 2).trans rfl; have hcz58_3 : wc.cell? ⟨gb123, 3, none⟩ = some (.string (⟨#[]⟩ : ByteArray)) := (blk_cell BK123.out 3).trans rfl; have hcz58_4 : wc.cell? ⟨gb123, 4, none⟩ = some (.slice none 0 0) := (blk_cell BK123.out 4).trans rfl; have hfz58_0 := blk_frozen BK123.out 0; have hfz58_1 := blk_frozen BK123.out 1; have hfz58_2 := blk_frozen BK123.out 2; have hfz58_3 := blk_frozen BK123.out 3; have hfz58_4 := blk_frozen BK123.out 4) | ((with_reducible refine gate_store (t := 3) (p := 66) rfl ?_); refine store_event (t := 3) (p := 66) (v := ?vo_w59) (w1 := (wc.setCell ⟨gb123, 2, none⟩ (.int .i64 t138))) ?hg ?ho ?hn ?hr ?_; (case ho => rfl); (case hg => rfl); (case hn => rfl); (case hr => first | (go_simp; done) | (go_simp; rfl)); intro w59 hw; have n0_ : Aside0 (Kd.Q Kd.string 9 w59 w.heap.size (fun _ => True) (.slice (some ad137) x4_25.length co56) x4_25) := ⟨(by rw [hw]; exact (by (with_reducible repeat (first | apply Kd.Q_alloc | apply Kd.Q_drewN | apply Kd.Q_drew)); exact Kd.Q_mono (Kd.Q_far (p := ⟨gb123, 2, none⟩) (Kd.Q_types HO_4.out BK123.out (by decide)) (fun _ hk => hk.2) (.int .i64 t138)) (fun _ hk => trivial)))⟩; have n1_ : Aside0 (w59.heap[gb119]? = some (.cells #[.int .i64 x120000_25, .int .i64 x120001_25, .int .i64 x120002_25, .string x120003_25, .slice none 0 0] 46 (0, 0))) := ⟨(by rw [hw]; exact (by (with_reducible repeat (first | refine blk_drewN ?_ _ | refine blk_drew ?_ | refine blk_alloc ?_ _)); refine blk_far ?_ NB119_123.out _; (with_reducible repeat (first | refine blk_drewN ?_ _ | refine blk_drew ?_ | refine blk_alloc ?_ _)); exact BK119.out))⟩; have n2_ : Aside0 (w59.heap[gb123]? = some (.cells #[.int .i64 x124000_1, .int .i64 x124001_25, .int .i64 t138, .string (⟨#[]⟩ : ByteArray), .slice none 0 0] 46 (0, 0))) := ⟨(by rw [hw]; exact (by (with_reducible repeat (first | refine blk_drewN ?_ _ | refine blk_drew ?_ | refine blk_alloc ?_ _)); refine blk_put (cs := #[.int .i64 x124000_1, .int .i64 x124001_25, .int .i64 0, .string (⟨#[]⟩ : ByteArray), .slice none 0 0]) ?_ 2 _ rfl; (with_reducible repeat (first | refine blk_drewN ?_ _ | refine blk_drew ?_ | refine blk_alloc ?_ _)); exact BK123.out))⟩; have n3_ : Aside0 (Below w.heap.size w w59) := ⟨(by rw [hw]; exact (by repeat (first | (with_reducible first | exact HB.out | apply below_alloc | apply pw_below_drewN | apply below_drew1 | refine below_set ?_ GE119.out | refine below_set ?_ GE123.out) | exact HB.out)))⟩; clear hw; clear HO_4; clear BK119; clear BK123; clear HB; have HO_4 := n0_; have BK119 := n1_; have BK123 := n2_; have HB := n3_; clear n0_ n1_ n2_ n3_; have q60 : (1 : Int) ≤ ((x4_25.length : Int) : Int) := of_decide_eq_true (by first | (with_reducible assumption) | assumption); obtain ⟨i060, hi060, _, hsz60, _⟩ := info_parts info9; have hcut60 := cut_from (P := Tryd.prog) 86 9 .i64 Tryd.underlying86 hi060 1 hsz60 (some ad137) x4_25.length co56 1 (by omega) q60; have hr60 := Kd.Q_drop (k := (1 : Int).toNat) HO_4.out (by omega); obtain ⟨A60, hA60⟩ : ∃ A1, A1 = (if co56 = (1 : Int).toNat then (some ad137) else ((some ad137) : Option Addr).map (·.add ((1 : Int).toNat * 1))) := ⟨_, rfl⟩; obtain ⟨c60, hc60⟩ : ∃ c1, c1 = co56 - (1 : Int).toNat := ⟨_, rfl⟩; have hy60 : y140.length = x4_25.length - (1 : Int).toNat := (by rw [Ny140.out, List.length_drop]); rw [← Ny140.out] at hr60; rw [← hy60, ← hA60, ← hc60] at hcut60; replace hr60 : Kd.Q Kd.string 9 w59 w.heap.size (fun _ => True) (.slice A60 y140.length c60) y140 := (by rw [hA60, hc60, hy60]; exact hr60); have HE60 : Aside0 ((Value.slice A60 y140.length c60).ownBlock = (.slice (some ad137) x4_25.length co56 : Value).ownBlock) := ⟨by rw [hA60]; split <;> (cases ((some ad137) : Option Addr) <;> rfl)⟩; clear hy60 hi060 hsz60 HO_4 hA60 hc60; have HO142 := Aside0.mk hr60; clear hr60; replace q60 := eq_true q60))
                              go_meet
                              case rel => exact ⟨_, (y140), (t139), (x120000_25), (x120001_25), (x120002_25), (x120003_25), (t138), (by first | rfl | (simp; done) | (simp [*]; done)), H', ⟨by have := HK1.out; have := HJ25.out; have := HJ41.out; first | omega | exact Nat.le_refl _⟩, ⟨by (with_reducible repeat (first | apply Kd.Q_alloc | apply Kd.Q_drewN | apply Kd.Q_drew)); exact HO142.out⟩, ⟨by (with_reducible repeat (first | refine blk_drewN ?_ _ | refine blk_drew ?_ | refine blk_alloc ?_ _)); exact BK119.out⟩, ⟨by (with_reducible repeat (first | refine blk_drewN ?_ _ | refine blk_drew ?_ | refine blk_alloc ?_ _)); exact BK123.out⟩, ⟨by repeat (first | (with_reducible first | exact HB.out | apply below_alloc | apply pw_below_drewN | apply below_drew1 | refine below_set ?_ GE119.out | refine below_set ?_ GE123.out) | exact HB.out)⟩⟩
                            · rw [if_neg c55] at H
                              exact absurd H (by simp)
                          · rw [if_neg c53] at H
                            exact absurd H (by simp)
                      · replace c48 := Bool.eq_false_iff.mpr c48
                        subst c48
                        have H1 : (tidemillref26_Act1.j3 kj41 x4_25 x7_25 x124000_1 x124001_25 0 (⟨#[]⟩ : ByteArray)) = some (r1, r2, r3, r4, r5, r6) := by rw [if_neg (show ¬ (false = true) by decide)] at H; exact H
                        clear H
                        have H := H1
                        clear H1
                        have H' := Aside0.mk H
                        clear H
                        go_wp2
                        go_meet
                        case rel => exact ⟨_, (x4_25), (x7_25), (x120000_25), (x120001_25), (x120002_25), (x120003_25), (0), (by first | rfl | (simp; done) | (simp [*]; done)), H', ⟨by have := HK1.out; have := HJ25.out; have := HJ41.out; first | omega | exact Nat.le_refl _⟩, ⟨by (with_reducible repeat (first | apply Kd.Q_alloc | apply Kd.Q_drewN | apply Kd.Q_drew)); exact HO_4.out⟩, ⟨by (with_reducible repeat (first | refine blk_drewN ?_ _ | refine blk_drew ?_ | refine blk_alloc ?_ _)); exact BK119.out⟩, ⟨by (with_reducible repeat (first | refine blk_drewN ?_ _ | refine blk_drew ?_ | refine blk_alloc ?_ _)); exact BK123.out⟩, ⟨by repeat (first | (with_reducible first | exact HB.out | apply below_alloc | apply pw_below_drewN | apply below_drew1 | refine below_set ?_ GE119.out | refine below_set ?_ GE123.out) | exact HB.out)⟩⟩
                    case rest =>
                      clear HC47
                      try clear c1
                      try clear p1
                      try clear q1
                      try clear hx1
                      try clear qi1
                      try clear c2
                      try clear p2
                      try clear c3
                      try clear q3
                      try clear c4
                      try clear q4
                      try clear c5
                      try clear c6
                      try clear p6
                      try clear q6
                      try clear c8
                      try clear c8b0
                      try clear c10
                      try clear c10b0
                      try clear c10b1
                      try clear c11
                      try clear c11b0
                      try clear c11b1
                      try clear p12
                      try clear q12
                      try clear hx12
                      try clear qi12
                      try clear p13
                      try clear q13
                      try clear hx13
                      try clear qi13
                      try clear c15
                      try clear c20
                      try clear c20b0
                      try clear c20b1
                      try clear c21
                      try clear c24
                      try clear c24b0
                      try clear c24b1
                      try clear c27
                      try clear c28
                      try clear c30
                      try clear q30
                      try clear c31
                      try clear c32
                      try clear c32b0
                      try clear c32b1
                      try clear c32b2
                      try clear c33
                      try clear c35
                      try clear c35b0
                      try clear c35b1
                      try clear c37
                      try clear c37b0
                      try clear c37b1
                      try clear c38
                      try clear c41
                      try clear q41
                      try clear c43
                      try clear c45
                      try clear c48
                      try clear c49
                      try clear c49b0
                      try clear c49b1
                      try clear c49b2
                      try clear c51
                      try clear c53
                      try clear c53b0
                      try clear c53b1
                      try clear c55
                      try clear c55b0
                      try clear c55b1
                      try clear c57
                      try clear c58
                      try clear c59
                      try clear c60
                      try clear q60
                      try clear hcz16_0
                      try clear hcz16_1
                      try clear hcz16_2
                      try clear hcz16_3
                      try clear hcz16_4
                      try clear hcz22_0
                      try clear hcz22_1
                      try clear hcz22_2
                      try clear hcz22_3
                      try clear hcz22_4
                      try clear hcz23_0
                      try clear hcz23_1
                      try clear hcz23_2
                      try clear hcz23_3
                      try clear hcz23_4
                      try clear hcz28_0
                      try clear hcz28_1
                      try clear hcz28_2
                      try clear hcz28_3
                      try clear hcz28_4
                      try clear hcz34_0
                      try clear hcz34_1
                      try clear hcz34_2
                      try clear hcz34_3
                      try clear hcz34_4
                      try clear hcz39_0
                      try clear hcz39_1
                      try clear hcz39_2
                      try clear hcz39_3
                      try clear hcz39_4
                      try clear hcz46_0
                      try clear hcz46_1
                      try clear hcz46_2
                      try clear hcz46_3
                      try clear hcz46_4
                      try clear hcz52_0
                      try clear hcz52_1
                      try clear hcz52_2
                      try clear hcz52_3
                      try clear hcz52_4
                      try clear hcz58_0
                      try clear hcz58_1
                      try clear hcz58_2
                      try clear hcz58_3
                      try clear hcz58_4
                      try clear hcz7_0
                      try clear hcz7_1
                      try clear hcz7_2
                      try clear hcz7_3
                      try clear hcz7_4
                      try clear hfz16_0
                      try clear hfz16_1
                      try clear hfz16_2
                      try clear hfz16_3
                      try clear hfz16_4
                      try clear hfz22_0
                      try clear hfz22_1
                      try clear hfz22_2
                      try clear hfz22_3
                      try clear hfz22_4
                      try clear hfz23_0
                      try clear hfz23_1
                      try clear hfz23_2
                      try clear hfz23_3
                      try clear hfz23_4
                      try clear hfz28_0
                      try clear hfz28_1
                      try clear hfz28_2
                      try clear hfz28_3
                      try clear hfz28_4
                      try clear hfz34_0
                      try clear hfz34_1
                      try clear hfz34_2
                      try clear hfz34_3
                      try clear hfz34_4
                      try clear hfz39_0
                      try clear hfz39_1
                      try clear hfz39_2
                      try clear hfz39_3
                      try clear hfz39_4
                      try clear hfz46_0
                      try clear hfz46_1
                      try clear hfz46_2
                      try clear hfz46_3
                      try clear hfz46_4
                      try clear hfz52_0
                      try clear hfz52_1
                      try clear hfz52_2
                      try clear hfz52_3
                      try clear hfz52_4
                      try clear hfz58_0
                      try clear hfz58_1
                      try clear hfz58_2
                      try clear hfz58_3
                      try clear hfz58_4
                      try clear hfz7_0
                      try clear hfz7_1
                      try clear hfz7_2
                      try clear hfz7_3
                      try clear hfz7_4
                      try clear hx125_0
                      try clear hx130_0
                      try clear hx137_0
                      try clear p1
                      try clear p12
                      try clear p125
                      try clear p13
                      try clear p130
                      try clear p137
                      try clear p2
                      try clear p6
                      try clear q1
                      try clear q12
                      try clear q125
                      try clear q13
                      try clear q130
                      try clear q137
                      try clear q3
                      try clear q30
                      try clear q4
                      try clear q41
                      try clear q60
                      obtain ⟨kq, x4_46, x7_46, x120000_46, x120001_46, x120002_46, x120003_46, x124002_46, rfl, HA, HJ46, HO_4, BK119, BK123, HB⟩ := hcut
                      cases kq with
                      | zero => exact absurd HA.out (by simp [tidemillref26_Act1.j3])
                      | succ kj46 =>
                        have H := HA.out
                        clear HA
                        simp only [tidemillref26_Act1.j3] at H
                        by_cases c61 : x7_46 = true
                        · subst c61
                          have H1 : (if x124000_1 = 1 then (tidemillref26_Act1.j4 kj46 x4_46 true ((x4_46.length : Int) == 1) x124000_1 x124001_25 x124002_46 (⟨#[]⟩ : ByteArray)) else (tidemillref26_Act1.j4 kj46 x4_46 true false x124000_1 x124001_25 x124002_46 (⟨#[]⟩ : ByteArray))) = some (r1, r2, r3, r4, r5, r6) := by rw [if_pos rfl] at H; exact H
                          clear H
                          have H := H1
                          clear H1
                          have HC62 := Aside0.mk H
                          clear H
                          go_upto_region 24 with (fail)
                          go_cut [79] (fun v79 wc => ∃ (kq : Nat) (x79_61 : Bool), v79 = .bool x79_61 ∧ Aside0 (tidemillref26_Act1.j4 kq x4_46 true x79_61 x124000_1 x124001_25 x124002_46 (⟨#[]⟩ : ByteArray) = some (r1, r2, r3, r4, r5, r6)) ∧ Aside0 (kq ≤ kj46) ∧ Aside0 (Kd.Q Kd.string 9 wc w.heap.size (fun _ => True) u4 x4_46) ∧ Aside0 (wc.heap[gb119]? = some (.cells #[.int .i64 x120000_46, .int .i64 x120001_46, .int .i64 x120002_46, .string x120003_46, (.slice none 0 0)] 46 (0, 0))) ∧ Aside0 (wc.heap[gb123]? = some (.cells #[.int .i64 x124000_1, .int .i64 x124001_25, .int .i64 x124002_46, .string (⟨#[]⟩ : ByteArray), (.slice none 0 0)] 46 (0, 0))) ∧ Aside0 (Below w.heap.size w wc))
                          case first =>
                            have H := HC62.out
                            clear HC62
                            by_cases c63 : x124000_1 = 1
                            · rw [if_pos c63] at H
                              have c63b0 : (x124000_1 == 1) = true := beq_iff_eq.mpr c63
                              have c63b1 : (x124000_1 != 1) = false := bne_eq_false_iff_eq.mpr c63
                              clear c63
                              (first | rw [c63b0] | (simp only [i64_w, i32_w]; rw [c63b0]) | skip)
                              have H' := Aside0.mk H
                              clear H
                              have hnb64 := NB123_119.out
                              have hnc64 := NB119_123.out
                              have hcz65_0 : wc.cell? ⟨gb123, 0, none⟩ = some (.int .i64 x124000_1) := (blk_cell BK123.out 0).trans rfl
                              have hcz65_1 : wc.cell? ⟨gb123, 1, none⟩ = some (.int .i64 x124001_25) := (blk_cell BK123.out 1).trans rfl
                              have hcz65_2 : wc.cell? ⟨gb123, 2, none⟩ = some (.int .i64 x124002_46) := (blk_cell BK123.out 2).trans rfl
                              have hcz65_3 : wc.cell? ⟨gb123, 3, none⟩ = some (.string (⟨#[]⟩ : ByteArray)) := (blk_cell BK123.out 3).trans rfl
                              have hcz65_4 : wc.cell? ⟨gb123, 4, none⟩ = some (.slice none 0 0) := (blk_cell BK123.out 4).trans rfl
                              have hfz65_0 := blk_frozen BK123.out 0
                              have hfz65_1 := blk_frozen BK123.out 1
                              have hfz65_2 := blk_frozen BK123.out 2
                              have hfz65_3 := blk_frozen BK123.out 3
                              have hfz65_4 := blk_frozen BK123.out 4
                              obtain ⟨Ao66, co66, eo66, _⟩ := Kd.Q_slice HO_4.out
                              subst eo66
                              go_wp2
                              go_meet
                              case rel => exact ⟨_, (((x4_46.length : Int) == 1)), (by first | rfl | (simp; done) | (simp [*]; done)), H', ⟨by have := HK1.out; have := HJ25.out; have := HJ41.out; have := HJ46.out; first | omega | exact Nat.le_refl _⟩, ⟨by (with_reducible repeat (first | apply Kd.Q_alloc | apply Kd.Q_drewN | apply Kd.Q_drew)); exact HO_4.out⟩, ⟨by (with_reducible repeat (first | refine blk_drewN ?_ _ | refine blk_drew ?_ | refine blk_alloc ?_ _)); exact BK119.out⟩, ⟨by (with_reducible repeat (first | refine blk_drewN ?_ _ | refine blk_drew ?_ | refine blk_alloc ?_ _)); exact BK123.out⟩, ⟨by repeat (first | (with_reducible first | exact HB.out | apply below_alloc | apply pw_below_drewN | apply below_drew1 | refine below_set ?_ GE119.out | refine below_set ?_ GE123.out) | exact HB.out)⟩⟩
                            · rw [if_neg c63] at H
                              have c63b0 : (x124000_1 == 1) = false := beq_eq_false_iff_ne.mpr c63
                              have c63b1 : (x124000_1 != 1) = true := bne_iff_ne.mpr c63
                              (first | rw [c63b0] | (simp only [i64_w, i32_w]; rw [c63b0]) | skip)
                              have H' := Aside0.mk H
                              clear H
                              have hnb67 := NB123_119.out
                              have hnc67 := NB119_123.out
                              have hcz68_0 : wc.cell? ⟨gb123, 0, none⟩ = some (.int .i64 x124000_1) := (blk_cell BK123.out 0).trans rfl
                              have hcz68_1 : wc.cell? ⟨gb123, 1, none⟩ = some (.int .i64 x124001_25) := (blk_cell BK123.out 1).trans rfl
                              have hcz68_2 : wc.cell? ⟨gb123, 2, none⟩ = some (.int .i64 x124002_46) := (blk_cell BK123.out 2).trans rfl
                              have hcz68_3 : wc.cell? ⟨gb123, 3, none⟩ = some (.string (⟨#[]⟩ : ByteArray)) := (blk_cell BK123.out 3).trans rfl
                              have hcz68_4 : wc.cell? ⟨gb123, 4, none⟩ = some (.slice none 0 0) := (blk_cell BK123.out 4).trans rfl
                              have hfz68_0 := blk_frozen BK123.out 0
                              have hfz68_1 := blk_frozen BK123.out 1
                              have hfz68_2 := blk_frozen BK123.out 2
                              have hfz68_3 := blk_frozen BK123.out 3
                              have hfz68_4 := blk_frozen BK123.out 4
                              go_wp2
                              go_meet
                              case rel => exact ⟨_, (false), (by first | rfl | (simp; done) | (simp [*]; done)), H', ⟨by have := HK1.out; have := HJ25.out; have := HJ41.out; have := HJ46.out; first | omega | exact Nat.le_refl _⟩, ⟨by (with_reducible repeat (first | apply Kd.Q_alloc | apply Kd.Q_drewN | apply Kd.Q_drew)); exact HO_4.out⟩, ⟨by (with_reducible repeat (first | refine blk_drewN ?_ _ | refine blk_drew ?_ | refine blk_alloc ?_ _)); exact BK119.out⟩, ⟨by (with_reducible repeat (first | refine blk_drewN ?_ _ | refine blk_drew ?_ | refine blk_alloc ?_ _)); exact BK123.out⟩, ⟨by repeat (first | (with_reducible first | exact HB.out | apply below_alloc | apply pw_below_drewN | apply below_drew1 | refine below_set ?_ GE119.out | refine below_set ?_ GE123.out) | exact HB.out)⟩⟩
                          case rest =>
                            clear HC62
                            try clear c1
                            try clear p1
                            try clear q1
                            try clear hx1
                            try clear qi1
                            try clear c2
                            try clear p2
                            try clear c3
                            try clear q3
                            try clear c4
                            try clear q4
                            try clear c5
                            try clear c6
                            try clear p6
                            try clear q6
                            try clear c8
                            try clear c8b0
                            try clear c10
                            try clear c10b0
                            try clear c10b1
                            try clear c11
                            try clear c11b0
                            try clear c11b1
                            try clear p12
                            try clear q12
                            try clear hx12
                            try clear qi12
                            try clear p13
                            try clear q13
                            try clear hx13
                            try clear qi13
                            try clear c15
                            try clear c20
                            try clear c20b0
                            try clear c20b1
                            try clear c21
                            try clear c24
                            try clear c24b0
                            try clear c24b1
                            try clear c27
                            try clear c28
                            try clear c30
                            try clear q30
                            try clear c31
                            try clear c32
                            try clear c32b0
                            try clear c32b1
                            try clear c32b2
                            try clear c33
                            try clear c35
                            try clear c35b0
                            try clear c35b1
                            try clear c37
                            try clear c37b0
                            try clear c37b1
                            try clear c38
                            try clear c41
                            try clear q41
                            try clear c43
                            try clear c45
                            try clear c48
                            try clear c49
                            try clear c49b0
                            try clear c49b1
                            try clear c49b2
                            try clear c51
                            try clear c53
                            try clear c53b0
                            try clear c53b1
                            try clear c55
                            try clear c55b0
                            try clear c55b1
                            try clear c57
                            try clear c58
                            try clear c59
                            try clear c60
                            try clear q60
                            try clear c61
                            try clear c63
                            try clear c63b0
                            try clear c63b1
                            try clear c64
                            try clear c67
                            try clear hcz16_0
                            try clear hcz16_1
                            try clear hcz16_2
                            try clear hcz16_3
                            try clear hcz16_4
                            try clear hcz22_0
                            try clear hcz22_1
                            try clear hcz22_2
                            try clear hcz22_3
                            try clear hcz22_4
                            try clear hcz23_0
                            try clear hcz23_1
                            try clear hcz23_2
                            try clear hcz23_3
                            try clear hcz23_4
                            try clear hcz28_0
                            try clear hcz28_1
                            try clear hcz28_2
                            try clear hcz28_3
                            try clear hcz28_4
                            try clear hcz34_0
                            try clear hcz34_1
                            try clear hcz34_2
                            try clear hcz34_3
                            try clear hcz34_4
                            try clear hcz39_0
                            try clear hcz39_1
                            try clear hcz39_2
                            try clear hcz39_3
                            try clear hcz39_4
                            try clear hcz46_0
                            try clear hcz46_1
                            try clear hcz46_2
                            try clear hcz46_3
                            try clear hcz46_4
                            try clear hcz52_0
                            try clear hcz52_1
                            try clear hcz52_2
                            try clear hcz52_3
                            try clear hcz52_4
                            try clear hcz58_0
                            try clear hcz58_1
                            try clear hcz58_2
                            try clear hcz58_3
                            try clear hcz58_4
                            try clear hcz65_0
                            try clear hcz65_1
                            try clear hcz65_2
                            try clear hcz65_3
                            try clear hcz65_4
                            try clear hcz68_0
                            try clear hcz68_1
                            try clear hcz68_2
                            try clear hcz68_3
                            try clear hcz68_4
                            try clear hcz7_0
                            try clear hcz7_1
                            try clear hcz7_2
                            try clear hcz7_3
                            try clear hcz7_4
                            try clear hfz16_0
                            try clear hfz16_1
                            try clear hfz16_2
                            try clear hfz16_3
                            try clear hfz16_4
                            try clear hfz22_0
                            try clear hfz22_1
                            try clear hfz22_2
                            try clear hfz22_3
                            try clear hfz22_4
                            try clear hfz23_0
                            try clear hfz23_1
                            try clear hfz23_2
                            try clear hfz23_3
                            try clear hfz23_4
                            try clear hfz28_0
                            try clear hfz28_1
                            try clear hfz28_2
                            try clear hfz28_3
                            try clear hfz28_4
                            try clear hfz34_0
                            try clear hfz34_1
                            try clear hfz34_2
                            try clear hfz34_3
                            try clear hfz34_4
                            try clear hfz39_0
                            try clear hfz39_1
                            try clear hfz39_2
                            try clear hfz39_3
                            try clear hfz39_4
                            try clear hfz46_0
                            try clear hfz46_1
                            try clear hfz46_2
                            try clear hfz46_3
                            try clear hfz46_4
                            try clear hfz52_0
                            try clear hfz52_1
                            try clear hfz52_2
                            try clear hfz52_3
                            try clear hfz52_4
                            try clear hfz58_0
                            try clear hfz58_1
                            try clear hfz58_2
                            try clear hfz58_3
                            try clear hfz58_4
                            try clear hfz65_0
                            try clear hfz65_1
                            try clear hfz65_2
                            try clear hfz65_3
                            try clear hfz65_4
                            try clear hfz68_0
                            try clear hfz68_1
                            try clear hfz68_2
                            try clear hfz68_3
                            try clear hfz68_4
                            try clear hfz7_0
                            try clear hfz7_1
                            try clear hfz7_2
                            try clear hfz7_3
                            try clear hfz7_4
                            try clear hx125_0
                            try clear hx130_0
                            try clear hx137_0
                            try clear p1
                            try clear p12
                            try clear p125
                            try clear p13
                            try clear p130
                            try clear p137
                            try clear p2
                            try clear p6
                            try clear q1
                            try clear q12
                            try clear q125
                            try clear q13
                            try clear q130
                            try clear q137
                            try clear q3
                            try clear q30
                            try clear q4
                            try clear q41
                            try clear q6
                            try clear q60
                            obtain ⟨kq, x79_61, rfl, HA, HJ61, HO_4, BK119, BK123, HB⟩ := hcut
                            cases kq with
                            | zero => exact absurd HA.out (by simp [tidemillref26_Act1.j4])
                            | succ kj61 =>
                              have H := HA.out
                              clear HA
                              simp only [tidemillref26_Act1.j4] at H
                              by_cases c69 : x79_61 = true
                              · subst c69
                                have H1 : (if 0 < (x4_46.length : Int) then ((tidemillref26_Unshow.f kj61 (rdOf ByteArray.empty x4_46 0)).bind fun bt144 => (if bt144.2 = true then (some (x124000_1, x124001_25, x124002_46, bt144.1, ([] : List Int), (bt144.1.toList != ([] : List UInt8)))) else (some (x124000_1, x124001_25, x124002_46, bt144.1, ([] : List Int), false)))) else (none)) = some (r1, r2, r3, r4, r5, r6) := by rw [if_pos rfl] at H; exact H
                                clear H
                                have H := H1
                                clear H1
                                by_cases c70 : 0 < (x4_46.length : Int)
                                · rw [if_pos c70] at H
                                  have c70b0 : decide (0 < (x4_46.length : Int)) = true := decide_eq_true c70
                                  have c70b1 : decide (0 < x4_46.length) = true := decide_eq_true (by omega)
                                  clear c70
                                  replace H := Option.bind_eq_some_iff.mp H
                                  obtain ⟨⟨t144, t145⟩, A710, H⟩ := H
                                  replace H : (if t145 = true then (some (x124000_1, x124001_25, x124002_46, t144, ([] : List Int), (t144.toList != ([] : List UInt8)))) else (some (x124000_1, x124001_25, x124002_46, t144, ([] : List Int), false))) = some (r1, r2, r3, r4, r5, r6) := H
                                  have A71 := Aside0.mk A710
                                  clear A710
                                  by_cases c72 : t145 = true
                                  · subst c72
                                    have H1 : (some (x124000_1, x124001_25, x124002_46, t144, ([] : List Int), (t144.toList != ([] : List UInt8)))) = some (r1, r2, r3, r4, r5, r6) := by rw [if_pos rfl] at H; exact H
                                    clear H
                                    have H := H1
                                    clear H1
                                    simp only [Option.some.injEq, Prod.mk.injEq] at H
                                    obtain ⟨rfl, rfl, rfl, rfl, rfl, rfl⟩ := H
                                    obtain ⟨Ao73, co73, eo73, _⟩ := Kd.Q_slice HO_4.out
                                    subst eo73
                                    have p143 : 0 ≤ (0 : Int) := (by omega)
                                    have q143 : 0 < (x4_46.length : Int) := of_decide_eq_true (by first | (with_reducible assumption) | assumption)
                                    obtain ⟨ad143, e143, hx143_0⟩ := Kd.at_string (Kd.Q_reads' HO_4.out).2.2 0 p143 q143
                                    cases e143
                                    have qi143 : (0 < x4_46.length) = True := eq_true (by omega)
                                    (try rw [show ((0 : Int)).toNat = 0 from rfl] at hx143_0)
                                    (try rw [Addr.add_zero'] at hx143_0)
                                    replace p143 := eq_true p143
                                    replace q143 := eq_true q143
                                    try go_wp2_with (first | ((with_reducible refine gate_callee (f := 32) rfl ?_); refine goesL_ (some 84) rfl rfl Tryd.func32 (by kernel_rfl) rfl #[.string (rdOf ByteArray.empty x4_46 0)] rfl (by (try simp only [List.map_toArray, List.map_cons, List.map_nil]); first | done | rfl | (simp only [List.length_drop, List.length_take]; rfl)) ?_; (with_reducible refine (tidemillref26_Unshow.calls kj61 (rdOf ByteArray.empty x4_46 0) t144 true _ A71.out).mono ?_); rintro e w74 ⟨rfl, hb⟩; refine ⟨_, rfl, ?_⟩; have n0_ := Aside0.mk (Kd.Q_below (by (with_reducible repeat (first | apply Kd.Q_alloc | apply Kd.Q_drewN | apply Kd.Q_drew)); exact HO_4.out) hb); have n1_ := Aside0.mk (blk_below (g := gb119) (o := .cells #[.int .i64 x120000_46, .int .i64 x120001_46, .int .i64 x120002_46, .string x120003_46, .slice none 0 0] 46 (0, 0)) (by (with_reducible repeat (first | refine blk_drewN ?_ _ | refine blk_drew ?_ | refine blk_alloc ?_ _)); exact BK119.out) hb); have n2_ := Aside0.mk (blk_below (g := gb123) (o := .cells #[.int .i64 x124000_1, .int .i64 x124001_25, .int .i64 x124002_46, .string (⟨#[]⟩ : ByteArray), .slice none 0 0] 46 (0, 0)) (by (with_reducible repeat (first | refine blk_drewN ?_ _ | refine blk_drew ?_ | refine blk_alloc ?_ _)); exact BK123.out) hb); have n3_ := Aside0.mk (below_step (by repeat (first | (with_reducible first | exact HB.out | apply below_alloc | apply pw_below_drewN | apply below_drew1 | refine below_set ?_ GE119.out | refine below_set ?_ GE123.out) | exact HB.out)) hb); clear HO_4; clear BK119; clear BK123; clear HB; have HO_4 := n0_; have BK119 := n1_; have BK123 := n2_; have HB := n3_; clear n0_ n1_ n2_ n3_; (try clear hb); (try clear hb2); (try clear hk); (try clear hi); have hnb75 := NB123_119.out; have hnc75 := NB119_123.out; have hcz76_0 : w74.cell? ⟨gb123, 0, none⟩ = some (.int .i64 x124000_1) := (blk_cell BK123.out 0).trans rfl; have hcz76_1 : w74.cell? ⟨gb123, 1, none⟩ = some (.int .i64 x124001_25) := (blk_cell BK123.out 1).trans rfl; have hcz76_2 : w74.cell? ⟨gb123, 2, none⟩ = some (.int .i64 x124002_46) := (blk_cell BK123.out 2).trans rfl; have hcz76_3 : w74.cell? ⟨gb123, 3, none⟩ = some (.string (⟨#[]⟩ : ByteArray)) := (blk_cell BK123.out 3).trans rfl; have hcz76_4 : w74.cell? ⟨gb123, 4, none⟩ = some (.slice none 0 0) := (blk_cell BK123.out 4).trans rfl; have hfz76_0 := blk_frozen BK123.out 0; have hfz76_1 := blk_frozen BK123.out 1; have hfz76_2 := blk_frozen BK123.out 2; have hfz76_3 := blk_frozen BK123.out 3; have hfz76_4 := blk_frozen BK123.out 4))
                                    have n0_ : Aside0 (Kd.Q Kd.string 9 (w74.setCell ⟨gb123, 3, none⟩ (.string t144)) w.heap.size (fun _ => True) (.slice (some ad143) x4_46.length co73) x4_46) := ⟨by (with_reducible repeat (first | apply Kd.Q_alloc | apply Kd.Q_drewN | apply Kd.Q_drew)); exact Kd.Q_mono (Kd.Q_far (p := ⟨gb123, 3, none⟩) (Kd.Q_types HO_4.out BK123.out (by decide)) (fun _ hk => hk.2) (.string t144)) (fun _ hk => trivial)⟩
                                    have n1_ : Aside0 ((w74.setCell ⟨gb123, 3, none⟩ (.string t144)).heap[gb119]? = some (.cells #[.int .i64 x120000_46, .int .i64 x120001_46, .int .i64 x120002_46, .string x120003_46, .slice none 0 0] 46 (0, 0))) := ⟨by (with_reducible repeat (first | refine blk_drewN ?_ _ | refine blk_drew ?_ | refine blk_alloc ?_ _)); refine blk_far ?_ NB119_123.out _; (with_reducible repeat (first | refine blk_drewN ?_ _ | refine blk_drew ?_ | refine blk_alloc ?_ _)); exact BK119.out⟩
                                    have n2_ : Aside0 ((w74.setCell ⟨gb123, 3, none⟩ (.string t144)).heap[gb123]? = some (.cells #[.int .i64 x124000_1, .int .i64 x124001_25, .int .i64 x124002_46, .string t144, .slice none 0 0] 46 (0, 0))) := ⟨by (with_reducible repeat (first | refine blk_drewN ?_ _ | refine blk_drew ?_ | refine blk_alloc ?_ _)); refine blk_put (cs := #[.int .i64 x124000_1, .int .i64 x124001_25, .int .i64 x124002_46, .string (⟨#[]⟩ : ByteArray), .slice none 0 0]) ?_ 3 _ rfl; (with_reducible repeat (first | refine blk_drewN ?_ _ | refine blk_drew ?_ | refine blk_alloc ?_ _)); exact BK123.out⟩
                                    have n3_ : Aside0 (Below w.heap.size w (w74.setCell ⟨gb123, 3, none⟩ (.string t144))) := ⟨by repeat (first | (with_reducible first | exact HB.out | apply below_alloc | apply pw_below_drewN | apply below_drew1 | refine below_set ?_ GE119.out | refine below_set ?_ GE123.out) | exact HB.out)⟩
                                    (try clear HO_4)
                                    (try clear BK119)
                                    (try clear BK123)
                                    (try clear HB)
                                    generalize (w74.setCell ⟨gb123, 3, none⟩ (.string t144)) = w77 at n0_ n1_ n2_ n3_ ⊢
                                    have HO_4 := n0_
                                    have BK119 := n1_
                                    have BK123 := n2_
                                    have HB := n3_
                                    clear n0_ n1_ n2_ n3_
                                    have n0_ := Aside0.mk (Kd.Q_drew HO_4.out)
                                    have n1_ := Aside0.mk (blk_drew BK119.out)
                                    have n2_ := Aside0.mk (blk_drew BK123.out)
                                    have n3_ := Aside0.mk (below_drew1 HB.out)
                                    clear HO_4
                                    clear BK119
                                    clear BK123
                                    clear HB
                                    have HO_4 := n0_
                                    have BK119 := n1_
                                    have BK123 := n2_
                                    have HB := n3_
                                    clear n0_ n1_ n2_ n3_
                                    refine start_ (n := 9) (S := fun w' => w'.cell? ⟨gb123, 0, none⟩ = some (.int .i64 x124000_1) ∧ w'.cell? ⟨gb123, 1, none⟩ = some (.int .i64 x124001_25) ∧ w'.cell? ⟨gb123, 2, none⟩ = some (.int .i64 x124002_46) ∧ w'.cell? ⟨gb123, 3, none⟩ = some (.string t144) ∧ w'.cell? ⟨gb123, 4, none⟩ = some (.slice none 0 0)) (ds := []) #[false, false, false, false, false, false, false, false, false] (by kernel_rfl) rfl rfl ⟨(blk_cell BK123.out 0).trans rfl, (blk_cell BK123.out 1).trans rfl, (blk_cell BK123.out 2).trans rfl, (blk_cell BK123.out 3).trans rfl, (blk_cell BK123.out 4).trans rfl⟩ (fun hHeld => ?_); refine with_tabW tidemillref26_Act1.tab26 tidemillref26_Act1.bits26 (fun HT_ HW_ => ?_)
                                    generalize w77.drew = w78 at HO_4 BK119 BK123 HB hHeld ⊢
                                    refine pure_ (i := 1) (N := some 89) (v := ?_) (a' := ?_) #[false, true, false, false, false, false, false, false, false] rfl rfl (any_of HT_.out (by kernel_rfl)) (fun _ _ _ h => h) (Or.inl ⟨by rfl, ?_⟩) ?_ ?_
                                    rotate_left
                                    · intro w'
                                      go_simp
                                      with_reducible rfl
                                    rotate_left
                                    · simp only [Act.put, List.setIfInBounds_toArray, List.set_cons_zero, List.set_cons_succ, i64_w, i32_w]
                                      rfl
                                    refine pure_ (i := 2) (N := some 90) (v := ?_) (a' := ?_) #[false, true, true, false, false, false, false, false, false] rfl rfl (any_of HT_.out (by kernel_rfl)) (fun _ _ _ h => h) (Or.inl ⟨by rfl, ?_⟩) ?_ ?_
                                    rotate_left
                                    · intro w'
                                      go_simp
                                      with_reducible rfl
                                    rotate_left
                                    · simp only [Act.put, List.setIfInBounds_toArray, List.set_cons_zero, List.set_cons_succ, i64_w, i32_w]
                                      rfl
                                    refine pure_ (i := 3) (N := some 91) (v := ?_) (a' := ?_) #[false, true, true, true, false, false, false, false, false] rfl rfl (any_of HT_.out (by kernel_rfl)) (fun _ _ _ h => h) (Or.inl ⟨by rfl, ?_⟩) ?_ ?_
                                    rotate_left
                                    · intro w'
                                      go_simp
                                      with_reducible rfl
                                    rotate_left
                                    · simp only [Act.put, List.setIfInBounds_toArray, List.set_cons_zero, List.set_cons_succ, i64_w, i32_w]
                                      rfl
                                    refine take_ (i := 0) (N := some 88) (v := ?_) (a' := ?_) #[true, true, true, true, false, false, false, false, false] rfl rfl (take_ofW HT_.out HW_.out (by kernel_rfl)) (fun _ _ _ h => h) (Or.inl ⟨by rfl, ?_⟩) hHeld ?_ ?_
                                    rotate_left
                                    · rintro w' ⟨s0, s1, s2, s3, s4⟩
                                      go_simp
                                      with_reducible rfl
                                    rotate_left
                                    · simp only [Act.put, List.setIfInBounds_toArray, List.set_cons_zero, List.set_cons_succ, i64_w, i32_w]
                                      rfl
                                    refine take_ (i := 4) (N := some 92) (v := ?_) (a' := ?_) #[true, true, true, true, true, false, false, false, false] rfl rfl (take_ofW HT_.out HW_.out (by kernel_rfl)) (fun _ _ _ h => h) (Or.inl ⟨by rfl, ?_⟩) hHeld ?_ ?_
                                    rotate_left
                                    · rintro w' ⟨s0, s1, s2, s3, s4⟩
                                      go_simp
                                      with_reducible rfl
                                    rotate_left
                                    · simp only [Act.put, List.setIfInBounds_toArray, List.set_cons_zero, List.set_cons_succ, i64_w, i32_w]
                                      rfl
                                    refine pure_ (i := 5) (N := some 93) (v := ?_) (a' := ?_) #[true, true, true, true, true, true, false, false, false] rfl rfl (any_of HT_.out (by kernel_rfl)) (fun _ _ _ h => h) (Or.inl ⟨by rfl, ?_⟩) ?_ ?_
                                    rotate_left
                                    · intro w'
                                      go_simp
                                      with_reducible rfl
                                    rotate_left
                                    · simp only [Act.put, List.setIfInBounds_toArray, List.set_cons_zero, List.set_cons_succ, i64_w, i32_w]
                                      rfl
                                    refine pure_ (i := 6) (N := some 94) (v := ?_) (a' := ?_) #[true, true, true, true, true, true, true, false, false] rfl rfl (any_of HT_.out (by kernel_rfl)) (fun _ _ _ h => h) (Or.inl ⟨by rfl, ?_⟩) ?_ ?_
                                    rotate_left
                                    · intro w'
                                      go_simp
                                      with_reducible rfl
                                    rotate_left
                                    · simp only [Act.put, List.setIfInBounds_toArray, List.set_cons_zero, List.set_cons_succ, i64_w, i32_w]
                                      rfl
                                    refine one_ (i := 7) (N := none) #[true, true, true, true, true, true, true, true, false] rfl rfl (one_of HT_.out (by kernel_rfl)) (by decide) (fun K hK => ?_)
                                    have hs79 : w78.cell? ⟨gb119, 0, none⟩ = some (.int .i64 x120000_46) := (blk_cell BK119.out 0).trans rfl
                                    have hfs79 := blk_frozen BK119.out 0
                                    have hns79_1 := NB123_119.out
                                    have hms79_1 := NB119_123.out
                                    have hs80 : w78.cell? ⟨gb119, 1, none⟩ = some (.int .i64 x120001_46) := (blk_cell BK119.out 1).trans rfl
                                    have hfs80 := blk_frozen BK119.out 1
                                    have hns80_1 := NB123_119.out
                                    have hms80_1 := NB119_123.out
                                    have hs81 : w78.cell? ⟨gb119, 2, none⟩ = some (.int .i64 x120002_46) := (blk_cell BK119.out 2).trans rfl
                                    have hfs81 := blk_frozen BK119.out 2
                                    have hns81_1 := NB123_119.out
                                    have hms81_1 := NB119_123.out
                                    have hs82 : w78.cell? ⟨gb119, 3, none⟩ = some (.string x120003_46) := (blk_cell BK119.out 3).trans rfl
                                    have hfs82 := blk_frozen BK119.out 3
                                    have hns82_1 := NB123_119.out
                                    have hms82_1 := NB119_123.out
                                    have hs83 : w78.cell? ⟨gb119, 4, none⟩ = some (.slice none 0 0) := (blk_cell BK119.out 4).trans rfl
                                    have hfs83 := blk_frozen BK119.out 4
                                    have hns83_1 := NB123_119.out
                                    have hms83_1 := NB119_123.out
                                    refine skip_ (w1 := ?_) (by rfl) rfl ?_ ?_
                                    rotate_left
                                    · go_simp
                                      rfl
                                    refine hK.out _ _ ⟨((cell_far (p := ⟨gb119, _, none⟩) NB123_119.out _).trans (((cell_far (p := ⟨gb119, _, none⟩) NB123_119.out _).trans (((cell_far (p := ⟨gb119, _, none⟩) NB123_119.out _).trans (((cell_far (p := ⟨gb119, _, none⟩) NB123_119.out _).trans (((cell_far (p := ⟨gb119, _, none⟩) NB123_119.out _).trans (hHeld.1)))))))))), ((cell_far (p := ⟨gb119, _, none⟩) NB123_119.out _).trans (((cell_far (p := ⟨gb119, _, none⟩) NB123_119.out _).trans (((cell_far (p := ⟨gb119, _, none⟩) NB123_119.out _).trans (((cell_far (p := ⟨gb119, _, none⟩) NB123_119.out _).trans (((cell_far (p := ⟨gb119, _, none⟩) NB123_119.out _).trans (hHeld.2.1)))))))))), ((cell_far (p := ⟨gb119, _, none⟩) NB123_119.out _).trans (((cell_far (p := ⟨gb119, _, none⟩) NB123_119.out _).trans (((cell_far (p := ⟨gb119, _, none⟩) NB123_119.out _).trans (((cell_far (p := ⟨gb119, _, none⟩) NB123_119.out _).trans (((cell_far (p := ⟨gb119, _, none⟩) NB123_119.out _).trans (hHeld.2.2.1)))))))))), ((cell_far (p := ⟨gb119, _, none⟩) NB123_119.out _).trans (((cell_far (p := ⟨gb119, _, none⟩) NB123_119.out _).trans (((cell_far (p := ⟨gb119, _, none⟩) NB123_119.out _).trans (((cell_far (p := ⟨gb119, _, none⟩) NB123_119.out _).trans (((cell_far (p := ⟨gb119, _, none⟩) NB123_119.out _).trans (hHeld.2.2.2.1)))))))))), ((cell_far (p := ⟨gb119, _, none⟩) NB123_119.out _).trans (((cell_far (p := ⟨gb119, _, none⟩) NB123_119.out _).trans (((cell_far (p := ⟨gb119, _, none⟩) NB123_119.out _).trans (((cell_far (p := ⟨gb119, _, none⟩) NB123_119.out _).trans (((cell_far (p := ⟨gb119, _, none⟩) NB123_119.out _).trans (hHeld.2.2.2.2))))))))))⟩ (fun hHeld => ?_)
                                    clear hK K
                                    refine pure_ (i := 8) (N := some 3) (v := ?_) (a' := ?_) #[true, true, true, true, true, true, true, true, true] rfl rfl (any_of HT_.out (by kernel_rfl)) (fun _ _ _ h => h) (Or.inl ⟨by rfl, ?_⟩) ?_ ?_
                                    rotate_left
                                    · intro w'
                                      go_simp
                                      with_reducible rfl
                                    rotate_left
                                    · simp only [Act.put, List.setIfInBounds_toArray, List.set_cons_zero, List.set_cons_succ, i64_w, i32_w]
                                      rfl
                                    refine done_ (done_of HT_.out (by kernel_rfl)) ?_
                                    try go_wp2
                                    refine bodyPost_ret (results_ct rfl _ _ gb119 46 #[.int .i64 x124000_1, .int .i64 x124001_25, .int .i64 x124002_46, .string t144, .slice none 0 0] (0, 0) _ rfl (by (with_reducible repeat (first | refine blk_drewN ?_ _ | refine blk_drew ?_ | refine blk_alloc ?_ _)); refine blk_put (cs := #[.int .i64 x124000_1, .int .i64 x124001_25, .int .i64 x124002_46, .string t144, .slice none 0 0]) ?_ 4 _ rfl; (with_reducible repeat (first | refine blk_drewN ?_ _ | refine blk_drew ?_ | refine blk_alloc ?_ _)); refine blk_put (cs := #[.int .i64 x124000_1, .int .i64 x124001_25, .int .i64 x124002_46, .string x120003_46, .slice none 0 0]) ?_ 3 _ rfl; (with_reducible repeat (first | refine blk_drewN ?_ _ | refine blk_drew ?_ | refine blk_alloc ?_ _)); refine blk_put (cs := #[.int .i64 x124000_1, .int .i64 x124001_25, .int .i64 x120002_46, .string x120003_46, .slice none 0 0]) ?_ 2 _ rfl; (with_reducible repeat (first | refine blk_drewN ?_ _ | refine blk_drew ?_ | refine blk_alloc ?_ _)); refine blk_put (cs := #[.int .i64 x124000_1, .int .i64 x120001_46, .int .i64 x120002_46, .string x120003_46, .slice none 0 0]) ?_ 1 _ rfl; (with_reducible repeat (first | refine blk_drewN ?_ _ | refine blk_drew ?_ | refine blk_alloc ?_ _)); refine blk_put (cs := #[.int .i64 x120000_46, .int .i64 x120001_46, .int .i64 x120002_46, .string x120003_46, .slice none 0 0]) ?_ 0 _ rfl; (with_reducible repeat (first | refine blk_drewN ?_ _ | refine blk_drew ?_ | refine blk_alloc ?_ _)); exact BK119.out) Tryd.underlying46 rfl (by kernel_rfl)) rfl ?_
                                    exact ⟨_, by first | rfl | (simp [errW_none, errW_some] <;> rfl) | (simp [*, errW_none, errW_some] <;> first | rfl | exact empty_ne _ | exact ⟨rfl, empty_ne _⟩), by first | exact Kd.R_nil _ _ _ _ _ | exact Kd.N_nil _ _ _ _ _ | exact Kd.V_nil _ _ _ _ _ | exact Kd.Q_nil _ _ _ _ _ | exact Kd.S_nil _ _ _ _ _, by repeat (first | (with_reducible first | exact HB.out | apply below_alloc | apply pw_below_drewN | apply below_drew1 | refine below_set ?_ GE119.out | refine below_set ?_ GE123.out) | exact HB.out)⟩
                                  · replace c72 := Bool.eq_false_iff.mpr c72
                                    subst c72
                                    have H1 : (some (x124000_1, x124001_25, x124002_46, t144, ([] : List Int), false)) = some (r1, r2, r3, r4, r5, r6) := by rw [if_neg (show ¬ (false = true) by decide)] at H; exact H
                                    clear H
                                    have H := H1
                                    clear H1
                                    simp only [Option.some.injEq, Prod.mk.injEq] at H
                                    obtain ⟨rfl, rfl, rfl, rfl, rfl, rfl⟩ := H
                                    obtain ⟨Ao84, co84, eo84, _⟩ := Kd.Q_slice HO_4.out
                                    subst eo84
                                    have p143 : 0 ≤ (0 : Int) := (by omega)
                                    have q143 : 0 < (x4_46.length : Int) := of_decide_eq_true (by first | (with_reducible assumption) | assumption)
                                    obtain ⟨ad143, e143, hx143_0⟩ := Kd.at_string (Kd.Q_reads' HO_4.out).2.2 0 p143 q143
                                    cases e143
                                    have qi143 : (0 < x4_46.length) = True := eq_true (by omega)
                                    (try rw [show ((0 : Int)).toNat = 0 from rfl] at hx143_0)
                                    (try rw [Addr.add_zero'] at hx143_0)
                                    replace p143 := eq_true p143
                                    replace q143 := eq_true q143
                                    try go_wp2_with (first | ((with_reducible refine gate_callee (f := 32) rfl ?_); refine goesL_ (some 84) rfl rfl Tryd.func32 (by kernel_rfl) rfl #[.string (rdOf ByteArray.empty x4_46 0)] rfl (by (try simp only [List.map_toArray, List.map_cons, List.map_nil]); first | done | rfl | (simp only [List.length_drop, List.length_take]; rfl)) ?_; (with_reducible refine (tidemillref26_Unshow.calls kj61 (rdOf ByteArray.empty x4_46 0) t144 false _ A71.out).mono ?_); rintro e w85 ⟨rfl, hb⟩; refine ⟨_, rfl, ?_⟩; have n0_ := Aside0.mk (Kd.Q_below (by (with_reducible repeat (first | apply Kd.Q_alloc | apply Kd.Q_drewN | apply Kd.Q_drew)); exact HO_4.out) hb); have n1_ := Aside0.mk (blk_below (g := gb119) (o := .cells #[.int .i64 x120000_46, .int .i64 x120001_46, .int .i64 x120002_46, .string x120003_46, .slice none 0 0] 46 (0, 0)) (by (with_reducible repeat (first | refine blk_drewN ?_ _ | refine blk_drew ?_ | refine blk_alloc ?_ _)); exact BK119.out) hb); have n2_ := Aside0.mk (blk_below (g := gb123) (o := .cells #[.int .i64 x124000_1, .int .i64 x124001_25, .int .i64 x124002_46, .string (⟨#[]⟩ : ByteArray), .slice none 0 0] 46 (0, 0)) (by (with_reducible repeat (first | refine blk_drewN ?_ _ | refine blk_drew ?_ | refine blk_alloc ?_ _)); exact BK123.out) hb); have n3_ := Aside0.mk (below_step (by repeat (first | (with_reducible first | exact HB.out | apply below_alloc | apply pw_below_drewN | apply below_drew1 | refine below_set ?_ GE119.out | refine below_set ?_ GE123.out) | exact HB.out)) hb); clear HO_4; clear BK119; clear BK123; clear HB; have HO_4 := n0_; have BK119 := n1_; have BK123 := n2_; have HB := n3_; clear n0_ n1_ n2_ n3_; (try clear hb); (try clear hb2); (try clear hk); (try clear hi); have hnb86 := NB123_119.out; have hnc86 := NB119_123.out; have hcz87_0 : w85.cell? ⟨gb123, 0, none⟩ = some (.int .i64 x124000_1) := (blk_cell BK123.out 0).trans rfl; have hcz87_1 : w85.cell? ⟨gb123, 1, none⟩ = some (.int .i64 x124001_25) := (blk_cell BK123.out 1).trans rfl; have hcz87_2 : w85.cell? ⟨gb123, 2, none⟩ = some (.int .i64 x124002_46) := (blk_cell BK123.out 2).trans rfl; have hcz87_3 : w85.cell? ⟨gb123, 3, none⟩ = some (.string (⟨#[]⟩ : ByteArray)) := (blk_cell BK123.out 3).trans rfl; have hcz87_4 : w85.cell? ⟨gb123, 4, none⟩ = some (.slice none 0 0) := (blk_cell BK123.out 4).trans rfl; have hfz87_0 := blk_frozen BK123.out 0; have hfz87_1 := blk_frozen BK123.out 1; have hfz87_2 := blk_frozen BK123.out 2; have hfz87_3 := blk_frozen BK123.out 3; have hfz87_4 := blk_frozen BK123.out 4))
                                    have n0_ : Aside0 (Kd.Q Kd.string 9 (w85.setCell ⟨gb123, 3, none⟩ (.string t144)) w.heap.size (fun _ => True) (.slice (some ad143) x4_46.length co84) x4_46) := ⟨by (with_reducible repeat (first | apply Kd.Q_alloc | apply Kd.Q_drewN | apply Kd.Q_drew)); exact Kd.Q_mono (Kd.Q_far (p := ⟨gb123, 3, none⟩) (Kd.Q_types HO_4.out BK123.out (by decide)) (fun _ hk => hk.2) (.string t144)) (fun _ hk => trivial)⟩
                                    have n1_ : Aside0 ((w85.setCell ⟨gb123, 3, none⟩ (.string t144)).heap[gb119]? = some (.cells #[.int .i64 x120000_46, .int .i64 x120001_46, .int .i64 x120002_46, .string x120003_46, .slice none 0 0] 46 (0, 0))) := ⟨by (with_reducible repeat (first | refine blk_drewN ?_ _ | refine blk_drew ?_ | refine blk_alloc ?_ _)); refine blk_far ?_ NB119_123.out _; (with_reducible repeat (first | refine blk_drewN ?_ _ | refine blk_drew ?_ | refine blk_alloc ?_ _)); exact BK119.out⟩
                                    have n2_ : Aside0 ((w85.setCell ⟨gb123, 3, none⟩ (.string t144)).heap[gb123]? = some (.cells #[.int .i64 x124000_1, .int .i64 x124001_25, .int .i64 x124002_46, .string t144, .slice none 0 0] 46 (0, 0))) := ⟨by (with_reducible repeat (first | refine blk_drewN ?_ _ | refine blk_drew ?_ | refine blk_alloc ?_ _)); refine blk_put (cs := #[.int .i64 x124000_1, .int .i64 x124001_25, .int .i64 x124002_46, .string (⟨#[]⟩ : ByteArray), .slice none 0 0]) ?_ 3 _ rfl; (with_reducible repeat (first | refine blk_drewN ?_ _ | refine blk_drew ?_ | refine blk_alloc ?_ _)); exact BK123.out⟩
                                    have n3_ : Aside0 (Below w.heap.size w (w85.setCell ⟨gb123, 3, none⟩ (.string t144))) := ⟨by repeat (first | (with_reducible first | exact HB.out | apply below_alloc | apply pw_below_drewN | apply below_drew1 | refine below_set ?_ GE119.out | refine below_set ?_ GE123.out) | exact HB.out)⟩
                                    (try clear HO_4)
                                    (try clear BK119)
                                    (try clear BK123)
                                    (try clear HB)
                                    generalize (w85.setCell ⟨gb123, 3, none⟩ (.string t144)) = w88 at n0_ n1_ n2_ n3_ ⊢
                                    have HO_4 := n0_
                                    have BK119 := n1_
                                    have BK123 := n2_
                                    have HB := n3_
                                    clear n0_ n1_ n2_ n3_
                                    have n0_ := Aside0.mk (Kd.Q_drew HO_4.out)
                                    have n1_ := Aside0.mk (blk_drew BK119.out)
                                    have n2_ := Aside0.mk (blk_drew BK123.out)
                                    have n3_ := Aside0.mk (below_drew1 HB.out)
                                    clear HO_4
                                    clear BK119
                                    clear BK123
                                    clear HB
                                    have HO_4 := n0_
                                    have BK119 := n1_
                                    have BK123 := n2_
                                    have HB := n3_
                                    clear n0_ n1_ n2_ n3_
                                    refine start_ (n := 9) (S := fun w' => w'.cell? ⟨gb123, 0, none⟩ = some (.int .i64 x124000_1) ∧ w'.cell? ⟨gb123, 1, none⟩ = some (.int .i64 x124001_25) ∧ w'.cell? ⟨gb123, 2, none⟩ = some (.int .i64 x124002_46) ∧ w'.cell? ⟨gb123, 3, none⟩ = some (.string t144) ∧ w'.cell? ⟨gb123, 4, none⟩ = some (.slice none 0 0)) (ds := []) #[false, false, false, false, false, false, false, false, false] (by kernel_rfl) rfl rfl ⟨(blk_cell BK123.out 0).trans rfl, (blk_cell BK123.out 1).trans rfl, (blk_cell BK123.out 2).trans rfl, (blk_cell BK123.out 3).trans rfl, (blk_cell BK123.out 4).trans rfl⟩ (fun hHeld => ?_); refine with_tabW tidemillref26_Act1.tab26 tidemillref26_Act1.bits26 (fun HT_ HW_ => ?_)
                                    generalize w88.drew = w89 at HO_4 BK119 BK123 HB hHeld ⊢
                                    refine pure_ (i := 1) (N := some 89) (v := ?_) (a' := ?_) #[false, true, false, false, false, false, false, false, false] rfl rfl (any_of HT_.out (by kernel_rfl)) (fun _ _ _ h => h) (Or.inl ⟨by rfl, ?_⟩) ?_ ?_
                                    rotate_left
                                    · intro w'
                                      go_simp
                                      with_reducible rfl
                                    rotate_left
                                    · simp only [Act.put, List.setIfInBounds_toArray, List.set_cons_zero, List.set_cons_succ, i64_w, i32_w]
                                      rfl
                                    refine pure_ (i := 2) (N := some 90) (v := ?_) (a' := ?_) #[false, true, true, false, false, false, false, false, false] rfl rfl (any_of HT_.out (by kernel_rfl)) (fun _ _ _ h => h) (Or.inl ⟨by rfl, ?_⟩) ?_ ?_
                                    rotate_left
                                    · intro w'
                                      go_simp
                                      with_reducible rfl
                                    rotate_left
                                    · simp only [Act.put, List.setIfInBounds_toArray, List.set_cons_zero, List.set_cons_succ, i64_w, i32_w]
                                      rfl
                                    refine pure_ (i := 3) (N := some 91) (v := undef) (a' := ?_) #[false, true, true, true, false, false, false, false, false] rfl rfl (any_of HT_.out (by kernel_rfl)) (fun _ _ _ h => h) (Or.inr ⟨by rfl, rfl⟩) ?_ ?_
                                    rotate_left
                                    · simp only [Act.put, List.setIfInBounds_toArray, List.set_cons_zero, List.set_cons_succ, i64_w, i32_w]
                                      rfl
                                    refine pure_ (i := 4) (N := some 92) (v := undef) (a' := ?_) #[false, true, true, true, true, false, false, false, false] rfl rfl (any_of HT_.out (by kernel_rfl)) (fun _ _ _ h => h) (Or.inr ⟨by rfl, rfl⟩) ?_ ?_
                                    rotate_left
                                    · simp only [Act.put, List.setIfInBounds_toArray, List.set_cons_zero, List.set_cons_succ, i64_w, i32_w]
                                      rfl
                                    refine pure_ (i := 5) (N := some 93) (v := undef) (a' := ?_) #[false, true, true, true, true, true, false, false, false] rfl rfl (any_of HT_.out (by kernel_rfl)) (fun _ _ _ h => h) (Or.inr ⟨by rfl, rfl⟩) ?_ ?_
                                    rotate_left
                                    · simp only [Act.put, List.setIfInBounds_toArray, List.set_cons_zero, List.set_cons_succ, i64_w, i32_w]
                                      rfl
                                    refine pure_ (i := 6) (N := some 94) (v := ?_) (a' := ?_) #[false, true, true, true, true, true, true, false, false] rfl rfl (any_of HT_.out (by kernel_rfl)) (fun _ _ _ h => h) (Or.inl ⟨by rfl, ?_⟩) ?_ ?_
                                    rotate_left
                                    · intro w'
                                      go_simp
                                      with_reducible rfl
                                    rotate_left
                                    · simp only [Act.put, List.setIfInBounds_toArray, List.set_cons_zero, List.set_cons_succ, i64_w, i32_w]
                                      rfl
                                    refine take_ (i := 0) (N := some 88) (v := ?_) (a' := ?_) #[true, true, true, true, true, true, true, false, false] rfl rfl (take_ofW HT_.out HW_.out (by kernel_rfl)) (fun _ _ _ h => h) (Or.inl ⟨by rfl, ?_⟩) hHeld ?_ ?_
                                    rotate_left
                                    · rintro w' ⟨s0, s1, s2, s3, s4⟩
                                      go_simp
                                      with_reducible rfl
                                    rotate_left
                                    · simp only [Act.put, List.setIfInBounds_toArray, List.set_cons_zero, List.set_cons_succ, i64_w, i32_w]
                                      rfl
                                    refine one_ (i := 7) (N := none) #[true, true, true, true, true, true, true, true, false] rfl rfl (one_of HT_.out (by kernel_rfl)) (by decide) (fun K hK => ?_)
                                    have hs90 : w89.cell? ⟨gb119, 0, none⟩ = some (.int .i64 x120000_46) := (blk_cell BK119.out 0).trans rfl
                                    have hfs90 := blk_frozen BK119.out 0
                                    have hns90_1 := NB123_119.out
                                    have hms90_1 := NB119_123.out
                                    have hs91 : w89.cell? ⟨gb119, 1, none⟩ = some (.int .i64 x120001_46) := (blk_cell BK119.out 1).trans rfl
                                    have hfs91 := blk_frozen BK119.out 1
                                    have hns91_1 := NB123_119.out
                                    have hms91_1 := NB119_123.out
                                    have hs92 : w89.cell? ⟨gb119, 2, none⟩ = some (.int .i64 x120002_46) := (blk_cell BK119.out 2).trans rfl
                                    have hfs92 := blk_frozen BK119.out 2
                                    have hns92_1 := NB123_119.out
                                    have hms92_1 := NB119_123.out
                                    have hs93 : w89.cell? ⟨gb119, 3, none⟩ = some (.string x120003_46) := (blk_cell BK119.out 3).trans rfl
                                    have hfs93 := blk_frozen BK119.out 3
                                    have hns93_1 := NB123_119.out
                                    have hms93_1 := NB119_123.out
                                    have hs94 : w89.cell? ⟨gb119, 4, none⟩ = some (.slice none 0 0) := (blk_cell BK119.out 4).trans rfl
                                    have hfs94 := blk_frozen BK119.out 4
                                    have hns94_1 := NB123_119.out
                                    have hms94_1 := NB119_123.out
                                    refine skip_ (w1 := ?_) (by rfl) rfl ?_ ?_
                                    rotate_left
                                    · go_simp
                                      rfl
                                    refine hK.out _ _ ⟨((cell_far (p := ⟨gb119, _, none⟩) NB123_119.out _).trans (((cell_far (p := ⟨gb119, _, none⟩) NB123_119.out _).trans (((cell_far (p := ⟨gb119, _, none⟩) NB123_119.out _).trans (((cell_far (p := ⟨gb119, _, none⟩) NB123_119.out _).trans (((cell_far (p := ⟨gb119, _, none⟩) NB123_119.out _).trans (hHeld.1)))))))))), ((cell_far (p := ⟨gb119, _, none⟩) NB123_119.out _).trans (((cell_far (p := ⟨gb119, _, none⟩) NB123_119.out _).trans (((cell_far (p := ⟨gb119, _, none⟩) NB123_119.out _).trans (((cell_far (p := ⟨gb119, _, none⟩) NB123_119.out _).trans (((cell_far (p := ⟨gb119, _, none⟩) NB123_119.out _).trans (hHeld.2.1)))))))))), ((cell_far (p := ⟨gb119, _, none⟩) NB123_119.out _).trans (((cell_far (p := ⟨gb119, _, none⟩) NB123_119.out _).trans (((cell_far (p := ⟨gb119, _, none⟩) NB123_119.out _).trans (((cell_far (p := ⟨gb119, _, none⟩) NB123_119.out _).trans (((cell_far (p := ⟨gb119, _, none⟩) NB123_119.out _).trans (hHeld.2.2.1)))))))))), ((cell_far (p := ⟨gb119, _, none⟩) NB123_119.out _).trans (((cell_far (p := ⟨gb119, _, none⟩) NB123_119.out _).trans (((cell_far (p := ⟨gb119, _, none⟩) NB123_119.out _).trans (((cell_far (p := ⟨gb119, _, none⟩) NB123_119.out _).trans (((cell_far (p := ⟨gb119, _, none⟩) NB123_119.out _).trans (hHeld.2.2.2.1)))))))))), ((cell_far (p := ⟨gb119, _, none⟩) NB123_119.out _).trans (((cell_far (p := ⟨gb119, _, none⟩) NB123_119.out _).trans (((cell_far (p := ⟨gb119, _, none⟩) NB123_119.out _).trans (((cell_far (p := ⟨gb119, _, none⟩) NB123_119.out _).trans (((cell_far (p := ⟨gb119, _, none⟩) NB123_119.out _).trans (hHeld.2.2.2.2))))))))))⟩ (fun hHeld => ?_)
                                    clear hK K
                                    refine pure_ (i := 8) (N := some 3) (v := ?_) (a' := ?_) #[true, true, true, true, true, true, true, true, true] rfl rfl (any_of HT_.out (by kernel_rfl)) (fun _ _ _ h => h) (Or.inl ⟨by rfl, ?_⟩) ?_ ?_
                                    rotate_left
                                    · intro w'
                                      go_simp
                                      with_reducible rfl
                                    rotate_left
                                    · simp only [Act.put, List.setIfInBounds_toArray, List.set_cons_zero, List.set_cons_succ, i64_w, i32_w]
                                      rfl
                                    refine done_ (done_of HT_.out (by kernel_rfl)) ?_
                                    try go_wp2
                                    refine bodyPost_ret (results_ct rfl _ _ gb119 46 #[.int .i64 x124000_1, .int .i64 x124001_25, .int .i64 x124002_46, .string t144, .slice none 0 0] (0, 0) _ rfl (by (with_reducible repeat (first | refine blk_drewN ?_ _ | refine blk_drew ?_ | refine blk_alloc ?_ _)); refine blk_put (cs := #[.int .i64 x124000_1, .int .i64 x124001_25, .int .i64 x124002_46, .string t144, .slice none 0 0]) ?_ 4 _ rfl; (with_reducible repeat (first | refine blk_drewN ?_ _ | refine blk_drew ?_ | refine blk_alloc ?_ _)); refine blk_put (cs := #[.int .i64 x124000_1, .int .i64 x124001_25, .int .i64 x124002_46, .string x120003_46, .slice none 0 0]) ?_ 3 _ rfl; (with_reducible repeat (first | refine blk_drewN ?_ _ | refine blk_drew ?_ | refine blk_alloc ?_ _)); refine blk_put (cs := #[.int .i64 x124000_1, .int .i64 x124001_25, .int .i64 x120002_46, .string x120003_46, .slice none 0 0]) ?_ 2 _ rfl; (with_reducible repeat (first | refine blk_drewN ?_ _ | refine blk_drew ?_ | refine blk_alloc ?_ _)); refine blk_put (cs := #[.int .i64 x124000_1, .int .i64 x120001_46, .int .i64 x120002_46, .string x120003_46, .slice none 0 0]) ?_ 1 _ rfl; (with_reducible repeat (first | refine blk_drewN ?_ _ | refine blk_drew ?_ | refine blk_alloc ?_ _)); refine blk_put (cs := #[.int .i64 x120000_46, .int .i64 x120001_46, .int .i64 x120002_46, .string x120003_46, .slice none 0 0]) ?_ 0 _ rfl; (with_reducible repeat (first | refine blk_drewN ?_ _ | refine blk_drew ?_ | refine blk_alloc ?_ _)); exact BK119.out) Tryd.underlying46 rfl (by kernel_rfl)) rfl ?_
                                    exact ⟨_, by first | rfl | (simp [errW_none, errW_some] <;> rfl) | (simp [*, errW_none, errW_some] <;> first | rfl | exact empty_ne _ | exact ⟨rfl, empty_ne _⟩), by first | exact Kd.R_nil _ _ _ _ _ | exact Kd.N_nil _ _ _ _ _ | exact Kd.V_nil _ _ _ _ _ | exact Kd.Q_nil _ _ _ _ _ | exact Kd.S_nil _ _ _ _ _, by repeat (first | (with_reducible first | exact HB.out | apply below_alloc | apply pw_below_drewN | apply below_drew1 | refine below_set ?_ GE119.out | refine below_set ?_ GE123.out) | exact HB.out)⟩
                                · rw [if_neg c70] at H
                                  exact absurd H (by simp)
                              · replace c69 := Bool.eq_false_iff.mpr c69
                                subst c69
                                have H1 : (if x124000_1 = 8 then (tidemillref26_Act1.l1 kj61 x4_46 true (x4_46.length : Int) 0 x124000_1 x124001_25 x124002_46 (⟨#[]⟩ : ByteArray) ([] : List Int)) else (some (x124000_1, x124001_25, x124002_46, (⟨#[]⟩ : ByteArray), ([] : List Int), ((x4_46.length : Int) == 0)))) = some (r1, r2, r3, r4, r5, r6) := by rw [if_neg (show ¬ (false = true) by decide)] at H; exact H
                                clear H
                                have H := H1
                                clear H1
                                by_cases c95 : x124000_1 = 8
                                · rw [if_pos c95] at H
                                  have c95b0 : (x124000_1 == 8) = true := beq_iff_eq.mpr c95
                                  have c95b1 : (x124000_1 != 8) = false := bne_eq_false_iff_eq.mpr c95
                                  clear c95
                                  have H' := Aside0.mk H
                                  clear H
                                  have hnb96 := NB123_119.out
                                  have hnc96 := NB119_123.out
                                  have hcz97_0 : wc.cell? ⟨gb123, 0, none⟩ = some (.int .i64 x124000_1) := (blk_cell BK123.out 0).trans rfl
                                  have hcz97_1 : wc.cell? ⟨gb123, 1, none⟩ = some (.int .i64 x124001_25) := (blk_cell BK123.out 1).trans rfl
                                  have hcz97_2 : wc.cell? ⟨gb123, 2, none⟩ = some (.int .i64 x124002_46) := (blk_cell BK123.out 2).trans rfl
                                  have hcz97_3 : wc.cell? ⟨gb123, 3, none⟩ = some (.string (⟨#[]⟩ : ByteArray)) := (blk_cell BK123.out 3).trans rfl
                                  have hcz97_4 : wc.cell? ⟨gb123, 4, none⟩ = some (.slice none 0 0) := (blk_cell BK123.out 4).trans rfl
                                  have hfz97_0 := blk_frozen BK123.out 0
                                  have hfz97_1 := blk_frozen BK123.out 1
                                  have hfz97_2 := blk_frozen BK123.out 2
                                  have hfz97_3 := blk_frozen BK123.out 3
                                  have hfz97_4 := blk_frozen BK123.out 4
                                  obtain ⟨Ao98, co98, eo98, _⟩ := Kd.Q_slice HO_4.out
                                  subst eo98
                                  go_wp2
                                  go_loopg [7, 104] kj61 (fun kq v7 v104 w' => ∃ (x7_6 : Bool) (x104_6 : Int) (x124004_6 : List Int) (u124004 : Value), v7 = .bool x7_6 ∧ v104 = .int .i64 x104_6 ∧ Aside0 (tidemillref26_Act1.l1 kq x4_46 x7_6 (x4_46.length : Int) x104_6 x124000_1 x124001_25 x124002_46 (⟨#[]⟩ : ByteArray) x124004_6 = some (r1, r2, r3, r4, r5, r6)) ∧ Aside0 (kq ≤ kj61) ∧ Aside0 (Kd.Q Kd.string 9 w' w.heap.size (fun _ => True) (.slice Ao98 x4_46.length co98) x4_46) ∧ Aside0 (Kd.R (Kd.int .i64) 3 w' w.heap.size (fun _ => True) u124004 x124004_6) ∧ Aside0 (w'.heap[gb119]? = some (.cells #[.int .i64 x120000_46, .int .i64 x120001_46, .int .i64 x120002_46, .string x120003_46, (.slice none 0 0)] 46 (0, 0))) ∧ Aside0 (w'.heap[gb123]? = some (.cells #[.int .i64 x124000_1, .int .i64 x124001_25, .int .i64 x124002_46, .string (⟨#[]⟩ : ByteArray), u124004] 46 (0, 0))) ∧ Aside0 (Below w.heap.size w w'))
                                  case atStart => exact ⟨(true), (0), (([] : List Int)), (.slice none 0 0), (by first | rfl | (simp; done) | (simp [*]; done)), (by first | rfl | (simp; done) | (simp [*]; done)), H', ⟨Nat.le_refl _⟩, ⟨by (with_reducible repeat (first | apply Kd.Q_alloc | apply Kd.Q_drewN | apply Kd.Q_drew)); exact HO_4.out⟩, ⟨by first | exact Kd.R_nil _ _ _ _ _ | exact Kd.N_nil _ _ _ _ _ | exact Kd.V_nil _ _ _ _ _ | exact Kd.Q_nil _ _ _ _ _ | exact Kd.S_nil _ _ _ _ _⟩, ⟨by (with_reducible repeat (first | refine blk_drewN ?_ _ | refine blk_drew ?_ | refine blk_alloc ?_ _)); exact BK119.out⟩, ⟨by (with_reducible repeat (first | refine blk_drewN ?_ _ | refine blk_drew ?_ | refine blk_alloc ?_ _)); exact BK123.out⟩, ⟨by repeat (first | (with_reducible first | exact HB.out | apply below_alloc | apply pw_below_drewN | apply below_drew1 | refine below_set ?_ GE119.out | refine below_set ?_ GE123.out) | exact HB.out)⟩⟩
                                  case round =>
                                    clear H'
                                    try clear c1
                                    try clear p1
                                    try clear q1
                                    try clear hx1
                                    try clear qi1
                                    try clear c2
                                    try clear p2
                                    try clear c3
                                    try clear q3
                                    try clear c4
                                    try clear q4
                                    try clear c5
                                    try clear c6
                                    try clear p6
                                    try clear q6
                                    try clear c7
                                    try clear c8
                                    try clear c8b0
                                    try clear c9
                                    try clear c10
                                    try clear c10b0
                                    try clear c10b1
                                    try clear c11
                                    try clear c11b0
                                    try clear c11b1
                                    try clear p12
                                    try clear q12
                                    try clear hx12
                                    try clear qi12
                                    try clear p13
                                    try clear q13
                                    try clear hx13
                                    try clear qi13
                                    try clear p14
                                    try clear q14
                                    try clear hx14
                                    try clear qi14
                                    try clear c15
                                    try clear c20
                                    try clear c20b0
                                    try clear c20b1
                                    try clear c21
                                    try clear c24
                                    try clear c24b0
                                    try clear c24b1
                                    try clear c27
                                    try clear c28
                                    try clear c30
                                    try clear q30
                                    try clear c31
                                    try clear c32
                                    try clear c32b0
                                    try clear c32b1
                                    try clear c32b2
                                    try clear c33
                                    try clear c35
                                    try clear c35b0
                                    try clear c35b1
                                    try clear c37
                                    try clear c37b0
                                    try clear c37b1
                                    try clear c38
                                    try clear c41
                                    try clear q41
                                    try clear c43
                                    try clear c45
                                    try clear c48
                                    try clear c49
                                    try clear c49b0
                                    try clear c49b1
                                    try clear c49b2
                                    try clear c51
                                    try clear c53
                                    try clear c53b0
                                    try clear c53b1
                                    try clear c55
                                    try clear c55b0
                                    try clear c55b1
                                    try clear c57
                                    try clear c58
                                    try clear c59
                                    try clear c60
                                    try clear q60
                                    try clear c61
                                    try clear c63
                                    try clear c63b0
                                    try clear c63b1
                                    try clear c64
                                    try clear c67
                                    try clear c69
                                    try clear c70
                                    try clear c70b0
                                    try clear c70b1
                                    try clear c72
                                    try clear c75
                                    try clear c86
                                    try clear c95
                                    try clear c95b0
                                    try clear c95b1
                                    try clear c96
                                    try clear hcz16_0
                                    try clear hcz16_1
                                    try clear hcz16_2
                                    try clear hcz16_3
                                    try clear hcz16_4
                                    try clear hcz22_0
                                    try clear hcz22_1
                                    try clear hcz22_2
                                    try clear hcz22_3
                                    try clear hcz22_4
                                    try clear hcz23_0
                                    try clear hcz23_1
                                    try clear hcz23_2
                                    try clear hcz23_3
                                    try clear hcz23_4
                                    try clear hcz28_0
                                    try clear hcz28_1
                                    try clear hcz28_2
                                    try clear hcz28_3
                                    try clear hcz28_4
                                    try clear hcz34_0
                                    try clear hcz34_1
                                    try clear hcz34_2
                                    try clear hcz34_3
                                    try clear hcz34_4
                                    try clear hcz39_0
                                    try clear hcz39_1
                                    try clear hcz39_2
                                    try clear hcz39_3
                                    try clear hcz39_4
                                    try clear hcz46_0
                                    try clear hcz46_1
                                    try clear hcz46_2
                                    try clear hcz46_3
                                    try clear hcz46_4
                                    try clear hcz52_0
                                    try clear hcz52_1
                                    try clear hcz52_2
                                    try clear hcz52_3
                                    try clear hcz52_4
                                    try clear hcz58_0
                                    try clear hcz58_1
                                    try clear hcz58_2
                                    try clear hcz58_3
                                    try clear hcz58_4
                                    try clear hcz65_0
                                    try clear hcz65_1
                                    try clear hcz65_2
                                    try clear hcz65_3
                                    try clear hcz65_4
                                    try clear hcz68_0
                                    try clear hcz68_1
                                    try clear hcz68_2
                                    try clear hcz68_3
                                    try clear hcz68_4
                                    try clear hcz76_0
                                    try clear hcz76_1
                                    try clear hcz76_2
                                    try clear hcz76_3
                                    try clear hcz76_4
                                    try clear hcz7_0
                                    try clear hcz7_1
                                    try clear hcz7_2
                                    try clear hcz7_3
                                    try clear hcz7_4
                                    try clear hcz87_0
                                    try clear hcz87_1
                                    try clear hcz87_2
                                    try clear hcz87_3
                                    try clear hcz87_4
                                    try clear hcz97_0
                                    try clear hcz97_1
                                    try clear hcz97_2
                                    try clear hcz97_3
                                    try clear hcz97_4
                                    try clear hfz16_0
                                    try clear hfz16_1
                                    try clear hfz16_2
                                    try clear hfz16_3
                                    try clear hfz16_4
                                    try clear hfz22_0
                                    try clear hfz22_1
                                    try clear hfz22_2
                                    try clear hfz22_3
                                    try clear hfz22_4
                                    try clear hfz23_0
                                    try clear hfz23_1
                                    try clear hfz23_2
                                    try clear hfz23_3
                                    try clear hfz23_4
                                    try clear hfz28_0
                                    try clear hfz28_1
                                    try clear hfz28_2
                                    try clear hfz28_3
                                    try clear hfz28_4
                                    try clear hfz34_0
                                    try clear hfz34_1
                                    try clear hfz34_2
                                    try clear hfz34_3
                                    try clear hfz34_4
                                    try clear hfz39_0
                                    try clear hfz39_1
                                    try clear hfz39_2
                                    try clear hfz39_3
                                    try clear hfz39_4
                                    try clear hfz46_0
                                    try clear hfz46_1
                                    try clear hfz46_2
                                    try clear hfz46_3
                                    try clear hfz46_4
                                    try clear hfz52_0
                                    try clear hfz52_1
                                    try clear hfz52_2
                                    try clear hfz52_3
                                    try clear hfz52_4
                                    try clear hfz58_0
                                    try clear hfz58_1
                                    try clear hfz58_2
                                    try clear hfz58_3
                                    try clear hfz58_4
                                    try clear hfz65_0
                                    try clear hfz65_1
                                    try clear hfz65_2
                                    try clear hfz65_3
                                    try clear hfz65_4
                                    try clear hfz68_0
                                    try clear hfz68_1
                                    try clear hfz68_2
                                    try clear hfz68_3
                                    try clear hfz68_4
                                    try clear hfz76_0
                                    try clear hfz76_1
                                    try clear hfz76_2
                                    try clear hfz76_3
                                    try clear hfz76_4
                                    try clear hfz7_0
                                    try clear hfz7_1
                                    try clear hfz7_2
                                    try clear hfz7_3
                                    try clear hfz7_4
                                    try clear hfz87_0
                                    try clear hfz87_1
                                    try clear hfz87_2
                                    try clear hfz87_3
                                    try clear hfz87_4
                                    try clear hfz97_0
                                    try clear hfz97_1
                                    try clear hfz97_2
                                    try clear hfz97_3
                                    try clear hfz97_4
                                    try clear hx125_0
                                    try clear hx130_0
                                    try clear hx137_0
                                    try clear hx143_0
                                    try clear p1
                                    try clear p12
                                    try clear p125
                                    try clear p13
                                    try clear p130
                                    try clear p137
                                    try clear p143
                                    try clear p2
                                    try clear p6
                                    try clear q1
                                    try clear q12
                                    try clear q125
                                    try clear q13
                                    try clear q130
                                    try clear q137
                                    try clear q143
                                    try clear q3
                                    try clear q30
                                    try clear q4
                                    try clear q41
                                    try clear q6
                                    try clear q60
                                    obtain ⟨x7_6, x104_6, x124004_6, u124004, rfl, rfl, HA, HK6, HO_4, HO_124004, BK119, BK123, HB⟩ := hrel
                                    cases gk with
                                    | zero => exact absurd HA.out (by simp [tidemillref26_Act1.l1])
                                    | succ k6 =>
                                      have H := HA.out
                                      clear HA
                                      simp only [tidemillref26_Act1.l1] at H
                                      by_cases c99 : x104_6 < (x4_46.length : Int)
                                      · rw [if_pos c99] at H
                                        have c99b0 : decide (x104_6 < (x4_46.length : Int)) = true := decide_eq_true c99
                                        clear c99
                                        by_cases c100 : 0 ≤ x104_6
                                        · rw [if_pos c100] at H
                                          have c100b0 : decide (0 ≤ x104_6) = true := decide_eq_true c100
                                          clear c100
                                          by_cases c101 : x104_6 < (x4_46.length : Int)
                                          · rw [if_pos c101] at H
                                            have c101b0 : decide (x104_6 < (x4_46.length : Int)) = true := decide_eq_true c101
                                            clear c101
                                            replace H := Option.bind_eq_some_iff.mp H
                                            obtain ⟨⟨t147, t148⟩, A1020, H⟩ := H
                                            replace H : (if x7_6 = true then (if x124004_6.length < 17592186044416 then (tidemillref26_Act1.l1 k6 x4_46 t148 (x4_46.length : Int) (wrap64 (x104_6 + 1)) x124000_1 x124001_25 x124002_46 (⟨#[]⟩ : ByteArray) (x124004_6 ++ [t147])) else (none)) else (if x124004_6.length < 17592186044416 then (tidemillref26_Act1.l1 k6 x4_46 false (x4_46.length : Int) (wrap64 (x104_6 + 1)) x124000_1 x124001_25 x124002_46 (⟨#[]⟩ : ByteArray) (x124004_6 ++ [t147])) else (none))) = some (r1, r2, r3, r4, r5, r6) := H
                                            have A102 := Aside0.mk A1020
                                            clear A1020
                                            by_cases c103 : x7_6 = true
                                            · subst c103
                                              have H1 : (if x124004_6.length < 17592186044416 then (tidemillref26_Act1.l1 k6 x4_46 t148 (x4_46.length : Int) (wrap64 (x104_6 + 1)) x124000_1 x124001_25 x124002_46 (⟨#[]⟩ : ByteArray) (x124004_6 ++ [t147])) else (none)) = some (r1, r2, r3, r4, r5, r6) := by rw [if_pos rfl] at H; exact H
                                              clear H
                                              have H := H1
                                              clear H1
                                              by_cases c104 : x124004_6.length < 17592186044416
                                              · rw [if_pos c104] at H
                                                have LMc104 := Aside0.mk c104
                                                clear c104
                                                obtain ⟨y149, hy149⟩ : ∃ y_ : List Int, y_ = (x124004_6 ++ [t147]) := ⟨_, rfl⟩
                                                replace H : (tidemillref26_Act1.l1 k6 x4_46 t148 (x4_46.length : Int) (wrap64 (x104_6 + 1)) x124000_1 x124001_25 x124002_46 (⟨#[]⟩ : ByteArray) y149) = some (r1, r2, r3, r4, r5, r6) := by first | (rw [hy149]; with_reducible exact H) | (have H2_ := (Option.bind_some _ _).symm.trans H; rw [hy149]; with_reducible exact H2_) | (have H2_ := (Option.bind_some _ _).symm.trans H; with_reducible exact H2_) | with_reducible exact H | (rw [hy149]; exact H) | exact H
                                                have Ny149 := Aside0.mk hy149
                                                clear hy149
                                                have H' := Aside0.mk H
                                                clear H
                                                have p146 : 0 ≤ (x104_6 : Int) := of_decide_eq_true (by first | (with_reducible assumption) | assumption)
                                                have q146 : x104_6 < (x4_46.length : Int) := of_decide_eq_true (by first | (with_reducible assumption) | assumption)
                                                obtain ⟨ad146, e146, hx146_0⟩ := Kd.at_string (Kd.Q_reads' HO_4.out).2.2 x104_6 p146 q146
                                                cases e146
                                                replace p146 := eq_true p146
                                                replace q146 := eq_true q146
                                                go_wp2_with (first | ((with_reducible refine gate_callee (f := 59) rfl ?_); refine goesL_ (some 112) rfl rfl Tryd.func59 (by kernel_rfl) rfl #[.string (rdOf ByteArray.empty x4_46 x104_6)] rfl (by (try simp only [List.map_toArray, List.map_cons, List.map_nil]); first | done | rfl | (simp only [List.length_drop, List.length_take]; rfl)) ?_; (with_reducible refine (tidemillref26_number.calls k6 (rdOf ByteArray.empty x4_46 x104_6) t147 t148 _ A102.out).mono ?_); rintro e w' ⟨rfl, ⟨nd, rfl⟩⟩; refine ⟨_, rfl, ?_⟩; (try (rw [drewN_self wr]; generalize hq_ : World.drewN wr _ = wr; have n0_ : Aside0 (Kd.R (Kd.int .i64) 3 wr w.heap.size (fun _ => True) u124004 x124004_6) := ⟨by rw [← hq_]; exact (by (with_reducible repeat (first | apply Kd.R_alloc | apply Kd.R_drewN | apply Kd.R_drew)); exact HO_124004.out)⟩; have n1_ : Aside0 (Kd.Q Kd.string 9 wr w.heap.size (fun _ => True) (.slice (some ad146) x4_46.length co98) x4_46) := ⟨by rw [← hq_]; exact (by (with_reducible repeat (first | apply Kd.Q_alloc | apply Kd.Q_drewN | apply Kd.Q_drew)); exact HO_4.out)⟩; have n2_ : Aside0 (wr.heap[gb119]? = some (.cells #[.int .i64 x120000_46, .int .i64 x120001_46, .int .i64 x120002_46, .string x120003_46, .slice none 0 0] 46 (0, 0))) := ⟨by rw [← hq_]; exact (by (with_reducible repeat (first | refine blk_drewN ?_ _ | refine blk_drew ?_ | refine blk_alloc ?_ _)); exact BK119.out)⟩; have n3_ : Aside0 (wr.heap[gb123]? = some (.cells #[.int .i64 x124000_1, .int .i64 x124001_25, .int .i64 x124002_46, .string (⟨#[]⟩ : ByteArray), u124004] 46 (0, 0))) := ⟨by rw [← hq_]; exact (by (with_reducible repeat (first | refine blk_drewN ?_ _ | refine blk_drew ?_ | refine blk_alloc ?_ _)); exact BK123.out)⟩; have n4_ : Aside0 (Below w.heap.size w wr) := ⟨by rw [← hq_]; exact (by repeat (first | (with_reducible first | exact HB.out | apply below_alloc | apply pw_below_drewN | apply below_drew1 | refine below_set ?_ GE119.out | refine below_set ?_ GE123.out) | exact HB.out))⟩; clear HO_124004 HO_4 BK119 BK123 HB hq_; have HO_124004 := n0_; have HO_4 := n1_; have BK119 := n2_; have BK123 := n3_; have HB := n4_; clear n0_ n1_ n2_ n3_ n4_)); have hnb105 := NB123_119.out; have hnc105 := NB119_123.out; have hcz106_0 : wr.cell? ⟨gb123, 0, none⟩ = some (.int .i64 x124000_1) := (blk_cell BK123.out 0).trans rfl; have hcz106_1 : wr.cell? ⟨gb123, 1, none⟩ = some (.int .i64 x124001_25) := (blk_cell BK123.out 1).trans rfl; have hcz106_2 : wr.cell? ⟨gb123, 2, none⟩ = some (.int .i64 x124002_46) := (blk_cell BK123.out 2).trans rfl; have hcz106_3 : wr.cell? ⟨gb123, 3, none⟩ = some (.string (⟨#[]⟩ : ByteArray)) := (blk_cell BK123.out 3).trans rfl; have hcz106_4 : wr.cell? ⟨gb123, 4, none⟩ = some (u124004) := (blk_cell BK123.out 4).trans rfl; have hfz106_0 := blk_frozen BK123.out 0; have hfz106_1 := blk_frozen BK123.out 1; have hfz106_2 := blk_frozen BK123.out 2; have hfz106_3 := blk_frozen BK123.out 3; have hfz106_4 := blk_frozen BK123.out 4) | ((with_reducible refine gate_builtin (b := .append) (xs := #[.tmp 120, .tmp 122]) rfl ?_); (try (refine gate_guard (by rfl) ?_; dsimp only)); at_builtin; refine Kd.R_append (Kd.int .i64) (w0 := w) w.heap.size rfl (.tmp 120) (.tmp 122) 34 3 (.int .i64 0) 8 rfl Tryd.underlying34 info3 rfl (by decide) (by omega) u124004 x124004_6 t147 [.int .i64 t147] (fun _ => True) (fun _ => False) rfl rfl ?aP (fun _ hk => hk.elim) ?aF ?aO ?aB ?aS ?aL ?_; (case aP => exact rfl); (case aB => exact (by repeat (first | (with_reducible first | exact HB.out | apply below_alloc | apply pw_below_drewN | apply below_drew1 | refine below_set ?_ GE119.out | refine below_set ?_ GE123.out) | exact HB.out))); (case aF => exact (fun _ _ => trivial)); (case aO => exact (by (with_reducible repeat (first | apply Kd.R_alloc | apply Kd.R_drewN | apply Kd.R_drew)); exact HO_124004.out)); (case aS => exact (below_size (by repeat (first | (with_reducible first | exact HB.out | apply below_alloc | apply pw_below_drewN | apply below_drew1 | refine below_set ?_ GE119.out | refine below_set ?_ GE123.out) | exact HB.out)))); (case aL => have := LMc104.out; omega); intro v150 w107 ho hb hg hat; rw [← Ny149.out] at ho; have n0_ := Aside0.mk (Kd.Q_over' (by (with_reducible repeat (first | apply Kd.Q_alloc | apply Kd.Q_drewN | apply Kd.Q_drew)); exact HO_4.out) (Kd.R_typed (by (with_reducible repeat (first | apply Kd.R_alloc | apply Kd.R_drewN | apply Kd.R_drew)); exact HO_124004.out)) (by decide) hg); have n1_ := Aside0.mk (blk_grown (g := gb119) (o := .cells #[.int .i64 x120000_46, .int .i64 x120001_46, .int .i64 x120002_46, .string x120003_46, .slice none 0 0] 46 (0, 0)) (by (with_reducible repeat (first | refine blk_drewN ?_ _ | refine blk_drew ?_ | refine blk_alloc ?_ _)); exact BK119.out) hg (Kd.R_ne HO_124004.out BK119.out (by decide))); have n2_ := Aside0.mk (blk_grown (g := gb123) (o := .cells #[.int .i64 x124000_1, .int .i64 x124001_25, .int .i64 x124002_46, .string (⟨#[]⟩ : ByteArray), u124004] 46 (0, 0)) (by (with_reducible repeat (first | refine blk_drewN ?_ _ | refine blk_drew ?_ | refine blk_alloc ?_ _)); exact BK123.out) hg (Kd.R_ne HO_124004.out BK123.out (by decide))); have n3_ := Aside0.mk (hb); have n4_ := Aside0.mk (ho); clear HO_4; clear BK119; clear BK123; clear HB; clear HO_124004; have HO_4 := n0_; have BK119 := n1_; have BK123 := n2_; have HB := n3_; have HO151 := n4_; clear n0_ n1_ n2_ n3_ n4_; clear ho hb hg hat; obtain ⟨Ao108, co108, eo108⟩ := Kd.R_slice HO151.out; subst eo108; have hcz109_0 : w107.cell? ⟨gb123, 0, none⟩ = some (.int .i64 x124000_1) := (blk_cell BK123.out 0).trans rfl; have hcz109_1 : w107.cell? ⟨gb123, 1, none⟩ = some (.int .i64 x124001_25) := (blk_cell BK123.out 1).trans rfl; have hcz109_2 : w107.cell? ⟨gb123, 2, none⟩ = some (.int .i64 x124002_46) := (blk_cell BK123.out 2).trans rfl; have hcz109_3 : w107.cell? ⟨gb123, 3, none⟩ = some (.string (⟨#[]⟩ : ByteArray)) := (blk_cell BK123.out 3).trans rfl; have hcz109_4 : w107.cell? ⟨gb123, 4, none⟩ = some (u124004) := (blk_cell BK123.out 4).trans rfl; have hfz109_0 := blk_frozen BK123.out 0; have hfz109_1 := blk_frozen BK123.out 1; have hfz109_2 := blk_frozen BK123.out 2; have hfz109_3 := blk_frozen BK123.out 3; have hfz109_4 := blk_frozen BK123.out 4))
                                                go_roundg k6
                                                case measure => have := HK1.out; have := HJ25.out; have := HJ41.out; have := HJ46.out; have := HJ61.out; have := HK6.out; omega
                                                case rel => exact ⟨(t148), (wrap64 (x104_6 + 1)), (y149), (.slice Ao108 y149.length co108), (by first | rfl | (simp; done) | (simp [*]; done)), (by first | rfl | (simp; done) | (simp [*]; done)), H', ⟨by have := HK1.out; have := HJ25.out; have := HJ41.out; have := HJ46.out; have := HJ61.out; have := HK6.out; omega⟩, ⟨by (with_reducible repeat (first | apply Kd.Q_alloc | apply Kd.Q_drewN | apply Kd.Q_drew)); exact Kd.Q_mono (Kd.Q_far (p := ⟨gb123, 4, none⟩) (Kd.Q_types HO_4.out BK123.out (by decide)) (fun _ hk => hk.2) (.slice Ao108 y149.length co108)) (fun _ hk => trivial)⟩, ⟨by (with_reducible repeat (first | apply Kd.R_alloc | apply Kd.R_drewN | apply Kd.R_drew)); exact Kd.R_mono (Kd.R_far (p := ⟨gb123, 4, none⟩) (Kd.R_types HO151.out BK123.out (by decide)) (fun _ hk => hk.2) (.slice Ao108 y149.length co108)) (fun _ hk => trivial)⟩, ⟨by (with_reducible repeat (first | refine blk_drewN ?_ _ | refine blk_drew ?_ | refine blk_alloc ?_ _)); refine blk_far ?_ NB119_123.out _; (with_reducible repeat (first | refine blk_drewN ?_ _ | refine blk_drew ?_ | refine blk_alloc ?_ _)); exact BK119.out⟩, ⟨by (with_reducible repeat (first | refine blk_drewN ?_ _ | refine blk_drew ?_ | refine blk_alloc ?_ _)); refine blk_put (cs := #[.int .i64 x124000_1, .int .i64 x124001_25, .int .i64 x124002_46, .string (⟨#[]⟩ : ByteArray), u124004]) ?_ 4 _ rfl; (with_reducible repeat (first | refine blk_drewN ?_ _ | refine blk_drew ?_ | refine blk_alloc ?_ _)); exact BK123.out⟩, ⟨by repeat (first | (with_reducible first | exact HB.out | apply below_alloc | apply pw_below_drewN | apply below_drew1 | refine below_set ?_ GE119.out | refine below_set ?_ GE123.out) | exact HB.out)⟩⟩
                                              · rw [if_neg c104] at H
                                                exact absurd H (by simp)
                                            · replace c103 := Bool.eq_false_iff.mpr c103
                                              subst c103
                                              have H1 : (if x124004_6.length < 17592186044416 then (tidemillref26_Act1.l1 k6 x4_46 false (x4_46.length : Int) (wrap64 (x104_6 + 1)) x124000_1 x124001_25 x124002_46 (⟨#[]⟩ : ByteArray) (x124004_6 ++ [t147])) else (none)) = some (r1, r2, r3, r4, r5, r6) := by rw [if_neg (show ¬ (false = true) by decide)] at H; exact H
                                              clear H
                                              have H := H1
                                              clear H1
                                              by_cases c110 : x124004_6.length < 17592186044416
                                              · rw [if_pos c110] at H
                                                have LMc110 := Aside0.mk c110
                                                clear c110
                                                obtain ⟨y152, hy152⟩ : ∃ y_ : List Int, y_ = (x124004_6 ++ [t147]) := ⟨_, rfl⟩
                                                replace H : (tidemillref26_Act1.l1 k6 x4_46 false (x4_46.length : Int) (wrap64 (x104_6 + 1)) x124000_1 x124001_25 x124002_46 (⟨#[]⟩ : ByteArray) y152) = some (r1, r2, r3, r4, r5, r6) := by first | (rw [hy152]; with_reducible exact H) | (have H2_ := (Option.bind_some _ _).symm.trans H; rw [hy152]; with_reducible exact H2_) | (have H2_ := (Option.bind_some _ _).symm.trans H; with_reducible exact H2_) | with_reducible exact H | (rw [hy152]; exact H) | exact H
                                                have Ny152 := Aside0.mk hy152
                                                clear hy152
                                                have H' := Aside0.mk H
                                                clear H
                                                have p146 : 0 ≤ (x104_6 : Int) := of_decide_eq_true (by first | (with_reducible assumption) | assumption)
                                                have q146 : x104_6 < (x4_46.length : Int) := of_decide_eq_true (by first | (with_reducible assumption) | assumption)
                                                obtain ⟨ad146, e146, hx146_0⟩ := Kd.at_string (Kd.Q_reads' HO_4.out).2.2 x104_6 p146 q146
                                                cases e146
                                                replace p146 := eq_true p146
                                                replace q146 := eq_true q146
                                                go_wp2_with (first | ((with_reducible refine gate_callee (f := 59) rfl ?_); refine goesL_ (some 112) rfl rfl Tryd.func59 (by kernel_rfl) rfl #[.string (rdOf ByteArray.empty x4_46 x104_6)] rfl (by (try simp only [List.map_toArray, List.map_cons, List.map_nil]); first | done | rfl | (simp only [List.length_drop, List.length_take]; rfl)) ?_; (with_reducible refine (tidemillref26_number.calls k6 (rdOf ByteArray.empty x4_46 x104_6) t147 t148 _ A102.out).mono ?_); rintro e w' ⟨rfl, ⟨nd, rfl⟩⟩; refine ⟨_, rfl, ?_⟩; (try (rw [drewN_self wr]; generalize hq_ : World.drewN wr _ = wr; have n0_ : Aside0 (Kd.R (Kd.int .i64) 3 wr w.heap.size (fun _ => True) u124004 x124004_6) := ⟨by rw [← hq_]; exact (by (with_reducible repeat (first | apply Kd.R_alloc | apply Kd.R_drewN | apply Kd.R_drew)); exact HO_124004.out)⟩; have n1_ : Aside0 (Kd.Q Kd.string 9 wr w.heap.size (fun _ => True) (.slice (some ad146) x4_46.length co98) x4_46) := ⟨by rw [← hq_]; exact (by (with_reducible repeat (first | apply Kd.Q_alloc | apply Kd.Q_drewN | apply Kd.Q_drew)); exact HO_4.out)⟩; have n2_ : Aside0 (wr.heap[gb119]? = some (.cells #[.int .i64 x120000_46, .int .i64 x120001_46, .int .i64 x120002_46, .string x120003_46, .slice none 0 0] 46 (0, 0))) := ⟨by rw [← hq_]; exact (by (with_reducible repeat (first | refine blk_drewN ?_ _ | refine blk_drew ?_ | refine blk_alloc ?_ _)); exact BK119.out)⟩; have n3_ : Aside0 (wr.heap[gb123]? = some (.cells #[.int .i64 x124000_1, .int .i64 x124001_25, .int .i64 x124002_46, .string (⟨#[]⟩ : ByteArray), u124004] 46 (0, 0))) := ⟨by rw [← hq_]; exact (by (with_reducible repeat (first | refine blk_drewN ?_ _ | refine blk_drew ?_ | refine blk_alloc ?_ _)); exact BK123.out)⟩; have n4_ : Aside0 (Below w.heap.size w wr) := ⟨by rw [← hq_]; exact (by repeat (first | (with_reducible first | exact HB.out | apply below_alloc | apply pw_below_drewN | apply below_drew1 | refine below_set ?_ GE119.out | refine below_set ?_ GE123.out) | exact HB.out))⟩; clear HO_124004 HO_4 BK119 BK123 HB hq_; have HO_124004 := n0_; have HO_4 := n1_; have BK119 := n2_; have BK123 := n3_; have HB := n4_; clear n0_ n1_ n2_ n3_ n4_)); have hnb111 := NB123_119.out; have hnc111 := NB119_123.out; have hcz112_0 : wr.cell? ⟨gb123, 0, none⟩ = some (.int .i64 x124000_1) := (blk_cell BK123.out 0).trans rfl; have hcz112_1 : wr.cell? ⟨gb123, 1, none⟩ = some (.int .i64 x124001_25) := (blk_cell BK123.out 1).trans rfl; have hcz112_2 : wr.cell? ⟨gb123, 2, none⟩ = some (.int .i64 x124002_46) := (blk_cell BK123.out 2).trans rfl; have hcz112_3 : wr.cell? ⟨gb123, 3, none⟩ = some (.string (⟨#[]⟩ : ByteArray)) := (blk_cell BK123.out 3).trans rfl; have hcz112_4 : wr.cell? ⟨gb123, 4, none⟩ = some (u124004) := (blk_cell BK123.out 4).trans rfl; have hfz112_0 := blk_frozen BK123.out 0; have hfz112_1 := blk_frozen BK123.out 1; have hfz112_2 := blk_frozen BK123.out 2; have hfz112_3 := blk_frozen BK123.out 3; have hfz112_4 := blk_frozen BK123.out 4) | ((with_reducible refine gate_builtin (b := .append) (xs := #[.tmp 120, .tmp 122]) rfl ?_); (try (refine gate_guard (by rfl) ?_; dsimp only)); at_builtin; refine Kd.R_append (Kd.int .i64) (w0 := w) w.heap.size rfl (.tmp 120) (.tmp 122) 34 3 (.int .i64 0) 8 rfl Tryd.underlying34 info3 rfl (by decide) (by omega) u124004 x124004_6 t147 [.int .i64 t147] (fun _ => True) (fun _ => False) rfl rfl ?aP (fun _ hk => hk.elim) ?aF ?aO ?aB ?aS ?aL ?_; (case aP => exact rfl); (case aB => exact (by repeat (first | (with_reducible first | exact HB.out | apply below_alloc | apply pw_below_drewN | apply below_drew1 | refine below_set ?_ GE119.out | refine below_set ?_ GE123.out) | exact HB.out))); (case aF => exact (fun _ _ => trivial)); (case aO => exact (by (with_reducible repeat (first | apply Kd.R_alloc | apply Kd.R_drewN | apply Kd.R_drew)); exact HO_124004.out)); (case aS => exact (below_size (by repeat (first | (with_reducible first | exact HB.out | apply below_alloc | apply pw_below_drewN | apply below_drew1 | refine below_set ?_ GE119.out | refine below_set ?_ GE123.out) | exact HB.out)))); (case aL => have := LMc110.out; omega); intro v153 w113 ho hb hg hat; rw [← Ny152.out] at ho; have n0_ := Aside0.mk (Kd.Q_over' (by (with_reducible repeat (first | apply Kd.Q_alloc | apply Kd.Q_drewN | apply Kd.Q_drew)); exact HO_4.out) (Kd.R_typed (by (with_reducible repeat (first | apply Kd.R_alloc | apply Kd.R_drewN | apply Kd.R_drew)); exact HO_124004.out)) (by decide) hg); have n1_ := Aside0.mk (blk_grown (g := gb119) (o := .cells #[.int .i64 x120000_46, .int .i64 x120001_46, .int .i64 x120002_46, .string x120003_46, .slice none 0 0] 46 (0, 0)) (by (with_reducible repeat (first | refine blk_drewN ?_ _ | refine blk_drew ?_ | refine blk_alloc ?_ _)); exact BK119.out) hg (Kd.R_ne HO_124004.out BK119.out (by decide))); have n2_ := Aside0.mk (blk_grown (g := gb123) (o := .cells #[.int .i64 x124000_1, .int .i64 x124001_25, .int .i64 x124002_46, .string (⟨#[]⟩ : ByteArray), u124004] 46 (0, 0)) (by (with_reducible repeat (first | refine blk_drewN ?_ _ | refine blk_drew ?_ | refine blk_alloc ?_ _)); exact BK123.out) hg (Kd.R_ne HO_124004.out BK123.out (by decide))); have n3_ := Aside0.mk (hb); have n4_ := Aside0.mk (ho); clear HO_4; clear BK119; clear BK123; clear HB; clear HO_124004; have HO_4 := n0_; have BK119 := n1_; have BK123 := n2_; have HB := n3_; have HO154 := n4_; clear n0_ n1_ n2_ n3_ n4_; clear ho hb hg hat; obtain ⟨Ao114, co114, eo114⟩ := Kd.R_slice HO154.out; subst eo114; have hcz115_0 : w113.cell? ⟨gb123, 0, none⟩ = some (.int .i64 x124000_1) := (blk_cell BK123.out 0).trans rfl; have hcz115_1 : w113.cell? ⟨gb123, 1, none⟩ = some (.int .i64 x124001_25) := (blk_cell BK123.out 1).trans rfl; have hcz115_2 : w113.cell? ⟨gb123, 2, none⟩ = some (.int .i64 x124002_46) := (blk_cell BK123.out 2).trans rfl; have hcz115_3 : w113.cell? ⟨gb123, 3, none⟩ = some (.string (⟨#[]⟩ : ByteArray)) := (blk_cell BK123.out 3).trans rfl; have hcz115_4 : w113.cell? ⟨gb123, 4, none⟩ = some (u124004) := (blk_cell BK123.out 4).trans rfl; have hfz115_0 := blk_frozen BK123.out 0; have hfz115_1 := blk_frozen BK123.out 1; have hfz115_2 := blk_frozen BK123.out 2; have hfz115_3 := blk_frozen BK123.out 3; have hfz115_4 := blk_frozen BK123.out 4))
                                                go_roundg k6
                                                case measure => have := HK1.out; have := HJ25.out; have := HJ41.out; have := HJ46.out; have := HJ61.out; have := HK6.out; omega
                                                case rel => exact ⟨(false), (wrap64 (x104_6 + 1)), (y152), (.slice Ao114 y152.length co114), (by first | rfl | (simp; done) | (simp [*]; done)), (by first | rfl | (simp; done) | (simp [*]; done)), H', ⟨by have := HK1.out; have := HJ25.out; have := HJ41.out; have := HJ46.out; have := HJ61.out; have := HK6.out; omega⟩, ⟨by (with_reducible repeat (first | apply Kd.Q_alloc | apply Kd.Q_drewN | apply Kd.Q_drew)); exact Kd.Q_mono (Kd.Q_far (p := ⟨gb123, 4, none⟩) (Kd.Q_types HO_4.out BK123.out (by decide)) (fun _ hk => hk.2) (.slice Ao114 y152.length co114)) (fun _ hk => trivial)⟩, ⟨by (with_reducible repeat (first | apply Kd.R_alloc | apply Kd.R_drewN | apply Kd.R_drew)); exact Kd.R_mono (Kd.R_far (p := ⟨gb123, 4, none⟩) (Kd.R_types HO154.out BK123.out (by decide)) (fun _ hk => hk.2) (.slice Ao114 y152.length co114)) (fun _ hk => trivial)⟩, ⟨by (with_reducible repeat (first | refine blk_drewN ?_ _ | refine blk_drew ?_ | refine blk_alloc ?_ _)); refine blk_far ?_ NB119_123.out _; (with_reducible repeat (first | refine blk_drewN ?_ _ | refine blk_drew ?_ | refine blk_alloc ?_ _)); exact BK119.out⟩, ⟨by (with_reducible repeat (first | refine blk_drewN ?_ _ | refine blk_drew ?_ | refine blk_alloc ?_ _)); refine blk_put (cs := #[.int .i64 x124000_1, .int .i64 x124001_25, .int .i64 x124002_46, .string (⟨#[]⟩ : ByteArray), u124004]) ?_ 4 _ rfl; (with_reducible repeat (first | refine blk_drewN ?_ _ | refine blk_drew ?_ | refine blk_alloc ?_ _)); exact BK123.out⟩, ⟨by repeat (first | (with_reducible first | exact HB.out | apply below_alloc | apply pw_below_drewN | apply below_drew1 | refine below_set ?_ GE119.out | refine below_set ?_ GE123.out) | exact HB.out)⟩⟩
                                              · rw [if_neg c110] at H
                                                exact absurd H (by simp)
                                          · rw [if_neg c101] at H
                                            exact absurd H (by simp)
                                        · rw [if_neg c100] at H
                                          exact absurd H (by simp)
                                      · rw [if_neg c99] at H
                                        have c99b0 : decide (x104_6 < (x4_46.length : Int)) = false := decide_eq_false c99
                                        clear c99
                                        by_cases c116 : x7_6 = true
                                        · subst c116
                                          have H1 : (some (x124000_1, x124001_25, x124002_46, (⟨#[]⟩ : ByteArray), x124004_6, decide ((x4_46.length : Int) ≤ 16))) = some (r1, r2, r3, r4, r5, r6) := by rw [if_pos rfl] at H; exact H
                                          clear H
                                          have H := H1
                                          clear H1
                                          simp only [Option.some.injEq, Prod.mk.injEq] at H
                                          obtain ⟨rfl, rfl, rfl, rfl, rfl, rfl⟩ := H
                                          have hnb117 := NB123_119.out
                                          have hnc117 := NB119_123.out
                                          have hcz118_0 : wr.cell? ⟨gb123, 0, none⟩ = some (.int .i64 x124000_1) := (blk_cell BK123.out 0).trans rfl
                                          have hcz118_1 : wr.cell? ⟨gb123, 1, none⟩ = some (.int .i64 x124001_25) := (blk_cell BK123.out 1).trans rfl
                                          have hcz118_2 : wr.cell? ⟨gb123, 2, none⟩ = some (.int .i64 x124002_46) := (blk_cell BK123.out 2).trans rfl
                                          have hcz118_3 : wr.cell? ⟨gb123, 3, none⟩ = some (.string (⟨#[]⟩ : ByteArray)) := (blk_cell BK123.out 3).trans rfl
                                          have hcz118_4 : wr.cell? ⟨gb123, 4, none⟩ = some (u124004) := (blk_cell BK123.out 4).trans rfl
                                          have hfz118_0 := blk_frozen BK123.out 0
                                          have hfz118_1 := blk_frozen BK123.out 1
                                          have hfz118_2 := blk_frozen BK123.out 2
                                          have hfz118_3 := blk_frozen BK123.out 3
                                          have hfz118_4 := blk_frozen BK123.out 4
                                          have hcz119_0 : wr.cell? ⟨gb119, 0, none⟩ = some (.int .i64 x120000_46) := (blk_cell BK119.out 0).trans rfl
                                          have hcz119_1 : wr.cell? ⟨gb119, 1, none⟩ = some (.int .i64 x120001_46) := (blk_cell BK119.out 1).trans rfl
                                          have hcz119_2 : wr.cell? ⟨gb119, 2, none⟩ = some (.int .i64 x120002_46) := (blk_cell BK119.out 2).trans rfl
                                          have hcz119_3 : wr.cell? ⟨gb119, 3, none⟩ = some (.string x120003_46) := (blk_cell BK119.out 3).trans rfl
                                          have hcz119_4 : wr.cell? ⟨gb119, 4, none⟩ = some (.slice none 0 0) := (blk_cell BK119.out 4).trans rfl
                                          have hfz119_0 := blk_frozen BK119.out 0
                                          have hfz119_1 := blk_frozen BK119.out 1
                                          have hfz119_2 := blk_frozen BK119.out 2
                                          have hfz119_3 := blk_frozen BK119.out 3
                                          have hfz119_4 := blk_frozen BK119.out 4
                                          obtain ⟨Ao120, co120, eo120⟩ := Kd.R_slice HO_124004.out
                                          subst eo120
                                          go_wp2
                                          refine bodyPost_ret (results_ct rfl _ _ gb119 46 #[.int .i64 x124000_1, .int .i64 x124001_25, .int .i64 x124002_46, .string (⟨#[]⟩ : ByteArray), .slice Ao120 x124004_6.length co120] (0, 0) _ rfl (by (with_reducible repeat (first | refine blk_drewN ?_ _ | refine blk_drew ?_ | refine blk_alloc ?_ _)); refine blk_put (cs := #[.int .i64 x124000_1, .int .i64 x124001_25, .int .i64 x124002_46, .string (⟨#[]⟩ : ByteArray), .slice none 0 0]) ?_ 4 _ rfl; (with_reducible repeat (first | refine blk_drewN ?_ _ | refine blk_drew ?_ | refine blk_alloc ?_ _)); refine blk_put (cs := #[.int .i64 x124000_1, .int .i64 x124001_25, .int .i64 x124002_46, .string x120003_46, .slice none 0 0]) ?_ 3 _ rfl; (with_reducible repeat (first | refine blk_drewN ?_ _ | refine blk_drew ?_ | refine blk_alloc ?_ _)); refine blk_put (cs := #[.int .i64 x124000_1, .int .i64 x124001_25, .int .i64 x120002_46, .string x120003_46, .slice none 0 0]) ?_ 2 _ rfl; (with_reducible repeat (first | refine blk_drewN ?_ _ | refine blk_drew ?_ | refine blk_alloc ?_ _)); refine blk_put (cs := #[.int .i64 x124000_1, .int .i64 x120001_46, .int .i64 x120002_46, .string x120003_46, .slice none 0 0]) ?_ 1 _ rfl; (with_reducible repeat (first | refine blk_drewN ?_ _ | refine blk_drew ?_ | refine blk_alloc ?_ _)); refine blk_put (cs := #[.int .i64 x120000_46, .int .i64 x120001_46, .int .i64 x120002_46, .string x120003_46, .slice none 0 0]) ?_ 0 _ rfl; (with_reducible repeat (first | refine blk_drewN ?_ _ | refine blk_drew ?_ | refine blk_alloc ?_ _)); exact BK119.out) Tryd.underlying46 rfl (by kernel_rfl)) rfl ?_
                                          exact ⟨_, by first | rfl | (simp [errW_none, errW_some] <;> rfl) | (simp [*, errW_none, errW_some] <;> first | rfl | exact empty_ne _ | exact ⟨rfl, empty_ne _⟩), by (with_reducible repeat (first | apply Kd.R_alloc | apply Kd.R_drewN | apply Kd.R_drew)); exact Kd.R_mono (Kd.R_far (p := ⟨gb119, 4, none⟩) (Kd.R_far (p := ⟨gb119, 3, none⟩) (Kd.R_far (p := ⟨gb119, 2, none⟩) (Kd.R_far (p := ⟨gb119, 1, none⟩) (Kd.R_far (p := ⟨gb119, 0, none⟩) (Kd.R_types HO_124004.out BK119.out (by decide)) (fun _ hk => hk.2) (.int .i64 x124000_1)) (fun _ hk => hk.2) (.int .i64 x124001_25)) (fun _ hk => hk.2) (.int .i64 x124002_46)) (fun _ hk => hk.2) (.string (⟨#[]⟩ : ByteArray))) (fun _ hk => hk.2) (.slice Ao120 x124004_6.length co120)) (fun _ hk => trivial), by repeat (first | (with_reducible first | exact HB.out | apply below_alloc | apply pw_below_drewN | apply below_drew1 | refine below_set ?_ GE119.out | refine below_set ?_ GE123.out) | exact HB.out)⟩
                                        · replace c116 := Bool.eq_false_iff.mpr c116
                                          subst c116
                                          have H1 : (some (x124000_1, x124001_25, x124002_46, (⟨#[]⟩ : ByteArray), x124004_6, false)) = some (r1, r2, r3, r4, r5, r6) := by rw [if_neg (show ¬ (false = true) by decide)] at H; exact H
                                          clear H
                                          have H := H1
                                          clear H1
                                          simp only [Option.some.injEq, Prod.mk.injEq] at H
                                          obtain ⟨rfl, rfl, rfl, rfl, rfl, rfl⟩ := H
                                          have hnb121 := NB123_119.out
                                          have hnc121 := NB119_123.out
                                          have hcz122_0 : wr.cell? ⟨gb123, 0, none⟩ = some (.int .i64 x124000_1) := (blk_cell BK123.out 0).trans rfl
                                          have hcz122_1 : wr.cell? ⟨gb123, 1, none⟩ = some (.int .i64 x124001_25) := (blk_cell BK123.out 1).trans rfl
                                          have hcz122_2 : wr.cell? ⟨gb123, 2, none⟩ = some (.int .i64 x124002_46) := (blk_cell BK123.out 2).trans rfl
                                          have hcz122_3 : wr.cell? ⟨gb123, 3, none⟩ = some (.string (⟨#[]⟩ : ByteArray)) := (blk_cell BK123.out 3).trans rfl
                                          have hcz122_4 : wr.cell? ⟨gb123, 4, none⟩ = some (u124004) := (blk_cell BK123.out 4).trans rfl
                                          have hfz122_0 := blk_frozen BK123.out 0
                                          have hfz122_1 := blk_frozen BK123.out 1
                                          have hfz122_2 := blk_frozen BK123.out 2
                                          have hfz122_3 := blk_frozen BK123.out 3
                                          have hfz122_4 := blk_frozen BK123.out 4
                                          have hcz123_0 : wr.cell? ⟨gb119, 0, none⟩ = some (.int .i64 x120000_46) := (blk_cell BK119.out 0).trans rfl
                                          have hcz123_1 : wr.cell? ⟨gb119, 1, none⟩ = some (.int .i64 x120001_46) := (blk_cell BK119.out 1).trans rfl
                                          have hcz123_2 : wr.cell? ⟨gb119, 2, none⟩ = some (.int .i64 x120002_46) := (blk_cell BK119.out 2).trans rfl
                                          have hcz123_3 : wr.cell? ⟨gb119, 3, none⟩ = some (.string x120003_46) := (blk_cell BK119.out 3).trans rfl
                                          have hcz123_4 : wr.cell? ⟨gb119, 4, none⟩ = some (.slice none 0 0) := (blk_cell BK119.out 4).trans rfl
                                          have hfz123_0 := blk_frozen BK119.out 0
                                          have hfz123_1 := blk_frozen BK119.out 1
                                          have hfz123_2 := blk_frozen BK119.out 2
                                          have hfz123_3 := blk_frozen BK119.out 3
                                          have hfz123_4 := blk_frozen BK119.out 4
                                          obtain ⟨Ao124, co124, eo124⟩ := Kd.R_slice HO_124004.out
                                          subst eo124
                                          go_wp2
                                          refine bodyPost_ret (results_ct rfl _ _ gb119 46 #[.int .i64 x124000_1, .int .i64 x124001_25, .int .i64 x124002_46, .string (⟨#[]⟩ : ByteArray), .slice Ao124 x124004_6.length co124] (0, 0) _ rfl (by (with_reducible repeat (first | refine blk_drewN ?_ _ | refine blk_drew ?_ | refine blk_alloc ?_ _)); refine blk_put (cs := #[.int .i64 x124000_1, .int .i64 x124001_25, .int .i64 x124002_46, .string (⟨#[]⟩ : ByteArray), .slice none 0 0]) ?_ 4 _ rfl; (with_reducible repeat (first | refine blk_drewN ?_ _ | refine blk_drew ?_ | refine blk_alloc ?_ _)); refine blk_put (cs := #[.int .i64 x124000_1, .int .i64 x124001_25, .int .i64 x124002_46, .string x120003_46, .slice none 0 0]) ?_ 3 _ rfl; (with_reducible repeat (first | refine blk_drewN ?_ _ | refine blk_drew ?_ | refine blk_alloc ?_ _)); refine blk_put (cs := #[.int .i64 x124000_1, .int .i64 x124001_25, .int .i64 x120002_46, .string x120003_46, .slice none 0 0]) ?_ 2 _ rfl; (with_reducible repeat (first | refine blk_drewN ?_ _ | refine blk_drew ?_ | refine blk_alloc ?_ _)); refine blk_put (cs := #[.int .i64 x124000_1, .int .i64 x120001_46, .int .i64 x120002_46, .string x120003_46, .slice none 0 0]) ?_ 1 _ rfl; (with_reducible repeat (first | refine blk_drewN ?_ _ | refine blk_drew ?_ | refine blk_alloc ?_ _)); refine blk_put (cs := #[.int .i64 x120000_46, .int .i64 x120001_46, .int .i64 x120002_46, .string x120003_46, .slice none 0 0]) ?_ 0 _ rfl; (with_reducible repeat (first | refine blk_drewN ?_ _ | refine blk_drew ?_ | refine blk_alloc ?_ _)); exact BK119.out) Tryd.underlying46 rfl (by kernel_rfl)) rfl ?_
                                          exact ⟨_, by first | rfl | (simp [errW_none, errW_some] <;> rfl) | (simp [*, errW_none, errW_some] <;> first | rfl | exact empty_ne _ | exact ⟨rfl, empty_ne _⟩), by (with_reducible repeat (first | apply Kd.R_alloc | apply Kd.R_drewN | apply Kd.R_drew)); exact Kd.R_mono (Kd.R_far (p := ⟨gb119, 4, none⟩) (Kd.R_far (p := ⟨gb119, 3, none⟩) (Kd.R_far (p := ⟨gb119, 2, none⟩) (Kd.R_far (p := ⟨gb119, 1, none⟩) (Kd.R_far (p := ⟨gb119, 0, none⟩) (Kd.R_types HO_124004.out BK119.out (by decide)) (fun _ hk => hk.2) (.int .i64 x124000_1)) (fun _ hk => hk.2) (.int .i64 x124001_25)) (fun _ hk => hk.2) (.int .i64 x124002_46)) (fun _ hk => hk.2) (.string (⟨#[]⟩ : ByteArray))) (fun _ hk => hk.2) (.slice Ao124 x124004_6.length co124)) (fun _ hk => trivial), by repeat (first | (with_reducible first | exact HB.out | apply below_alloc | apply pw_below_drewN | apply below_drew1 | refine below_set ?_ GE119.out | refine below_set ?_ GE123.out) | exact HB.out)⟩
                                · rw [if_neg c95] at H
                                  have c95b0 : (x124000_1 == 8) = false := beq_eq_false_iff_ne.mpr c95
                                  have c95b1 : (x124000_1 != 8) = true := bne_iff_ne.mpr c95
                                  simp only [Option.some.injEq, Prod.mk.injEq] at H
                                  obtain ⟨rfl, rfl, rfl, rfl, rfl, rfl⟩ := H
                                  have hnb125 := NB123_119.out
                                  have hnc125 := NB119_123.out
                                  have hcz126_0 : wc.cell? ⟨gb123, 0, none⟩ = some (.int .i64 x124000_1) := (blk_cell BK123.out 0).trans rfl
                                  have hcz126_1 : wc.cell? ⟨gb123, 1, none⟩ = some (.int .i64 x124001_25) := (blk_cell BK123.out 1).trans rfl
                                  have hcz126_2 : wc.cell? ⟨gb123, 2, none⟩ = some (.int .i64 x124002_46) := (blk_cell BK123.out 2).trans rfl
                                  have hcz126_3 : wc.cell? ⟨gb123, 3, none⟩ = some (.string (⟨#[]⟩ : ByteArray)) := (blk_cell BK123.out 3).trans rfl
                                  have hcz126_4 : wc.cell? ⟨gb123, 4, none⟩ = some (.slice none 0 0) := (blk_cell BK123.out 4).trans rfl
                                  have hfz126_0 := blk_frozen BK123.out 0
                                  have hfz126_1 := blk_frozen BK123.out 1
                                  have hfz126_2 := blk_frozen BK123.out 2
                                  have hfz126_3 := blk_frozen BK123.out 3
                                  have hfz126_4 := blk_frozen BK123.out 4
                                  obtain ⟨Ao127, co127, eo127, _⟩ := Kd.Q_slice HO_4.out
                                  subst eo127
                                  have hcz128_0 : wc.cell? ⟨gb119, 0, none⟩ = some (.int .i64 x120000_46) := (blk_cell BK119.out 0).trans rfl
                                  have hcz128_1 : wc.cell? ⟨gb119, 1, none⟩ = some (.int .i64 x120001_46) := (blk_cell BK119.out 1).trans rfl
                                  have hcz128_2 : wc.cell? ⟨gb119, 2, none⟩ = some (.int .i64 x120002_46) := (blk_cell BK119.out 2).trans rfl
                                  have hcz128_3 : wc.cell? ⟨gb119, 3, none⟩ = some (.string x120003_46) := (blk_cell BK119.out 3).trans rfl
                                  have hcz128_4 : wc.cell? ⟨gb119, 4, none⟩ = some (.slice none 0 0) := (blk_cell BK119.out 4).trans rfl
                                  have hfz128_0 := blk_frozen BK119.out 0
                                  have hfz128_1 := blk_frozen BK119.out 1
                                  have hfz128_2 := blk_frozen BK119.out 2
                                  have hfz128_3 := blk_frozen BK119.out 3
                                  have hfz128_4 := blk_frozen BK119.out 4
                                  go_wp2
                                  refine bodyPost_ret (results_ct rfl _ _ gb119 46 #[.int .i64 x124000_1, .int .i64 x124001_25, .int .i64 x124002_46, .string (⟨#[]⟩ : ByteArray), .slice none 0 0] (0, 0) _ rfl (by (with_reducible repeat (first | refine blk_drewN ?_ _ | refine blk_drew ?_ | refine blk_alloc ?_ _)); refine blk_put (cs := #[.int .i64 x124000_1, .int .i64 x124001_25, .int .i64 x124002_46, .string (⟨#[]⟩ : ByteArray), .slice none 0 0]) ?_ 4 _ rfl; (with_reducible repeat (first | refine blk_drewN ?_ _ | refine blk_drew ?_ | refine blk_alloc ?_ _)); refine blk_put (cs := #[.int .i64 x124000_1, .int .i64 x124001_25, .int .i64 x124002_46, .string x120003_46, .slice none 0 0]) ?_ 3 _ rfl; (with_reducible repeat (first | refine blk_drewN ?_ _ | refine blk_drew ?_ | refine blk_alloc ?_ _)); refine blk_put (cs := #[.int .i64 x124000_1, .int .i64 x124001_25, .int .i64 x120002_46, .string x120003_46, .slice none 0 0]) ?_ 2 _ rfl; (with_reducible repeat (first | refine blk_drewN ?_ _ | refine blk_drew ?_ | refine blk_alloc ?_ _)); refine blk_put (cs := #[.int .i64 x124000_1, .int .i64 x120001_46, .int .i64 x120002_46, .string x120003_46, .slice none 0 0]) ?_ 1 _ rfl; (with_reducible repeat (first | refine blk_drewN ?_ _ | refine blk_drew ?_ | refine blk_alloc ?_ _)); refine blk_put (cs := #[.int .i64 x120000_46, .int .i64 x120001_46, .int .i64 x120002_46, .string x120003_46, .slice none 0 0]) ?_ 0 _ rfl; (with_reducible repeat (first | refine blk_drewN ?_ _ | refine blk_drew ?_ | refine blk_alloc ?_ _)); exact BK119.out) Tryd.underlying46 rfl (by kernel_rfl)) rfl ?_
                                  exact ⟨_, by first | rfl | (simp [errW_none, errW_some] <;> rfl) | (simp [*, errW_none, errW_some] <;> first | rfl | exact empty_ne _ | exact ⟨rfl, empty_ne _⟩), by first | exact Kd.R_nil _ _ _ _ _ | exact Kd.N_nil _ _ _ _ _ | exact Kd.V_nil _ _ _ _ _ | exact Kd.Q_nil _ _ _ _ _ | exact Kd.S_nil _ _ _ _ _, by repeat (first | (with_reducible first | exact HB.out | apply below_alloc | apply pw_below_drewN | apply below_drew1 | refine below_set ?_ GE119.out | refine below_set ?_ GE123.out) | exact HB.out)⟩
                        · replace c61 := Bool.eq_false_iff.mpr c61
                          subst c61
                          have H1 : (some (0, 0, 0, (⟨#[]⟩ : ByteArray), ([] : List Int), false)) = some (r1, r2, r3, r4, r5, r6) := by rw [if_neg (show ¬ (false = true) by decide)] at H; exact H
                          clear H
                          have H := H1
                          clear H1
                          simp only [Option.some.injEq, Prod.mk.injEq] at H
                          obtain ⟨rfl, rfl, rfl, rfl, rfl, rfl⟩ := H
                          have hnb129 := NB119_123.out
                          have hnc129 := NB123_119.out
                          have hcz130_0 : wc.cell? ⟨gb119, 0, none⟩ = some (.int .i64 x120000_46) := (blk_cell BK119.out 0).trans rfl
                          have hcz130_1 : wc.cell? ⟨gb119, 1, none⟩ = some (.int .i64 x120001_46) := (blk_cell BK119.out 1).trans rfl
                          have hcz130_2 : wc.cell? ⟨gb119, 2, none⟩ = some (.int .i64 x120002_46) := (blk_cell BK119.out 2).trans rfl
                          have hcz130_3 : wc.cell? ⟨gb119, 3, none⟩ = some (.string x120003_46) := (blk_cell BK119.out 3).trans rfl
                          have hcz130_4 : wc.cell? ⟨gb119, 4, none⟩ = some (.slice none 0 0) := (blk_cell BK119.out 4).trans rfl
                          have hfz130_0 := blk_frozen BK119.out 0
                          have hfz130_1 := blk_frozen BK119.out 1
                          have hfz130_2 := blk_frozen BK119.out 2
                          have hfz130_3 := blk_frozen BK119.out 3
                          have hfz130_4 := blk_frozen BK119.out 4
                          go_wp2
                          refine bodyPost_ret (results_ct rfl _ _ gb119 46 #[.int .i64 0, .int .i64 0, .int .i64 0, .string (⟨#[]⟩ : ByteArray), .slice none 0 0] (0, 0) _ rfl (by (with_reducible repeat (first | refine blk_drewN ?_ _ | refine blk_drew ?_ | refine blk_alloc ?_ _)); refine blk_put (cs := #[.int .i64 0, .int .i64 0, .int .i64 0, .string (⟨#[]⟩ : ByteArray), .slice none 0 0]) ?_ 4 _ rfl; (with_reducible repeat (first | refine blk_drewN ?_ _ | refine blk_drew ?_ | refine blk_alloc ?_ _)); refine blk_put (cs := #[.int .i64 0, .int .i64 0, .int .i64 0, .string x120003_46, .slice none 0 0]) ?_ 3 _ rfl; (with_reducible repeat (first | refine blk_drewN ?_ _ | refine blk_drew ?_ | refine blk_alloc ?_ _)); refine blk_put (cs := #[.int .i64 0, .int .i64 0, .int .i64 x120002_46, .string x120003_46, .slice none 0 0]) ?_ 2 _ rfl; (with_reducible repeat (first | refine blk_drewN ?_ _ | refine blk_drew ?_ | refine blk_alloc ?_ _)); refine blk_put (cs := #[.int .i64 0, .int .i64 x120001_46, .int .i64 x120002_46, .string x120003_46, .slice none 0 0]) ?_ 1 _ rfl; (with_reducible repeat (first | refine blk_drewN ?_ _ | refine blk_drew ?_ | refine blk_alloc ?_ _)); refine blk_put (cs := #[.int .i64 x120000_46, .int .i64 x120001_46, .int .i64 x120002_46, .string x120003_46, .slice none 0 0]) ?_ 0 _ rfl; (with_reducible repeat (first | refine blk_drewN ?_ _ | refine blk_drew ?_ | refine blk_alloc ?_ _)); exact BK119.out) Tryd.underlying46 rfl (by kernel_rfl)) rfl ?_
                          exact ⟨_, by first | rfl | (simp [errW_none, errW_some] <;> rfl) | (simp [*, errW_none, errW_some] <;> first | rfl | exact empty_ne _ | exact ⟨rfl, empty_ne _⟩), by first | exact Kd.R_nil _ _ _ _ _ | exact Kd.N_nil _ _ _ _ _ | exact Kd.V_nil _ _ _ _ _ | exact Kd.Q_nil _ _ _ _ _ | exact Kd.S_nil _ _ _ _ _, by repeat (first | (with_reducible first | exact HB.out | apply below_alloc | apply pw_below_drewN | apply below_drew1 | refine below_set ?_ GE119.out | refine below_set ?_ GE123.out) | exact HB.out)⟩
          · rw [if_neg c24] at H
            exact absurd H (by simp)

end Go.Proofs.YtdgdpkemboeaeaaDoor.PR
