/- A part of the proof: words, contracts and walks that the other texts of this folder use. -/
-- laid by wip/xprint.py (a program of this session) over the kit's print; Lean checks it
import Derived.Test.YtiddemgeehcjpaaPSx0
import Derived.Test.YtiddemgeehcjpaaPSx1
namespace Go.Proofs.Ytiddemgeehcjpaa.PS
open Go.RowKit Go.Proofs.Ytiddemgeehcjpaa.PA Go.Proofs.Ytiddemgeehcjpaa.PC Go.Proofs.Ytiddemgeehcjpaa.H Go.Proofs.YtiddemgeehcjpaaW.PrintWords Go.Proofs.YtiddemgeehcjpaaW.PrintLast Go.Proofs.YtiddemgeehcjpaaW.PrintMore
attribute [local go_sem] max2_int min2_int max_two min_two max_three min_three max_four min_four   -- for this text's walks alone
set_option linter.unusedVariables false
set_option linter.unusedSimpArgs false

/-! ### tidemilllaw02_TagSifts: function 4 -/
mutual
def tidemilllaw02_TagSifts.j0 : Nat → List ByteArray → Bool → ByteArray → List (S32) → Option (Bool)
  | 0, _, _, _, _ => none
  | k + 1, x1, x20, x114000, x114001 => if x20 = true then ((tidemilllaw02_awake.f).bind fun t116 => (some t116)) else ((tag_Less.f x114000 x114001 x1).bind fun bt117 => ((tag_Only.f x114000 x114001 x1).bind fun bt121 => ((tidemillref02_Sifted.f k x114000 x114001 x1 false).bind fun bt127 => ((tidemillref02_Same.f k bt117.1 bt117.2 bt127.1 bt127.2).bind fun t131 => (if t131 = true then ((tidemillref02_Sifted.f k x114000 x114001 x1 true).bind fun bt132 => ((tidemillref02_Same.f k bt121.1 bt121.2 bt132.1 bt132.2).bind fun t136 => (tidemilllaw02_TagSifts.j1 k (!t136) x114000 x114001 bt117.1 bt117.2 bt121.1 bt121.2))) else (tidemilllaw02_TagSifts.j1 k true x114000 x114001 bt117.1 bt117.2 bt121.1 bt121.2))))))
def tidemilllaw02_TagSifts.j1 : Nat → Bool → ByteArray → List (S32) → ByteArray → List (S32) → ByteArray → List (S32) → Option (Bool)
  | 0, _, _, _, _, _, _, _ => none
  | k + 1, x41, x114000, x114001, x126000, x126001, x127000, x127001 => if x41 = true then (some false) else ((some (([] : List (S32)) : List (S32))).bind fun y137 => (if y137.length + x126001.length < 4398046511104 then ((some (y137 ++ x126001 : List (S32))).bind fun y140 => (if y140.length + x127001.length < 4398046511104 then ((tag_Make.f x114000 (y140 ++ x127001)).bind fun bt146 => (if bt146.2.2 = 0 then ((tidemillref02_Same.f k bt146.1 bt146.2.1 x114000 x114001).bind fun t152 => (some t152)) else (some false))) else (none))) else (none)))
end
def tidemilllaw02_TagSifts.f (k : Nat) (a0_0 : ByteArray) (l0_1 : List (S32)) (l1 : List ByteArray) : Option (Bool) := (tidemilllaw02_awake.f).bind fun t114 => (if t114 = true then ((tidemillref02_Good.f k a0_0 l0_1).bind fun t115 => (if t115 = true then (tidemilllaw02_TagSifts.j0 k l1 (decide ((l1.length : Int) > 20)) a0_0 l0_1) else (tidemilllaw02_TagSifts.j0 k l1 true a0_0 l0_1))) else (tidemilllaw02_TagSifts.j0 k l1 true a0_0 l0_1))
def tidemilllaw02_TagSifts.T3 : Bool × List (List Nat × List Nat) := (true, [([], []), ([], []), ([0, 1], [0, 1]), ([], []), ([], []), ([3, 4, 2], [3, 4]), ([], []), ([], []), ([6, 2, 5, 0, 1, 2, 6, 7], [2, 6]), ([7, 5, 8, 0, 1, 2, 3, 4, 5, 6, 7, 8], [5, 7])])
def tidemilllaw02_TagSifts.B3 : List Nat := [0, 0, 3, 0, 0, 31, 0, 0, 255, 511]
theorem tidemilllaw02_TagSifts.tab3 : rtab .any (opsOf Try.f4 3) = tidemilllaw02_TagSifts.T3 := by kernel_rfl
theorem tidemilllaw02_TagSifts.bits3 : waitsOk tidemilllaw02_TagSifts.T3.2 tidemilllaw02_TagSifts.B3 = true := by kernel_rfl
def tidemilllaw02_TagSifts.T4 : Bool × List (List Nat × List Nat) := (true, [([], []), ([], []), ([], []), ([1, 2], [1, 2]), ([0, 3, 3], [0, 3]), ([4], [4]), ([5, 4], [5]), ([6], [6]), ([6], [6]), ([6], [6]), ([8, 9, 6, 6], [6, 8, 9]), ([7, 10, 10, 6], [6, 7, 10]), ([11, 6], [6, 11]), ([6, 12], [6, 12])])
def tidemilllaw02_TagSifts.B4 : List Nat := [0, 0, 0, 6, 15, 31, 63, 127, 127, 127, 895, 2047, 4095, 8191]
theorem tidemilllaw02_TagSifts.tab4 : rtab .any (opsOf Try.f4 4) = tidemilllaw02_TagSifts.T4 := by kernel_rfl
theorem tidemilllaw02_TagSifts.bits4 : waitsOk tidemilllaw02_TagSifts.T4.2 tidemilllaw02_TagSifts.B4 = true := by kernel_rfl
def tidemilllaw02_TagSifts.T6 : Bool × List (List Nat × List Nat) := (true, [([], []), ([0], [0]), ([], []), ([], []), ([3], [3]), ([2, 4], [2, 4]), ([], []), ([6], [6]), ([5, 7, 5], [5, 7]), ([1, 8, 8], [1, 8]), ([9], [9]), ([10], [10]), ([10], [10]), ([], []), ([13, 11, 9, 0, 1, 2, 3, 4, 5, 6, 7, 8, 9, 10, 11, 13], [11, 13]), ([12, 14, 0, 1, 2, 3, 4, 5, 6, 7, 8, 9, 10, 11, 12, 13, 14], [12])])
def tidemilllaw02_TagSifts.B6 : List Nat := [0, 1, 0, 0, 8, 28, 0, 64, 252, 511, 1023, 2047, 2047, 0, 12287, 32767]
theorem tidemilllaw02_TagSifts.tab6 : rtab .any (opsOf Try.f4 6) = tidemilllaw02_TagSifts.T6 := by kernel_rfl
theorem tidemilllaw02_TagSifts.bits6 : waitsOk tidemilllaw02_TagSifts.T6.2 tidemilllaw02_TagSifts.B6 = true := by kernel_rfl
theorem tidemilllaw02_TagSifts.no1 : ∀ k a b c d e f, tidemilllaw02_TagSifts.j1 k true a b c d e f ≠ some true := by
  intro k a b c d e f h
  cases k <;> simp [tidemilllaw02_TagSifts.j1] at h
theorem bN' : type_of% @blk_drewN := @blk_drewN
theorem bD' : type_of% @blk_drew := @blk_drew
theorem bA' : type_of% @blk_alloc := @blk_alloc
theorem rA' : type_of% @Kd.R_alloc := @Kd.R_alloc
theorem rN' : type_of% @Kd.R_drewN := @Kd.R_drewN
theorem rD' : type_of% @Kd.R_drew := @Kd.R_drew
theorem pN' : type_of% @pw_below_drewN := @pw_below_drewN
theorem pA' : type_of% @below_alloc := @below_alloc
theorem pD' : type_of% @below_drew1 := @below_drew1
theorem pS' : type_of% @below_set := @below_set
theorem am' : type_of% @Aside0.mk := @Aside0.mk
theorem sa' : type_of% @List.setIfInBounds_toArray := @List.setIfInBounds_toArray
theorem sz' : type_of% @List.set_cons_zero := @List.set_cons_zero
theorem ss' : type_of% @List.set_cons_succ := @List.set_cons_succ
theorem pz' : type_of% @below_size := @below_size
theorem bB' : type_of% @blk_below := @blk_below
theorem bG' : type_of% @blk_grown := @blk_grown
theorem bC' : type_of% @blk_cell := @blk_cell
theorem bL' : type_of% @blk_lt := @blk_lt
theorem rB' : type_of% @Kd.R_below := @Kd.R_below
theorem rM' : type_of% @Kd.R_mono := @Kd.R_mono
theorem rF' : type_of% @Kd.R_far := @Kd.R_far
theorem rT' : type_of% @Kd.R_types := @Kd.R_types
set_option maxHeartbeats 8000000 in
set_option maxRecDepth 100000 in
theorem tidemilllaw02_TagSifts.calls (k : Nat) (Gg : ByteArray) (Gm : Option Addr) (Gn : Nat) (Gh : List (S32)) (A1 : Option Addr) (c1 : Nat) (l1 : List ByteArray) (r : Bool) (w : World) (hr0_1 : Kd.C k32 w Gm Gh.length Gh) (hc0_1 : Gh.length ≤ Gn) (hr1 : Kd.C Kd.string w A1 l1.length l1) (hc1 : l1.length ≤ c1) (h : tidemilllaw02_TagSifts.f k Gg Gh l1 = some r) (hR_ : r = true) :
  Calls Try.prog 4 #[.agg #[.string Gg, .slice Gm Gh.length Gn], .slice A1 l1.length c1] w fun e w' => e = .returned (.bool r) ∧ Below w.heap.size w w' := by
 have HR_ := am' hR_
 clear hR_
 have hu25 := Try.underlying25
 have Km := am' hr0_1
 have Kn := am' hc0_1
 clear hr0_1 hc0_1
 have HR1 := am' hr1
 have HC1 := am' hc1
 clear hr1 hc1
 have HB := am' (Below.refl w.heap.size w)
 have H : ((tidemilllaw02_awake.f).bind fun Kt => (if Kt = true then ((tidemillref02_Good.f k Gg Gh).bind fun Ks => (if Ks = true then (tidemilllaw02_TagSifts.j0 k l1 (decide ((l1.length : Int) > 20)) Gg Gh) else (tidemilllaw02_TagSifts.j0 k l1 true Gg Gh))) else (tidemilllaw02_TagSifts.j0 k l1 true Gg Gh))) = some r := h
 clear h
 have HC3 := am' H
 clear H
 go_enter Try.func4, Try.ntmps4
 go_upto_region 1 with (first | ((with_reducible refine gate_dst (N := 2) rfl ?_); (try (refine gate_guard (by rfl) ?_; dsimp only)); refine box_event ?hg (N := 2) ?hd (cs := #[.string Gg, .slice Gm Gh.length Gn]) (t := 25) ?hr ?_; (case hd => rfl); (case hg => rfl); (case hr => first | (go_simp; done) | (go_simp; rfl)); intro Gb hg w4 hbox hb; have n0_ := am' (below_step (by repeat (first | (with_reducible first | exact HB.out | apply pA' | apply pN' | apply pD') | exact HB.out)) hb); have n1_ := am' (hbox); have n2_ := am' ((by rw [hg]; exact (pz' (by repeat (first | (with_reducible first | exact HB.out | apply pA' | apply pN' | apply pD') | exact HB.out))) : w.heap.size ≤ Gb)); have n3_ := am' ((by rw [hg]; exact (pz' (by repeat (first | (with_reducible first | exact HB.out | apply pA' | apply pN' | apply pD') | exact HB.out))) : w.heap.size ≤ Gb)); clear HB; have HB := n0_; have Ga := n1_; have GW113 := n2_; have Gp := n3_; clear n0_ n1_ n2_ n3_; clear hb hbox hg))
 (try simp only [Act.put, sa', sz', ss'])
 go_cut [20] (fun v20 wc => ∃ (kq : Nat) (x20_2 : Bool), v20 = .bool x20_2 ∧ Aside0 (tidemilllaw02_TagSifts.j0 kq l1 x20_2 Gg Gh = some r) ∧ Aside0 (kq ≤ k) ∧ Aside0 (wc.heap[Gb]? = some (.cells #[.string Gg, (.slice Gm Gh.length Gn)] 25 (0, 0))) ∧ Aside0 (Below w.heap.size w wc))
 case first =>
  have H := HC3.out
  clear HC3
  replace H := Option.bind_eq_some_iff.mp H
  obtain ⟨Kt, A50, H⟩ := H
  replace H : (if Kt = true then ((tidemillref02_Good.f k Gg Gh).bind fun Ks => (if Ks = true then (tidemilllaw02_TagSifts.j0 k l1 (decide ((l1.length : Int) > 20)) Gg Gh) else (tidemilllaw02_TagSifts.j0 k l1 true Gg Gh))) else (tidemilllaw02_TagSifts.j0 k l1 true Gg Gh)) = some r := H
  have A5 := am' A50
  clear A50
  by_cases c6 : Kt = true
  ·subst c6
   have H1 : ((tidemillref02_Good.f k Gg Gh).bind fun Ks => (if Ks = true then (tidemilllaw02_TagSifts.j0 k l1 (decide ((l1.length : Int) > 20)) Gg Gh) else (tidemilllaw02_TagSifts.j0 k l1 true Gg Gh))) = some r := by rw [if_pos rfl] at H; exact H
   clear H
   have H := H1
   clear H1
   replace H := Option.bind_eq_some_iff.mp H
   obtain ⟨Ks, A70, H⟩ := H
   replace H : (if Ks = true then (tidemilllaw02_TagSifts.j0 k l1 (decide ((l1.length : Int) > 20)) Gg Gh) else (tidemilllaw02_TagSifts.j0 k l1 true Gg Gh)) = some r := H
   have A7 := am' A70
   clear A70
   by_cases c8 : Ks = true
   ·subst c8
    have H1 : (tidemilllaw02_TagSifts.j0 k l1 (decide ((l1.length : Int) > 20)) Gg Gh) = some r := by rw [if_pos rfl] at H; exact H
    clear H
    have H := H1
    clear H1
    have H' := am' H
    clear H
    go_wp2_with (first | ((with_reducible refine gate_callee (f := 5) rfl ?_); refine goesL_ (some 9) rfl rfl Try.func5 (by kernel_rfl) rfl #[] rfl (by (try simp only [List.map_toArray, List.map_cons, List.map_nil]); first | done | rfl | (simp only [List.length_drop, List.length_take]; rfl)) ?_; (with_reducible refine (tidemilllaw02_awake.calls  true _ A5.out).mono ?_); rintro e w9 ⟨rfl, hb⟩; refine ⟨_, rfl, ?_⟩; have n0_ := am' (bB' (g := Gb) (o := .cells #[.string Gg, .slice Gm Gh.length Gn] 25 (0, 0)) (by (with_reducible repeat (first | refine bN' ?_ _ | refine bD' ?_ | refine bA' ?_ _)); exact Ga.out) hb); have n1_ := am' (below_step (by repeat (first | (with_reducible first | exact HB.out | apply pA' | apply pN' | apply pD' | refine pS' ?_ Gp.out) | exact HB.out)) hb); clear Ga; clear HB; have Ga := n0_; have HB := n1_; clear n0_ n1_; (try clear hb); (try clear hb2); (try clear hk); (try clear hi); have hcz10_0 : w9.cell? ⟨Gb, 0, none⟩ = some (.string Gg) := (bC' Ga.out 0).trans rfl; have hcz10_1 : w9.cell? ⟨Gb, 1, none⟩ = some (.slice Gm Gh.length Gn) := (bC' Ga.out 1).trans rfl; have hfz10_0 := blk_frozen Ga.out 0; have hfz10_1 := blk_frozen Ga.out 1) | (go_at_call 10; (with_reducible refine (tidemillref02_Good.calls k Gg _ _ Gh true _ ?side1 ?side2 A7.out).mono ?_); (case side1 => repeat (first | exact (Kd.C_below Km.out HB.out) | (with_reducible refine Kd.C_alloc ?_ _) | (with_reducible refine Kd.C_drewN ?_ _) | (with_reducible refine Kd.C_drew ?_))); (case side2 => exact Kn.out); rintro e w11 ⟨rfl, hb⟩; have n0_ := am' (bB' (g := Gb) (o := .cells #[.string Gg, .slice Gm Gh.length Gn] 25 (0, 0)) (by (with_reducible repeat (first | refine bN' ?_ _ | refine bD' ?_ | refine bA' ?_ _)); exact Ga.out) hb); have n1_ := am' (below_step (by repeat (first | (with_reducible first | exact HB.out | apply pA' | apply pN' | apply pD' | refine pS' ?_ Gp.out) | exact HB.out)) hb); clear Ga; clear HB; have Ga := n0_; have HB := n1_; clear n0_ n1_; (try clear hb); (try clear hb2); (try clear hk); (try clear hi)))
    go_meet
    case rel => exact ⟨_, (decide ((l1.length : Int) > 20)), (by first | rfl | (simp; done) | (simp [*]; done)), H', ⟨by first | omega | exact Nat.le_refl _⟩, ⟨by (with_reducible repeat (first | refine bN' ?_ _ | refine bD' ?_ | refine bA' ?_ _)); exact Ga.out⟩, ⟨by repeat (first | (with_reducible first | exact HB.out | apply pA' | apply pN' | apply pD' | refine pS' ?_ Gp.out) | exact HB.out)⟩⟩
   ·replace c8 := Bool.eq_false_iff.mpr c8
    subst c8
    have H1 : (tidemilllaw02_TagSifts.j0 k l1 true Gg Gh) = some r := by rw [if_neg (show ¬ (false = true) by decide)] at H; exact H
    clear H
    have H := H1
    clear H1
    have H' := am' H
    clear H
    go_wp2_with (first | ((with_reducible refine gate_callee (f := 5) rfl ?_); refine goesL_ (some 9) rfl rfl Try.func5 (by kernel_rfl) rfl #[] rfl (by (try simp only [List.map_toArray, List.map_cons, List.map_nil]); first | done | rfl | (simp only [List.length_drop, List.length_take]; rfl)) ?_; (with_reducible refine (tidemilllaw02_awake.calls  true _ A5.out).mono ?_); rintro e w12 ⟨rfl, hb⟩; refine ⟨_, rfl, ?_⟩; have n0_ := am' (bB' (g := Gb) (o := .cells #[.string Gg, .slice Gm Gh.length Gn] 25 (0, 0)) (by (with_reducible repeat (first | refine bN' ?_ _ | refine bD' ?_ | refine bA' ?_ _)); exact Ga.out) hb); have n1_ := am' (below_step (by repeat (first | (with_reducible first | exact HB.out | apply pA' | apply pN' | apply pD' | refine pS' ?_ Gp.out) | exact HB.out)) hb); clear Ga; clear HB; have Ga := n0_; have HB := n1_; clear n0_ n1_; (try clear hb); (try clear hb2); (try clear hk); (try clear hi); have hcz13_0 : w12.cell? ⟨Gb, 0, none⟩ = some (.string Gg) := (bC' Ga.out 0).trans rfl; have hcz13_1 : w12.cell? ⟨Gb, 1, none⟩ = some (.slice Gm Gh.length Gn) := (bC' Ga.out 1).trans rfl; have hfz13_0 := blk_frozen Ga.out 0; have hfz13_1 := blk_frozen Ga.out 1) | (go_at_call 10; (with_reducible refine (tidemillref02_Good.calls k Gg _ _ Gh false _ ?side1 ?side2 A7.out).mono ?_); (case side1 => repeat (first | exact (Kd.C_below Km.out HB.out) | (with_reducible refine Kd.C_alloc ?_ _) | (with_reducible refine Kd.C_drewN ?_ _) | (with_reducible refine Kd.C_drew ?_))); (case side2 => exact Kn.out); rintro e w14 ⟨rfl, hb⟩; have n0_ := am' (bB' (g := Gb) (o := .cells #[.string Gg, .slice Gm Gh.length Gn] 25 (0, 0)) (by (with_reducible repeat (first | refine bN' ?_ _ | refine bD' ?_ | refine bA' ?_ _)); exact Ga.out) hb); have n1_ := am' (below_step (by repeat (first | (with_reducible first | exact HB.out | apply pA' | apply pN' | apply pD' | refine pS' ?_ Gp.out) | exact HB.out)) hb); clear Ga; clear HB; have Ga := n0_; have HB := n1_; clear n0_ n1_; (try clear hb); (try clear hb2); (try clear hk); (try clear hi)))
    go_meet
    case rel => exact ⟨_, (true), (by first | rfl | (simp; done) | (simp [*]; done)), H', ⟨by first | omega | exact Nat.le_refl _⟩, ⟨by (with_reducible repeat (first | refine bN' ?_ _ | refine bD' ?_ | refine bA' ?_ _)); exact Ga.out⟩, ⟨by repeat (first | (with_reducible first | exact HB.out | apply pA' | apply pN' | apply pD' | refine pS' ?_ Gp.out) | exact HB.out)⟩⟩
  ·replace c6 := Bool.eq_false_iff.mpr c6
   subst c6
   have H1 : (tidemilllaw02_TagSifts.j0 k l1 true Gg Gh) = some r := by rw [if_neg (show ¬ (false = true) by decide)] at H; exact H
   clear H
   have H := H1
   clear H1
   have H' := am' H
   clear H
   go_wp2_with (first | ((with_reducible refine gate_callee (f := 5) rfl ?_); refine goesL_ (some 9) rfl rfl Try.func5 (by kernel_rfl) rfl #[] rfl (by (try simp only [List.map_toArray, List.map_cons, List.map_nil]); first | done | rfl | (simp only [List.length_drop, List.length_take]; rfl)) ?_; (with_reducible refine (tidemilllaw02_awake.calls  false _ A5.out).mono ?_); rintro e w15 ⟨rfl, hb⟩; refine ⟨_, rfl, ?_⟩; have n0_ := am' (bB' (g := Gb) (o := .cells #[.string Gg, .slice Gm Gh.length Gn] 25 (0, 0)) (by (with_reducible repeat (first | refine bN' ?_ _ | refine bD' ?_ | refine bA' ?_ _)); exact Ga.out) hb); have n1_ := am' (below_step (by repeat (first | (with_reducible first | exact HB.out | apply pA' | apply pN' | apply pD' | refine pS' ?_ Gp.out) | exact HB.out)) hb); clear Ga; clear HB; have Ga := n0_; have HB := n1_; clear n0_ n1_; (try clear hb); (try clear hb2); (try clear hk); (try clear hi)))
   go_meet
   case rel => exact ⟨_, (true), (by first | rfl | (simp; done) | (simp [*]; done)), H', ⟨by first | omega | exact Nat.le_refl _⟩, ⟨by (with_reducible repeat (first | refine bN' ?_ _ | refine bD' ?_ | refine bA' ?_ _)); exact Ga.out⟩, ⟨by repeat (first | (with_reducible first | exact HB.out | apply pA' | apply pN' | apply pD' | refine pS' ?_ Gp.out) | exact HB.out)⟩⟩
 case rest =>
  clear HC3
  try clear c1
  try clear p2
  try clear c4
  try clear c5
  try clear c6
  try clear c8
  try clear hcz10_0
  try clear hcz10_1
  try clear hcz13_0
  try clear hcz13_1
  try clear hfz10_0
  try clear hfz10_1
  try clear hfz13_0
  try clear hfz13_1
  obtain ⟨kq, x20_2, rfl, HA, HJ2, Ga, HB⟩ := hcut
  cases kq with
  | zero => exact absurd HA.out (by simp [tidemilllaw02_TagSifts.j0])
  | succ kj2 =>
   have H := HA.out
   clear HA
   simp only [tidemilllaw02_TagSifts.j0] at H
   by_cases c16 : x20_2 = true
   ·subst c16
    have H1 : ((tidemilllaw02_awake.f).bind fun Ky => (some Ky)) = some r := by rw [if_pos rfl] at H; exact H
    clear H
    have H := H1
    clear H1
    replace H := Option.bind_eq_some_iff.mp H
    obtain ⟨Ky, A170, H⟩ := H
    replace H : (some Ky) = some r := H
    have A17 := am' A170
    clear A170
    obtain rfl := Option.some.inj H
    go_wp2_with (first | ((with_reducible refine gate_callee (f := 5) rfl ?_); refine goesL_ (some 21) rfl rfl Try.func5 (by kernel_rfl) rfl #[] rfl (by (try simp only [List.map_toArray, List.map_cons, List.map_nil]); first | done | rfl | (simp only [List.length_drop, List.length_take]; rfl)) ?_; (with_reducible refine (tidemilllaw02_awake.calls  Ky _ A17.out).mono ?_); rintro e w18 ⟨rfl, hb⟩; refine ⟨_, rfl, ?_⟩; have n0_ := am' (bB' (g := Gb) (o := .cells #[.string Gg, .slice Gm Gh.length Gn] 25 (0, 0)) (by (with_reducible repeat (first | refine bN' ?_ _ | refine bD' ?_ | refine bA' ?_ _)); exact Ga.out) hb); have n1_ := am' (below_step (by repeat (first | (with_reducible first | exact HB.out | apply pA' | apply pN' | apply pD' | refine pS' ?_ Gp.out) | exact HB.out)) hb); clear Ga; clear HB; have Ga := n0_; have HB := n1_; clear n0_ n1_; (try clear hb); (try clear hb2); (try clear hk); (try clear hi)))
    go_ret
    exact ⟨by first | rfl | (simp [errW_none, errW_some] <;> rfl) | (simp [*, errW_none, errW_some] <;> rfl), by repeat (first | (with_reducible first | exact HB.out | apply pA' | apply pN' | apply pD' | refine pS' ?_ Gp.out) | exact HB.out)⟩
   ·replace c16 := Bool.eq_false_iff.mpr c16
    subst c16
    have H1 : ((tag_Less.f Gg Gh l1).bind fun bt117 => ((tag_Only.f Gg Gh l1).bind fun bt121 => ((tidemillref02_Sifted.f kj2 Gg Gh l1 false).bind fun bt127 => ((tidemillref02_Same.f kj2 bt117.1 bt117.2 bt127.1 bt127.2).bind fun Kr => (if Kr = true then ((tidemillref02_Sifted.f kj2 Gg Gh l1 true).bind fun bt132 => ((tidemillref02_Same.f kj2 bt121.1 bt121.2 bt132.1 bt132.2).bind fun Kl => (tidemilllaw02_TagSifts.j1 kj2 (!Kl) Gg Gh bt117.1 bt117.2 bt121.1 bt121.2))) else (tidemilllaw02_TagSifts.j1 kj2 true Gg Gh bt117.1 bt117.2 bt121.1 bt121.2)))))) = some r := by rw [if_neg (show ¬ (false = true) by decide)] at H; exact H
    clear H
    have H := H1
    clear H1
    replace H := Option.bind_eq_some_iff.mp H
    obtain ⟨⟨Gt, Gi⟩, A190, H⟩ := H
    replace H : ((tag_Only.f Gg Gh l1).bind fun bt121 => ((tidemillref02_Sifted.f kj2 Gg Gh l1 false).bind fun bt127 => ((tidemillref02_Same.f kj2 Gt Gi bt127.1 bt127.2).bind fun Kr => (if Kr = true then ((tidemillref02_Sifted.f kj2 Gg Gh l1 true).bind fun bt132 => ((tidemillref02_Same.f kj2 bt121.1 bt121.2 bt132.1 bt132.2).bind fun Kl => (tidemilllaw02_TagSifts.j1 kj2 (!Kl) Gg Gh Gt Gi bt121.1 bt121.2))) else (tidemilllaw02_TagSifts.j1 kj2 true Gg Gh Gt Gi bt121.1 bt121.2))))) = some r := H
    have A19 := am' A190
    clear A190
    replace H := Option.bind_eq_some_iff.mp H
    obtain ⟨⟨Gu, Gj⟩, A200, H⟩ := H
    replace H : ((tidemillref02_Sifted.f kj2 Gg Gh l1 false).bind fun bt127 => ((tidemillref02_Same.f kj2 Gt Gi bt127.1 bt127.2).bind fun Kr => (if Kr = true then ((tidemillref02_Sifted.f kj2 Gg Gh l1 true).bind fun bt132 => ((tidemillref02_Same.f kj2 Gu Gj bt132.1 bt132.2).bind fun Kl => (tidemilllaw02_TagSifts.j1 kj2 (!Kl) Gg Gh Gt Gi Gu Gj))) else (tidemilllaw02_TagSifts.j1 kj2 true Gg Gh Gt Gi Gu Gj)))) = some r := H
    have A20 := am' A200
    clear A200
    have HC21 := am' H
    clear H
    try go_wp2
    have n0_ := am' (bD' Ga.out)
    have n1_ := am' (pD' HB.out)
    clear Ga
    clear HB
    have Ga := n0_
    have HB := n1_
    clear n0_ n1_
    refine start_ (n := 10) (S := fun w' => w'.cell? ⟨Gb, 0, none⟩ = some (.string Gg) ∧ w'.cell? ⟨Gb, 1, none⟩ = some (.slice Gm Gh.length Gn)) (ds := []) #[false, false, false, false, false, false, false, false, false, false] (by kernel_rfl) rfl rfl ⟨(bC' Ga.out 0).trans rfl, (bC' Ga.out 1).trans rfl⟩ (fun hHeld => ?_); refine with_tabW tidemilllaw02_TagSifts.tab3 tidemilllaw02_TagSifts.bits3 (fun HT_ HW_ => ?_)
    generalize wc.drew = w22 at Ga HB hHeld ⊢
    refine pure_ (i := 1) (N := some 23) (v := ?_) (a' := ?_) #[false, true, false, false, false, false, false, false, false, false] rfl rfl (any_of HT_.out (by kernel_rfl)) (fun _ _ _ h => h) (Or.inl ⟨by rfl, ?_⟩) ?_ ?_
    rotate_left
    ·intro w'
     go_simp
     with_reducible rfl
    rotate_left
    ·simp only [Act.put, sa', sz', ss', i64_w, i32_w]
     rfl
    refine pure_ (i := 4) (N := some 26) (v := ?_) (a' := ?_) #[false, true, false, false, true, false, false, false, false, false] rfl rfl (any_of HT_.out (by kernel_rfl)) (fun _ _ _ h => h) (Or.inl ⟨by rfl, ?_⟩) ?_ ?_
    rotate_left
    ·intro w'
     go_simp
     with_reducible rfl
    rotate_left
    ·simp only [Act.put, sa', sz', ss', i64_w, i32_w]
     rfl
    refine take_ (i := 0) (N := some 22) (v := ?_) (a' := ?_) #[true, true, false, false, true, false, false, false, false, false] rfl rfl (take_ofW HT_.out HW_.out (by kernel_rfl)) (fun _ _ _ h => h) (Or.inl ⟨by rfl, ?_⟩) hHeld ?_ ?_
    rotate_left
    ·rintro w' ⟨s0, s1⟩
     go_simp
     with_reducible rfl
    rotate_left
    ·simp only [Act.put, sa', sz', ss', i64_w, i32_w]
     rfl
    refine take_ (i := 3) (N := some 25) (v := ?_) (a' := ?_) #[true, true, false, true, true, false, false, false, false, false] rfl rfl (take_ofW HT_.out HW_.out (by kernel_rfl)) (fun _ _ _ h => h) (Or.inl ⟨by rfl, ?_⟩) hHeld ?_ ?_
    rotate_left
    ·rintro w' ⟨s0, s1⟩
     go_simp
     with_reducible rfl
    rotate_left
    ·simp only [Act.put, sa', sz', ss', i64_w, i32_w]
     rfl
    refine join_ (σ := Value × Value × Nat × Nat) 2 #[true, true, true, true, true, true, true, true, false, false] (fun s_ => [(24, .agg #[.string Gt, s_.1]), (27, .agg #[.string Gu, s_.2.1]), (5, .pointer (some ⟨s_.2.2.1, 0, none⟩)), (6, .pointer (some ⟨s_.2.2.2, 0, none⟩))]) (fun s_ w' => (w'.cell? ⟨Gb, 0, none⟩ = some (.string Gg) ∧ w'.cell? ⟨Gb, 1, none⟩ = some (.slice Gm Gh.length Gn)) ∧ (Kd.R k32 32 w' w.heap.size (fun k_ => some k_ ≠ (s_.2.1 : Value).ownBlock) s_.1 Gi) ∧ (Kd.R k32 32 w' w.heap.size (fun k_ => some k_ ≠ (s_.1 : Value).ownBlock) s_.2.1 Gj) ∧ (w'.heap[Gb]? = some (.cells #[.string Gg, .slice Gm Gh.length Gn] 25 (0, 0))) ∧ (w'.heap[s_.2.2.1]? = some (.cells #[.string (⟨#[]⟩ : ByteArray), .slice none 0 0] 25 (0, 0))) ∧ (w'.heap[s_.2.2.2]? = some (.cells #[.string (⟨#[]⟩ : ByteArray), .slice none 0 0] 25 (0, 0))) ∧ (w.heap.size ≤ s_.2.2.1) ∧ (w.heap.size ≤ s_.2.2.1) ∧ (Gb ≠ s_.2.2.1) ∧ (s_.2.2.1 ≠ Gb) ∧ (s_.2.2.2 ≠ s_.2.2.1) ∧ (s_.2.2.1 ≠ s_.2.2.2) ∧ (w.heap.size ≤ s_.2.2.2) ∧ (w.heap.size ≤ s_.2.2.2) ∧ (Gb ≠ s_.2.2.2) ∧ (s_.2.2.2 ≠ Gb) ∧ (Below w.heap.size w w')) ?_ ?_
    rotate_left
    ·intro hJ2_5_6_7
     refine join_ (σ := Value × Value × Nat) 3 #[true, true, true, true, true, true, true, false, false, false] (fun s_ => [(24, .agg #[.string Gt, s_.1]), (27, .agg #[.string Gu, s_.2.1]), (5, .pointer (some ⟨s_.2.2, 0, none⟩))]) (fun s_ w' => (w'.cell? ⟨Gb, 0, none⟩ = some (.string Gg) ∧ w'.cell? ⟨Gb, 1, none⟩ = some (.slice Gm Gh.length Gn)) ∧ (Kd.R k32 32 w' w.heap.size (fun k_ => some k_ ≠ (s_.2.1 : Value).ownBlock) s_.1 Gi) ∧ (Kd.R k32 32 w' w.heap.size (fun k_ => some k_ ≠ (s_.1 : Value).ownBlock) s_.2.1 Gj) ∧ (w'.heap[Gb]? = some (.cells #[.string Gg, .slice Gm Gh.length Gn] 25 (0, 0))) ∧ (w'.heap[s_.2.2]? = some (.cells #[.string (⟨#[]⟩ : ByteArray), .slice none 0 0] 25 (0, 0))) ∧ (w.heap.size ≤ s_.2.2) ∧ (w.heap.size ≤ s_.2.2) ∧ (Gb ≠ s_.2.2) ∧ (s_.2.2 ≠ Gb) ∧ (Below w.heap.size w w')) ?_ ?_
     rotate_left
     ·intro hJ2_5_6
      refine join_ (σ := Value × Value × Nat) 3 #[true, true, true, true, true, true, false, true, false, false] (fun s_ => [(24, .agg #[.string Gt, s_.1]), (27, .agg #[.string Gu, s_.2.1]), (6, .pointer (some ⟨s_.2.2, 0, none⟩))]) (fun s_ w' => (w'.cell? ⟨Gb, 0, none⟩ = some (.string Gg) ∧ w'.cell? ⟨Gb, 1, none⟩ = some (.slice Gm Gh.length Gn)) ∧ (Kd.R k32 32 w' w.heap.size (fun k_ => some k_ ≠ (s_.2.1 : Value).ownBlock) s_.1 Gi) ∧ (Kd.R k32 32 w' w.heap.size (fun k_ => some k_ ≠ (s_.1 : Value).ownBlock) s_.2.1 Gj) ∧ (w'.heap[Gb]? = some (.cells #[.string Gg, .slice Gm Gh.length Gn] 25 (0, 0))) ∧ (w'.heap[s_.2.2]? = some (.cells #[.string (⟨#[]⟩ : ByteArray), .slice none 0 0] 25 (0, 0))) ∧ (w.heap.size ≤ s_.2.2) ∧ (w.heap.size ≤ s_.2.2) ∧ (Gb ≠ s_.2.2) ∧ (s_.2.2 ≠ Gb) ∧ (Below w.heap.size w w')) ?_ ?_
      rotate_left
      ·intro hJ2_5_7
       refine join_ (σ := Value × Nat × Nat) 3 #[true, true, true, true, true, false, true, true, false, false] (fun s_ => [(24, .agg #[.string Gt, s_.1]), (5, .pointer (some ⟨s_.2.1, 0, none⟩)), (6, .pointer (some ⟨s_.2.2, 0, none⟩))]) (fun s_ w' => (w'.cell? ⟨Gb, 0, none⟩ = some (.string Gg) ∧ w'.cell? ⟨Gb, 1, none⟩ = some (.slice Gm Gh.length Gn)) ∧ (Kd.R k32 32 w' w.heap.size (fun _ => True) s_.1 Gi) ∧ (w'.heap[Gb]? = some (.cells #[.string Gg, .slice Gm Gh.length Gn] 25 (0, 0))) ∧ (w'.heap[s_.2.1]? = some (.cells #[.string (⟨#[]⟩ : ByteArray), .slice none 0 0] 25 (0, 0))) ∧ (w'.heap[s_.2.2]? = some (.cells #[.string (⟨#[]⟩ : ByteArray), .slice none 0 0] 25 (0, 0))) ∧ (w.heap.size ≤ s_.2.1) ∧ (w.heap.size ≤ s_.2.1) ∧ (Gb ≠ s_.2.1) ∧ (s_.2.1 ≠ Gb) ∧ (s_.2.2 ≠ s_.2.1) ∧ (s_.2.1 ≠ s_.2.2) ∧ (w.heap.size ≤ s_.2.2) ∧ (w.heap.size ≤ s_.2.2) ∧ (Gb ≠ s_.2.2) ∧ (s_.2.2 ≠ Gb) ∧ (Below w.heap.size w w')) ?_ ?_
       rotate_left
       ·intro hJ2_6_7
        refine join_ (σ := Value × Value) 4 #[true, true, true, true, true, true, false, false, false, false] (fun s_ => [(24, .agg #[.string Gt, s_.1]), (27, .agg #[.string Gu, s_.2])]) (fun s_ w' => (w'.cell? ⟨Gb, 0, none⟩ = some (.string Gg) ∧ w'.cell? ⟨Gb, 1, none⟩ = some (.slice Gm Gh.length Gn)) ∧ (Kd.R k32 32 w' w.heap.size (fun k_ => some k_ ≠ (s_.2 : Value).ownBlock) s_.1 Gi) ∧ (Kd.R k32 32 w' w.heap.size (fun k_ => some k_ ≠ (s_.1 : Value).ownBlock) s_.2 Gj) ∧ (w'.heap[Gb]? = some (.cells #[.string Gg, .slice Gm Gh.length Gn] 25 (0, 0))) ∧ (Below w.heap.size w w')) ?_ ?_
        rotate_left
        ·intro hJ2_5
         refine join_ (σ := Value × Nat) 4 #[true, true, true, true, true, false, true, false, false, false] (fun s_ => [(24, .agg #[.string Gt, s_.1]), (5, .pointer (some ⟨s_.2, 0, none⟩))]) (fun s_ w' => (w'.cell? ⟨Gb, 0, none⟩ = some (.string Gg) ∧ w'.cell? ⟨Gb, 1, none⟩ = some (.slice Gm Gh.length Gn)) ∧ (Kd.R k32 32 w' w.heap.size (fun _ => True) s_.1 Gi) ∧ (w'.heap[Gb]? = some (.cells #[.string Gg, .slice Gm Gh.length Gn] 25 (0, 0))) ∧ (w'.heap[s_.2]? = some (.cells #[.string (⟨#[]⟩ : ByteArray), .slice none 0 0] 25 (0, 0))) ∧ (w.heap.size ≤ s_.2) ∧ (w.heap.size ≤ s_.2) ∧ (Gb ≠ s_.2) ∧ (s_.2 ≠ Gb) ∧ (Below w.heap.size w w')) ?_ ?_
         rotate_left
         ·intro hJ2_6
          refine join_ (σ := Value × Nat) 4 #[true, true, true, true, true, false, false, true, false, false] (fun s_ => [(24, .agg #[.string Gt, s_.1]), (6, .pointer (some ⟨s_.2, 0, none⟩))]) (fun s_ w' => (w'.cell? ⟨Gb, 0, none⟩ = some (.string Gg) ∧ w'.cell? ⟨Gb, 1, none⟩ = some (.slice Gm Gh.length Gn)) ∧ (Kd.R k32 32 w' w.heap.size (fun _ => True) s_.1 Gi) ∧ (w'.heap[Gb]? = some (.cells #[.string Gg, .slice Gm Gh.length Gn] 25 (0, 0))) ∧ (w'.heap[s_.2]? = some (.cells #[.string (⟨#[]⟩ : ByteArray), .slice none 0 0] 25 (0, 0))) ∧ (w.heap.size ≤ s_.2) ∧ (w.heap.size ≤ s_.2) ∧ (Gb ≠ s_.2) ∧ (s_.2 ≠ Gb) ∧ (Below w.heap.size w w')) ?_ ?_
          rotate_left
          ·intro hJ2_7
           refine join_ (σ := Nat × Nat) 4 #[true, true, false, true, true, false, true, true, false, false] (fun s_ => [(5, .pointer (some ⟨s_.1, 0, none⟩)), (6, .pointer (some ⟨s_.2, 0, none⟩))]) (fun s_ w' => (w'.cell? ⟨Gb, 0, none⟩ = some (.string Gg) ∧ w'.cell? ⟨Gb, 1, none⟩ = some (.slice Gm Gh.length Gn)) ∧ (w'.heap[Gb]? = some (.cells #[.string Gg, .slice Gm Gh.length Gn] 25 (0, 0))) ∧ (w'.heap[s_.1]? = some (.cells #[.string (⟨#[]⟩ : ByteArray), .slice none 0 0] 25 (0, 0))) ∧ (w'.heap[s_.2]? = some (.cells #[.string (⟨#[]⟩ : ByteArray), .slice none 0 0] 25 (0, 0))) ∧ (w.heap.size ≤ s_.1) ∧ (w.heap.size ≤ s_.1) ∧ (Gb ≠ s_.1) ∧ (s_.1 ≠ Gb) ∧ (s_.2 ≠ s_.1) ∧ (s_.1 ≠ s_.2) ∧ (w.heap.size ≤ s_.2) ∧ (w.heap.size ≤ s_.2) ∧ (Gb ≠ s_.2) ∧ (s_.2 ≠ Gb) ∧ (Below w.heap.size w w')) ?_ ?_
           rotate_left
           ·intro hJ6_7
            refine join_ (σ := Value) 5 #[true, true, true, true, true, false, false, false, false, false] (fun s_ => [(24, .agg #[.string Gt, s_])]) (fun s_ w' => (w'.cell? ⟨Gb, 0, none⟩ = some (.string Gg) ∧ w'.cell? ⟨Gb, 1, none⟩ = some (.slice Gm Gh.length Gn)) ∧ (Kd.R k32 32 w' w.heap.size (fun _ => True) s_ Gi) ∧ (w'.heap[Gb]? = some (.cells #[.string Gg, .slice Gm Gh.length Gn] 25 (0, 0))) ∧ (Below w.heap.size w w')) ?_ ?_
            rotate_left
            ·intro hJ2
             refine join_ (σ := Nat) 5 #[true, true, false, true, true, false, true, false, false, false] (fun s_ => [(5, .pointer (some ⟨s_, 0, none⟩))]) (fun s_ w' => (w'.cell? ⟨Gb, 0, none⟩ = some (.string Gg) ∧ w'.cell? ⟨Gb, 1, none⟩ = some (.slice Gm Gh.length Gn)) ∧ (w'.heap[Gb]? = some (.cells #[.string Gg, .slice Gm Gh.length Gn] 25 (0, 0))) ∧ (w'.heap[s_]? = some (.cells #[.string (⟨#[]⟩ : ByteArray), .slice none 0 0] 25 (0, 0))) ∧ (w.heap.size ≤ s_) ∧ (w.heap.size ≤ s_) ∧ (Gb ≠ s_) ∧ (s_ ≠ Gb) ∧ (Below w.heap.size w w')) ?_ ?_
             rotate_left
             ·intro hJ6
              refine join_ (σ := Nat) 5 #[true, true, false, true, true, false, false, true, false, false] (fun s_ => [(6, .pointer (some ⟨s_, 0, none⟩))]) (fun s_ w' => (w'.cell? ⟨Gb, 0, none⟩ = some (.string Gg) ∧ w'.cell? ⟨Gb, 1, none⟩ = some (.slice Gm Gh.length Gn)) ∧ (w'.heap[Gb]? = some (.cells #[.string Gg, .slice Gm Gh.length Gn] 25 (0, 0))) ∧ (w'.heap[s_]? = some (.cells #[.string (⟨#[]⟩ : ByteArray), .slice none 0 0] 25 (0, 0))) ∧ (w.heap.size ≤ s_) ∧ (w.heap.size ≤ s_) ∧ (Gb ≠ s_) ∧ (s_ ≠ Gb) ∧ (Below w.heap.size w w')) ?_ ?_
              rotate_left
              ·intro hJ7
               refine three_ (i := 2) (j := 6) (k := 7) (Ni := some 24) (Nj := some 5) (Nk := some 6) #[true, true, true, true, true, false, false, false, false, false] #[true, true, false, true, true, false, true, false, false, false] #[true, true, false, true, true, false, false, true, false, false] rfl rfl rfl rfl rfl rfl (three_of HT_.out (by kernel_rfl)) (by decide) (by decide) (by decide) (fun K hK => ?_) (fun K hK => ?_) (fun K hK => ?_)
               ·skip
                refine goes_ Try.func11 (by kernel_rfl) rfl #[.agg #[.string Gg, .slice Gm Gh.length Gn], .slice A1 l1.length c1] (by rfl) rfl rfl (by (try simp only [List.map_toArray, List.map_cons, List.map_nil]); first | done | rfl | (simp only [List.length_drop, List.length_take]; rfl)) ?_
                with_reducible refine (tag_Less.calls Gg _ _ Gh _ _ l1 Gt Gi _ ?side1 ?side2 ?side3 ?side4 A19.out).mono ?_
                (case side1 => repeat (first | exact (Kd.C_below Km.out HB.out) | (with_reducible refine Kd.C_alloc ?_ _) | (with_reducible refine Kd.C_drewN ?_ _) | (with_reducible refine Kd.C_drew ?_)))
                (case side2 => exact Kn.out)
                (case side3 => repeat (first | exact (Kd.C_below HR1.out HB.out) | (with_reducible refine Kd.C_alloc ?_ _) | (with_reducible refine Kd.C_drewN ?_ _) | (with_reducible refine Kd.C_drew ?_)))
                (case side4 => exact HC1.out)
                rintro e w23 ⟨v119, rfl, ho0, hb⟩
                refine ⟨_, rfl, ?_⟩
                have n0_ := am' (Kd.R_lower ho0 (pz' (by repeat (first | (with_reducible first | exact HB.out | apply pA' | apply pN' | apply pD' | refine pS' ?_ Gp.out) | exact HB.out))))
                have n1_ := am' (bB' (g := Gb) (o := .cells #[.string Gg, .slice Gm Gh.length Gn] 25 (0, 0)) (by (with_reducible repeat (first | refine bN' ?_ _ | refine bD' ?_ | refine bA' ?_ _)); exact Ga.out) hb)
                have n2_ := am' (below_step (by repeat (first | (with_reducible first | exact HB.out | apply pA' | apply pN' | apply pD' | refine pS' ?_ Gp.out) | exact HB.out)) hb)
                clear Ga
                clear HB
                have HO120 := n0_
                have Ga := n1_
                have HB := n2_
                clear n0_ n1_ n2_
                (try clear hb)
                (try clear hb2)
                (try clear hk)
                (try clear hi)
                (try clear ho0)
                refine hK.out _ _ ⟨(bC' Ga.out 0).trans rfl, (bC' Ga.out 1).trans rfl⟩ (fun hHeld => ?_)
                clear hK K
                refine norm_ (a' := ?_) ?_ ?_
                rotate_left
                ·show Act.put _ (some 24) _ = _
                 simp only [Act.put, sa', sz', ss', i64_w, i32_w]
                 rfl
                exact norm_ (by first | (simp only [putAll, Act.put, sa', sz', ss']; done) | (simp only [putAll, Act.put, sa', sz', ss']; rfl)) (hJ2 (v119) _ ⟨hHeld, (by (with_reducible repeat (first | apply rA' | apply rN' | apply rD')); exact HO120.out), (by (with_reducible repeat (first | refine bN' ?_ _ | refine bD' ?_ | refine bA' ?_ _)); exact Ga.out), (by repeat (first | (with_reducible first | exact HB.out | apply pA' | apply pN' | apply pD' | refine pS' ?_ Gp.out) | exact HB.out))⟩)
               ·skip
                refine box_step ?hg (N := 5) ?hd (cs := #[.string (⟨#[]⟩ : ByteArray), .slice none 0 0]) (t := 25) ?hr ?_; (case hd => rfl); (case hg => rfl); (case hr => first | (go_simp; done) | (go_simp; rfl))
                intro Gc hg w23 hbox hb
                have n0_ := am' (bB' (g := Gb) (o := .cells #[.string Gg, .slice Gm Gh.length Gn] 25 (0, 0)) (by (with_reducible repeat (first | refine bN' ?_ _ | refine bD' ?_ | refine bA' ?_ _)); exact Ga.out) hb)
                have n1_ := am' (below_step (by repeat (first | (with_reducible first | exact HB.out | apply pA' | apply pN' | apply pD' | refine pS' ?_ Gp.out) | exact HB.out)) hb)
                have n2_ := am' (hbox)
                have n3_ := am' ((by rw [hg]; exact (pz' (by repeat (first | (with_reducible first | exact HB.out | apply pA' | apply pN' | apply pD' | refine pS' ?_ Gp.out) | exact HB.out))) : w.heap.size ≤ Gc))
                have n4_ := am' ((by rw [hg]; exact (pz' (by repeat (first | (with_reducible first | exact HB.out | apply pA' | apply pN' | apply pD' | refine pS' ?_ Gp.out) | exact HB.out))) : w.heap.size ≤ Gc))
                have n5_ := am' ((by rw [hg]; exact Nat.ne_of_lt (bL' (g := Gb) (o := .cells #[.string Gg, .slice Gm Gh.length Gn] 25 (0, 0)) (by (with_reducible repeat (first | refine bN' ?_ _ | refine bD' ?_ | refine bA' ?_ _)); exact Ga.out)) : Gb ≠ Gc))
                have n6_ := am' ((by rw [hg]; exact Nat.ne_of_gt (bL' (g := Gb) (o := .cells #[.string Gg, .slice Gm Gh.length Gn] 25 (0, 0)) (by (with_reducible repeat (first | refine bN' ?_ _ | refine bD' ?_ | refine bA' ?_ _)); exact Ga.out)) : Gc ≠ Gb))
                clear Ga
                clear HB
                have Ga := n0_
                have HB := n1_
                have Gf := n2_
                have GW125 := n3_
                have Gr := n4_
                have Gv := n5_
                have Kb := n6_
                clear n0_ n1_ n2_ n3_ n4_ n5_ n6_
                clear hb hbox hg
                refine hK.out _ _ ⟨(bC' Ga.out 0).trans rfl, (bC' Ga.out 1).trans rfl⟩ (fun hHeld => ?_)
                clear hK K
                refine norm_ (a' := ?_) ?_ ?_
                rotate_left
                ·show Act.put _ (some 5) _ = _
                 simp only [Act.put, sa', sz', ss', i64_w, i32_w]
                 rfl
                exact norm_ (by first | (simp only [putAll, Act.put, sa', sz', ss']; done) | (simp only [putAll, Act.put, sa', sz', ss']; rfl)) (hJ6 (Gc) _ ⟨hHeld, (by (with_reducible repeat (first | refine bN' ?_ _ | refine bD' ?_ | refine bA' ?_ _)); exact Ga.out), (by (with_reducible repeat (first | refine bN' ?_ _ | refine bD' ?_ | refine bA' ?_ _)); exact Gf.out), GW125.out, Gr.out, Gv.out, Kb.out, (by repeat (first | (with_reducible first | exact HB.out | apply pA' | apply pN' | apply pD' | refine pS' ?_ Gp.out | refine pS' ?_ Gr.out) | exact HB.out))⟩)
               ·skip
                refine box_step ?hg (N := 6) ?hd (cs := #[.string (⟨#[]⟩ : ByteArray), .slice none 0 0]) (t := 25) ?hr ?_; (case hd => rfl); (case hg => rfl); (case hr => first | (go_simp; done) | (go_simp; rfl))
                intro Gd hg w23 hbox hb
                have n0_ := am' (bB' (g := Gb) (o := .cells #[.string Gg, .slice Gm Gh.length Gn] 25 (0, 0)) (by (with_reducible repeat (first | refine bN' ?_ _ | refine bD' ?_ | refine bA' ?_ _)); exact Ga.out) hb)
                have n1_ := am' (below_step (by repeat (first | (with_reducible first | exact HB.out | apply pA' | apply pN' | apply pD' | refine pS' ?_ Gp.out) | exact HB.out)) hb)
                have n2_ := am' (hbox)
                have n3_ := am' ((by rw [hg]; exact (pz' (by repeat (first | (with_reducible first | exact HB.out | apply pA' | apply pN' | apply pD' | refine pS' ?_ Gp.out) | exact HB.out))) : w.heap.size ≤ Gd))
                have n4_ := am' ((by rw [hg]; exact (pz' (by repeat (first | (with_reducible first | exact HB.out | apply pA' | apply pN' | apply pD' | refine pS' ?_ Gp.out) | exact HB.out))) : w.heap.size ≤ Gd))
                have n5_ := am' ((by rw [hg]; exact Nat.ne_of_lt (bL' (g := Gb) (o := .cells #[.string Gg, .slice Gm Gh.length Gn] 25 (0, 0)) (by (with_reducible repeat (first | refine bN' ?_ _ | refine bD' ?_ | refine bA' ?_ _)); exact Ga.out)) : Gb ≠ Gd))
                have n6_ := am' ((by rw [hg]; exact Nat.ne_of_gt (bL' (g := Gb) (o := .cells #[.string Gg, .slice Gm Gh.length Gn] 25 (0, 0)) (by (with_reducible repeat (first | refine bN' ?_ _ | refine bD' ?_ | refine bA' ?_ _)); exact Ga.out)) : Gd ≠ Gb))
                clear Ga
                clear HB
                have Ga := n0_
                have HB := n1_
                have Ge := n2_
                have GW126 := n3_
                have Gs := n4_
                have Gw := n5_
                have Gz := n6_
                clear n0_ n1_ n2_ n3_ n4_ n5_ n6_
                clear hb hbox hg
                refine hK.out _ _ ⟨(bC' Ga.out 0).trans rfl, (bC' Ga.out 1).trans rfl⟩ (fun hHeld => ?_)
                clear hK K
                refine norm_ (a' := ?_) ?_ ?_
                rotate_left
                ·show Act.put _ (some 6) _ = _
                 simp only [Act.put, sa', sz', ss', i64_w, i32_w]
                 rfl
                exact norm_ (by first | (simp only [putAll, Act.put, sa', sz', ss']; done) | (simp only [putAll, Act.put, sa', sz', ss']; rfl)) (hJ7 (Gd) _ ⟨hHeld, (by (with_reducible repeat (first | refine bN' ?_ _ | refine bD' ?_ | refine bA' ?_ _)); exact Ga.out), (by (with_reducible repeat (first | refine bN' ?_ _ | refine bD' ?_ | refine bA' ?_ _)); exact Ge.out), GW126.out, Gs.out, Gw.out, Gz.out, (by repeat (first | (with_reducible first | exact HB.out | apply pA' | apply pN' | apply pD' | refine pS' ?_ Gp.out | refine pS' ?_ Gs.out) | exact HB.out))⟩)
              ·skip
               rintro Gd w24 ⟨hS_, h0_, h1_, h2_, h3_, h4_, h5_, h6_⟩
               have n0_ : Aside0 (w24.heap[Gb]? = some (.cells #[.string Gg, .slice Gm Gh.length Gn] 25 (0, 0))) := ⟨h0_⟩
               have n1_ : Aside0 (w24.heap[Gd]? = some (.cells #[.string (⟨#[]⟩ : ByteArray), .slice none 0 0] 25 (0, 0))) := ⟨h1_⟩
               have n2_ : Aside0 (w.heap.size ≤ Gd) := ⟨h2_⟩
               have n3_ : Aside0 (w.heap.size ≤ Gd) := ⟨h3_⟩
               have n4_ : Aside0 (Gb ≠ Gd) := ⟨h4_⟩
               have n5_ : Aside0 (Gd ≠ Gb) := ⟨h5_⟩
               have n6_ : Aside0 (Below w.heap.size w w24) := ⟨h6_⟩
               clear Ga
               clear HB
               clear h0_ h1_ h2_ h3_ h4_ h5_ h6_
               have Ga := n0_
               have Ge := n1_
               have GW126 := n2_
               have Gs := n3_
               have Gw := n4_
               have Gz := n5_
               have HB := n6_
               clear n0_ n1_ n2_ n3_ n4_ n5_ n6_
               have hHeld : w24.cell? ⟨Gb, 0, none⟩ = some (.string Gg) ∧ w24.cell? ⟨Gb, 1, none⟩ = some (.slice Gm Gh.length Gn) := hS_
               refine norm_ (a' := ?_) ?_ ?_
               rotate_left
               ·simp only [putAll, Act.put, sa', sz', ss']
                rfl
               refine two_ (i := 2) (j := 6) (Ni := some 24) (Nj := some 5) #[true, true, true, true, true, false, false, true, false, false] #[true, true, false, true, true, false, true, true, false, false] rfl rfl rfl rfl (two_of HT_.out (by kernel_rfl)) (by decide) (by decide) (fun K hK => ?_) (fun K hK => ?_)
               ·skip
                refine goes_ Try.func11 (by kernel_rfl) rfl #[.agg #[.string Gg, .slice Gm Gh.length Gn], .slice A1 l1.length c1] (by rfl) rfl rfl (by (try simp only [List.map_toArray, List.map_cons, List.map_nil]); first | done | rfl | (simp only [List.length_drop, List.length_take]; rfl)) ?_
                with_reducible refine (tag_Less.calls Gg _ _ Gh _ _ l1 Gt Gi _ ?side1 ?side2 ?side3 ?side4 A19.out).mono ?_
                (case side1 => repeat (first | exact (Kd.C_below Km.out HB.out) | (with_reducible refine Kd.C_alloc ?_ _) | (with_reducible refine Kd.C_drewN ?_ _) | (with_reducible refine Kd.C_drew ?_)))
                (case side2 => exact Kn.out)
                (case side3 => repeat (first | exact (Kd.C_below HR1.out HB.out) | (with_reducible refine Kd.C_alloc ?_ _) | (with_reducible refine Kd.C_drewN ?_ _) | (with_reducible refine Kd.C_drew ?_)))
                (case side4 => exact HC1.out)
                rintro e w25 ⟨v119, rfl, ho0, hb⟩
                refine ⟨_, rfl, ?_⟩
                have n0_ := am' (Kd.R_lower ho0 (pz' (by repeat (first | (with_reducible first | exact HB.out | apply pA' | apply pN' | apply pD' | refine pS' ?_ Gp.out | refine pS' ?_ Gs.out) | exact HB.out))))
                have n1_ := am' (bB' (g := Gb) (o := .cells #[.string Gg, .slice Gm Gh.length Gn] 25 (0, 0)) (by (with_reducible repeat (first | refine bN' ?_ _ | refine bD' ?_ | refine bA' ?_ _)); exact Ga.out) hb)
                have n2_ := am' (bB' (g := Gd) (o := .cells #[.string (⟨#[]⟩ : ByteArray), .slice none 0 0] 25 (0, 0)) (by (with_reducible repeat (first | refine bN' ?_ _ | refine bD' ?_ | refine bA' ?_ _)); exact Ge.out) hb)
                have n3_ := am' (below_step (by repeat (first | (with_reducible first | exact HB.out | apply pA' | apply pN' | apply pD' | refine pS' ?_ Gp.out | refine pS' ?_ Gs.out) | exact HB.out)) hb)
                clear Ga
                clear Ge
                clear HB
                have HO120 := n0_
                have Ga := n1_
                have Ge := n2_
                have HB := n3_
                clear n0_ n1_ n2_ n3_
                (try clear hb)
                (try clear hb2)
                (try clear hk)
                (try clear hi)
                (try clear ho0)
                refine hK.out _ _ ⟨(bC' Ga.out 0).trans rfl, (bC' Ga.out 1).trans rfl⟩ (fun hHeld => ?_)
                clear hK K
                refine norm_ (a' := ?_) ?_ ?_
                rotate_left
                ·show Act.put _ (some 24) _ = _
                 simp only [Act.put, sa', sz', ss', i64_w, i32_w]
                 rfl
                exact norm_ (by first | (simp only [putAll, Act.put, sa', sz', ss']; done) | (simp only [putAll, Act.put, sa', sz', ss']; rfl)) (hJ2_7 (v119, Gd) _ ⟨hHeld, (by (with_reducible repeat (first | apply rA' | apply rN' | apply rD')); exact HO120.out), (by (with_reducible repeat (first | refine bN' ?_ _ | refine bD' ?_ | refine bA' ?_ _)); exact Ga.out), (by (with_reducible repeat (first | refine bN' ?_ _ | refine bD' ?_ | refine bA' ?_ _)); exact Ge.out), GW126.out, Gs.out, Gw.out, Gz.out, (by repeat (first | (with_reducible first | exact HB.out | apply pA' | apply pN' | apply pD' | refine pS' ?_ Gp.out | refine pS' ?_ Gs.out) | exact HB.out))⟩)
               ·skip
                refine box_step ?hg (N := 5) ?hd (cs := #[.string (⟨#[]⟩ : ByteArray), .slice none 0 0]) (t := 25) ?hr ?_; (case hd => rfl); (case hg => rfl); (case hr => first | (go_simp; done) | (go_simp; rfl))
                intro Gc hg w25 hbox hb
                have n0_ := am' (bB' (g := Gb) (o := .cells #[.string Gg, .slice Gm Gh.length Gn] 25 (0, 0)) (by (with_reducible repeat (first | refine bN' ?_ _ | refine bD' ?_ | refine bA' ?_ _)); exact Ga.out) hb)
                have n1_ := am' (bB' (g := Gd) (o := .cells #[.string (⟨#[]⟩ : ByteArray), .slice none 0 0] 25 (0, 0)) (by (with_reducible repeat (first | refine bN' ?_ _ | refine bD' ?_ | refine bA' ?_ _)); exact Ge.out) hb)
                have n2_ := am' (below_step (by repeat (first | (with_reducible first | exact HB.out | apply pA' | apply pN' | apply pD' | refine pS' ?_ Gp.out | refine pS' ?_ Gs.out) | exact HB.out)) hb)
                have n3_ := am' (hbox)
                have n4_ := am' ((by rw [hg]; exact (pz' (by repeat (first | (with_reducible first | exact HB.out | apply pA' | apply pN' | apply pD' | refine pS' ?_ Gp.out | refine pS' ?_ Gs.out) | exact HB.out))) : w.heap.size ≤ Gc))
                have n5_ := am' ((by rw [hg]; exact (pz' (by repeat (first | (with_reducible first | exact HB.out | apply pA' | apply pN' | apply pD' | refine pS' ?_ Gp.out | refine pS' ?_ Gs.out) | exact HB.out))) : w.heap.size ≤ Gc))
                have n6_ := am' ((by rw [hg]; exact Nat.ne_of_lt (bL' (g := Gb) (o := .cells #[.string Gg, .slice Gm Gh.length Gn] 25 (0, 0)) (by (with_reducible repeat (first | refine bN' ?_ _ | refine bD' ?_ | refine bA' ?_ _)); exact Ga.out)) : Gb ≠ Gc))
                have n7_ := am' ((by rw [hg]; exact Nat.ne_of_gt (bL' (g := Gb) (o := .cells #[.string Gg, .slice Gm Gh.length Gn] 25 (0, 0)) (by (with_reducible repeat (first | refine bN' ?_ _ | refine bD' ?_ | refine bA' ?_ _)); exact Ga.out)) : Gc ≠ Gb))
                have n8_ := am' ((by rw [hg]; exact Nat.ne_of_lt (bL' (g := Gd) (o := .cells #[.string (⟨#[]⟩ : ByteArray), .slice none 0 0] 25 (0, 0)) (by (with_reducible repeat (first | refine bN' ?_ _ | refine bD' ?_ | refine bA' ?_ _)); exact Ge.out)) : Gd ≠ Gc))
                have n9_ := am' ((by rw [hg]; exact Nat.ne_of_gt (bL' (g := Gd) (o := .cells #[.string (⟨#[]⟩ : ByteArray), .slice none 0 0] 25 (0, 0)) (by (with_reducible repeat (first | refine bN' ?_ _ | refine bD' ?_ | refine bA' ?_ _)); exact Ge.out)) : Gc ≠ Gd))
                clear Ga
                clear Ge
                clear HB
                have Ga := n0_
                have Ge := n1_
                have HB := n2_
                have Gf := n3_
                have GW125 := n4_
                have Gr := n5_
                have Gv := n6_
                have Kb := n7_
                have Ke := n8_
                have Kf := n9_
                clear n0_ n1_ n2_ n3_ n4_ n5_ n6_ n7_ n8_ n9_
                clear hb hbox hg
                refine hK.out _ _ ⟨(bC' Ga.out 0).trans rfl, (bC' Ga.out 1).trans rfl⟩ (fun hHeld => ?_)
                clear hK K
                refine norm_ (a' := ?_) ?_ ?_
                rotate_left
                ·show Act.put _ (some 5) _ = _
                 simp only [Act.put, sa', sz', ss', i64_w, i32_w]
                 rfl
                exact norm_ (by first | (simp only [putAll, Act.put, sa', sz', ss']; done) | (simp only [putAll, Act.put, sa', sz', ss']; rfl)) (hJ6_7 (Gc, Gd) _ ⟨hHeld, (by (with_reducible repeat (first | refine bN' ?_ _ | refine bD' ?_ | refine bA' ?_ _)); exact Ga.out), (by (with_reducible repeat (first | refine bN' ?_ _ | refine bD' ?_ | refine bA' ?_ _)); exact Gf.out), (by (with_reducible repeat (first | refine bN' ?_ _ | refine bD' ?_ | refine bA' ?_ _)); exact Ge.out), GW125.out, Gr.out, Gv.out, Kb.out, Ke.out, Kf.out, GW126.out, Gs.out, Gw.out, Gz.out, (by repeat (first | (with_reducible first | exact HB.out | apply pA' | apply pN' | apply pD' | refine pS' ?_ Gp.out | refine pS' ?_ Gs.out | refine pS' ?_ Gr.out) | exact HB.out))⟩)
             ·skip
              rintro Gc w24 ⟨hS_, h0_, h1_, h2_, h3_, h4_, h5_, h6_⟩
              have n0_ : Aside0 (w24.heap[Gb]? = some (.cells #[.string Gg, .slice Gm Gh.length Gn] 25 (0, 0))) := ⟨h0_⟩
              have n1_ : Aside0 (w24.heap[Gc]? = some (.cells #[.string (⟨#[]⟩ : ByteArray), .slice none 0 0] 25 (0, 0))) := ⟨h1_⟩
              have n2_ : Aside0 (w.heap.size ≤ Gc) := ⟨h2_⟩
              have n3_ : Aside0 (w.heap.size ≤ Gc) := ⟨h3_⟩
              have n4_ : Aside0 (Gb ≠ Gc) := ⟨h4_⟩
              have n5_ : Aside0 (Gc ≠ Gb) := ⟨h5_⟩
              have n6_ : Aside0 (Below w.heap.size w w24) := ⟨h6_⟩
              clear Ga
              clear HB
              clear h0_ h1_ h2_ h3_ h4_ h5_ h6_
              have Ga := n0_
              have Gf := n1_
              have GW125 := n2_
              have Gr := n3_
              have Gv := n4_
              have Kb := n5_
              have HB := n6_
              clear n0_ n1_ n2_ n3_ n4_ n5_ n6_
              have hHeld : w24.cell? ⟨Gb, 0, none⟩ = some (.string Gg) ∧ w24.cell? ⟨Gb, 1, none⟩ = some (.slice Gm Gh.length Gn) := hS_
              refine norm_ (a' := ?_) ?_ ?_
              rotate_left
              ·simp only [putAll, Act.put, sa', sz', ss']
               rfl
              refine two_ (i := 2) (j := 7) (Ni := some 24) (Nj := some 6) #[true, true, true, true, true, false, true, false, false, false] #[true, true, false, true, true, false, true, true, false, false] rfl rfl rfl rfl (two_of HT_.out (by kernel_rfl)) (by decide) (by decide) (fun K hK => ?_) (fun K hK => ?_)
              ·skip
               refine goes_ Try.func11 (by kernel_rfl) rfl #[.agg #[.string Gg, .slice Gm Gh.length Gn], .slice A1 l1.length c1] (by rfl) rfl rfl (by (try simp only [List.map_toArray, List.map_cons, List.map_nil]); first | done | rfl | (simp only [List.length_drop, List.length_take]; rfl)) ?_
               with_reducible refine (tag_Less.calls Gg _ _ Gh _ _ l1 Gt Gi _ ?side1 ?side2 ?side3 ?side4 A19.out).mono ?_
               (case side1 => repeat (first | exact (Kd.C_below Km.out HB.out) | (with_reducible refine Kd.C_alloc ?_ _) | (with_reducible refine Kd.C_drewN ?_ _) | (with_reducible refine Kd.C_drew ?_)))
               (case side2 => exact Kn.out)
               (case side3 => repeat (first | exact (Kd.C_below HR1.out HB.out) | (with_reducible refine Kd.C_alloc ?_ _) | (with_reducible refine Kd.C_drewN ?_ _) | (with_reducible refine Kd.C_drew ?_)))
               (case side4 => exact HC1.out)
               rintro e w25 ⟨v119, rfl, ho0, hb⟩
               refine ⟨_, rfl, ?_⟩
               have n0_ := am' (Kd.R_lower ho0 (pz' (by repeat (first | (with_reducible first | exact HB.out | apply pA' | apply pN' | apply pD' | refine pS' ?_ Gp.out | refine pS' ?_ Gr.out) | exact HB.out))))
               have n1_ := am' (bB' (g := Gb) (o := .cells #[.string Gg, .slice Gm Gh.length Gn] 25 (0, 0)) (by (with_reducible repeat (first | refine bN' ?_ _ | refine bD' ?_ | refine bA' ?_ _)); exact Ga.out) hb)
               have n2_ := am' (bB' (g := Gc) (o := .cells #[.string (⟨#[]⟩ : ByteArray), .slice none 0 0] 25 (0, 0)) (by (with_reducible repeat (first | refine bN' ?_ _ | refine bD' ?_ | refine bA' ?_ _)); exact Gf.out) hb)
               have n3_ := am' (below_step (by repeat (first | (with_reducible first | exact HB.out | apply pA' | apply pN' | apply pD' | refine pS' ?_ Gp.out | refine pS' ?_ Gr.out) | exact HB.out)) hb)
               clear Ga
               clear Gf
               clear HB
               have HO120 := n0_
               have Ga := n1_
               have Gf := n2_
               have HB := n3_
               clear n0_ n1_ n2_ n3_
               (try clear hb)
               (try clear hb2)
               (try clear hk)
               (try clear hi)
               (try clear ho0)
               refine hK.out _ _ ⟨(bC' Ga.out 0).trans rfl, (bC' Ga.out 1).trans rfl⟩ (fun hHeld => ?_)
               clear hK K
               refine norm_ (a' := ?_) ?_ ?_
               rotate_left
               ·show Act.put _ (some 24) _ = _
                simp only [Act.put, sa', sz', ss', i64_w, i32_w]
                rfl
               exact norm_ (by first | (simp only [putAll, Act.put, sa', sz', ss']; done) | (simp only [putAll, Act.put, sa', sz', ss']; rfl)) (hJ2_6 (v119, Gc) _ ⟨hHeld, (by (with_reducible repeat (first | apply rA' | apply rN' | apply rD')); exact HO120.out), (by (with_reducible repeat (first | refine bN' ?_ _ | refine bD' ?_ | refine bA' ?_ _)); exact Ga.out), (by (with_reducible repeat (first | refine bN' ?_ _ | refine bD' ?_ | refine bA' ?_ _)); exact Gf.out), GW125.out, Gr.out, Gv.out, Kb.out, (by repeat (first | (with_reducible first | exact HB.out | apply pA' | apply pN' | apply pD' | refine pS' ?_ Gp.out | refine pS' ?_ Gr.out) | exact HB.out))⟩)
              ·skip
               refine box_step ?hg (N := 6) ?hd (cs := #[.string (⟨#[]⟩ : ByteArray), .slice none 0 0]) (t := 25) ?hr ?_; (case hd => rfl); (case hg => rfl); (case hr => first | (go_simp; done) | (go_simp; rfl))
               intro Gd hg w25 hbox hb
               have n0_ := am' (bB' (g := Gb) (o := .cells #[.string Gg, .slice Gm Gh.length Gn] 25 (0, 0)) (by (with_reducible repeat (first | refine bN' ?_ _ | refine bD' ?_ | refine bA' ?_ _)); exact Ga.out) hb)
               have n1_ := am' (bB' (g := Gc) (o := .cells #[.string (⟨#[]⟩ : ByteArray), .slice none 0 0] 25 (0, 0)) (by (with_reducible repeat (first | refine bN' ?_ _ | refine bD' ?_ | refine bA' ?_ _)); exact Gf.out) hb)
               have n2_ := am' (below_step (by repeat (first | (with_reducible first | exact HB.out | apply pA' | apply pN' | apply pD' | refine pS' ?_ Gp.out | refine pS' ?_ Gr.out) | exact HB.out)) hb)
               have n3_ := am' (hbox)
               have n4_ := am' ((by rw [hg]; exact (pz' (by repeat (first | (with_reducible first | exact HB.out | apply pA' | apply pN' | apply pD' | refine pS' ?_ Gp.out | refine pS' ?_ Gr.out) | exact HB.out))) : w.heap.size ≤ Gd))
               have n5_ := am' ((by rw [hg]; exact (pz' (by repeat (first | (with_reducible first | exact HB.out | apply pA' | apply pN' | apply pD' | refine pS' ?_ Gp.out | refine pS' ?_ Gr.out) | exact HB.out))) : w.heap.size ≤ Gd))
               have n6_ := am' ((by rw [hg]; exact Nat.ne_of_lt (bL' (g := Gb) (o := .cells #[.string Gg, .slice Gm Gh.length Gn] 25 (0, 0)) (by (with_reducible repeat (first | refine bN' ?_ _ | refine bD' ?_ | refine bA' ?_ _)); exact Ga.out)) : Gb ≠ Gd))
               have n7_ := am' ((by rw [hg]; exact Nat.ne_of_gt (bL' (g := Gb) (o := .cells #[.string Gg, .slice Gm Gh.length Gn] 25 (0, 0)) (by (with_reducible repeat (first | refine bN' ?_ _ | refine bD' ?_ | refine bA' ?_ _)); exact Ga.out)) : Gd ≠ Gb))
               have n8_ := am' ((by rw [hg]; exact Nat.ne_of_lt (bL' (g := Gc) (o := .cells #[.string (⟨#[]⟩ : ByteArray), .slice none 0 0] 25 (0, 0)) (by (with_reducible repeat (first | refine bN' ?_ _ | refine bD' ?_ | refine bA' ?_ _)); exact Gf.out)) : Gc ≠ Gd))
               have n9_ := am' ((by rw [hg]; exact Nat.ne_of_gt (bL' (g := Gc) (o := .cells #[.string (⟨#[]⟩ : ByteArray), .slice none 0 0] 25 (0, 0)) (by (with_reducible repeat (first | refine bN' ?_ _ | refine bD' ?_ | refine bA' ?_ _)); exact Gf.out)) : Gd ≠ Gc))
               clear Ga
               clear Gf
               clear HB
               have Ga := n0_
               have Gf := n1_
               have HB := n2_
               have Ge := n3_
               have GW126 := n4_
               have Gs := n5_
               have Gw := n6_
               have Gz := n7_
               have Kf := n8_
               have Ke := n9_
               clear n0_ n1_ n2_ n3_ n4_ n5_ n6_ n7_ n8_ n9_
               clear hb hbox hg
               refine hK.out _ _ ⟨(bC' Ga.out 0).trans rfl, (bC' Ga.out 1).trans rfl⟩ (fun hHeld => ?_)
               clear hK K
               refine norm_ (a' := ?_) ?_ ?_
               rotate_left
               ·show Act.put _ (some 6) _ = _
                simp only [Act.put, sa', sz', ss', i64_w, i32_w]
                rfl
               exact norm_ (by first | (simp only [putAll, Act.put, sa', sz', ss']; done) | (simp only [putAll, Act.put, sa', sz', ss']; rfl)) (hJ6_7 (Gc, Gd) _ ⟨hHeld, (by (with_reducible repeat (first | refine bN' ?_ _ | refine bD' ?_ | refine bA' ?_ _)); exact Ga.out), (by (with_reducible repeat (first | refine bN' ?_ _ | refine bD' ?_ | refine bA' ?_ _)); exact Gf.out), (by (with_reducible repeat (first | refine bN' ?_ _ | refine bD' ?_ | refine bA' ?_ _)); exact Ge.out), GW125.out, Gr.out, Gv.out, Kb.out, Ke.out, Kf.out, GW126.out, Gs.out, Gw.out, Gz.out, (by repeat (first | (with_reducible first | exact HB.out | apply pA' | apply pN' | apply pD' | refine pS' ?_ Gp.out | refine pS' ?_ Gr.out | refine pS' ?_ Gs.out) | exact HB.out))⟩)
            ·skip
             rintro v119 w24 ⟨hS_, h0_, h1_, h2_⟩
             have n0_ : Aside0 (Kd.R k32 32 w24 w.heap.size (fun _ => True) v119 Gi) := ⟨h0_⟩
             have n1_ : Aside0 (w24.heap[Gb]? = some (.cells #[.string Gg, .slice Gm Gh.length Gn] 25 (0, 0))) := ⟨h1_⟩
             have n2_ : Aside0 (Below w.heap.size w w24) := ⟨h2_⟩
             clear Ga
             clear HB
             clear h0_ h1_ h2_
             have HO120 := n0_
             have Ga := n1_
             have HB := n2_
             clear n0_ n1_ n2_
             have hHeld : w24.cell? ⟨Gb, 0, none⟩ = some (.string Gg) ∧ w24.cell? ⟨Gb, 1, none⟩ = some (.slice Gm Gh.length Gn) := hS_
             refine norm_ (a' := ?_) ?_ ?_
             rotate_left
             ·simp only [putAll, Act.put, sa', sz', ss']
              rfl
             refine three_ (i := 5) (j := 6) (k := 7) (Ni := some 27) (Nj := some 5) (Nk := some 6) #[true, true, true, true, true, true, false, false, false, false] #[true, true, true, true, true, false, true, false, false, false] #[true, true, true, true, true, false, false, true, false, false] rfl rfl rfl rfl rfl rfl (three_of HT_.out (by kernel_rfl)) (by decide) (by decide) (by decide) (fun K hK => ?_) (fun K hK => ?_) (fun K hK => ?_)
             ·skip
              refine goes_ Try.func12 (by kernel_rfl) rfl #[.agg #[.string Gg, .slice Gm Gh.length Gn], .slice A1 l1.length c1] (by rfl) rfl rfl (by (try simp only [List.map_toArray, List.map_cons, List.map_nil]); first | done | rfl | (simp only [List.length_drop, List.length_take]; rfl)) ?_
              with_reducible refine (tag_Only.calls Gg _ _ Gh _ _ l1 Gu Gj _ ?side1 ?side2 ?side3 ?side4 A20.out).mono ?_
              (case side1 => repeat (first | exact (Kd.C_below Km.out HB.out) | (with_reducible refine Kd.C_alloc ?_ _) | (with_reducible refine Kd.C_drewN ?_ _) | (with_reducible refine Kd.C_drew ?_)))
              (case side2 => exact Kn.out)
              (case side3 => repeat (first | exact (Kd.C_below HR1.out HB.out) | (with_reducible refine Kd.C_alloc ?_ _) | (with_reducible refine Kd.C_drewN ?_ _) | (with_reducible refine Kd.C_drew ?_)))
              (case side4 => exact HC1.out)
              rintro e w25 ⟨v123, rfl, ho0, hb⟩
              refine ⟨_, rfl, ?_⟩
              have n0_ := am' (Kd.R_elder' (by (with_reducible repeat (first | apply rA' | apply rN' | apply rD')); exact HO120.out) (Kd.R_base ho0) hb)
              have n1_ := am' (Kd.R_lower (Kd.R_new' ho0 (Kd.R_lt (by (with_reducible repeat (first | apply rA' | apply rN' | apply rD')); exact HO120.out))) (pz' (by repeat (first | (with_reducible first | exact HB.out | apply pA' | apply pN' | apply pD' | refine pS' ?_ Gp.out) | exact HB.out))))
              have n2_ := am' (bB' (g := Gb) (o := .cells #[.string Gg, .slice Gm Gh.length Gn] 25 (0, 0)) (by (with_reducible repeat (first | refine bN' ?_ _ | refine bD' ?_ | refine bA' ?_ _)); exact Ga.out) hb)
              have n3_ := am' (below_step (by repeat (first | (with_reducible first | exact HB.out | apply pA' | apply pN' | apply pD' | refine pS' ?_ Gp.out) | exact HB.out)) hb)
              clear HO120
              clear Ga
              clear HB
              have HO120 := n0_
              have HO124 := n1_
              have Ga := n2_
              have HB := n3_
              clear n0_ n1_ n2_ n3_
              (try clear hb)
              (try clear hb2)
              (try clear hk)
              (try clear hi)
              (try clear ho0)
              refine hK.out _ _ ⟨(bC' Ga.out 0).trans rfl, (bC' Ga.out 1).trans rfl⟩ (fun hHeld => ?_)
              clear hK K
              refine norm_ (a' := ?_) ?_ ?_
              rotate_left
              ·show Act.put _ (some 27) _ = _
               simp only [Act.put, sa', sz', ss', i64_w, i32_w]
               rfl
              exact norm_ (by first | (simp only [putAll, Act.put, sa', sz', ss']; done) | (simp only [putAll, Act.put, sa', sz', ss']; rfl)) (hJ2_5 (v119, v123) _ ⟨hHeld, (by (with_reducible repeat (first | apply rA' | apply rN' | apply rD')); exact rM' HO120.out (fun _ hk => hk.2)), (by (with_reducible repeat (first | apply rA' | apply rN' | apply rD')); exact rM' HO124.out (fun _ hk => hk.2)), (by (with_reducible repeat (first | refine bN' ?_ _ | refine bD' ?_ | refine bA' ?_ _)); exact Ga.out), (by repeat (first | (with_reducible first | exact HB.out | apply pA' | apply pN' | apply pD' | refine pS' ?_ Gp.out) | exact HB.out))⟩)
             ·skip
              refine box_step ?hg (N := 5) ?hd (cs := #[.string (⟨#[]⟩ : ByteArray), .slice none 0 0]) (t := 25) ?hr ?_; (case hd => rfl); (case hg => rfl); (case hr => first | (go_simp; done) | (go_simp; rfl))
              intro Gc hg w25 hbox hb
              have n0_ := am' (rB' (by (with_reducible repeat (first | apply rA' | apply rN' | apply rD')); exact HO120.out) hb)
              have n1_ := am' (bB' (g := Gb) (o := .cells #[.string Gg, .slice Gm Gh.length Gn] 25 (0, 0)) (by (with_reducible repeat (first | refine bN' ?_ _ | refine bD' ?_ | refine bA' ?_ _)); exact Ga.out) hb)
              have n2_ := am' (below_step (by repeat (first | (with_reducible first | exact HB.out | apply pA' | apply pN' | apply pD' | refine pS' ?_ Gp.out) | exact HB.out)) hb)
              have n3_ := am' (hbox)
              have n4_ := am' ((by rw [hg]; exact (pz' (by repeat (first | (with_reducible first | exact HB.out | apply pA' | apply pN' | apply pD' | refine pS' ?_ Gp.out) | exact HB.out))) : w.heap.size ≤ Gc))
              have n5_ := am' ((by rw [hg]; exact (pz' (by repeat (first | (with_reducible first | exact HB.out | apply pA' | apply pN' | apply pD' | refine pS' ?_ Gp.out) | exact HB.out))) : w.heap.size ≤ Gc))
              have n6_ := am' ((by rw [hg]; exact Nat.ne_of_lt (bL' (g := Gb) (o := .cells #[.string Gg, .slice Gm Gh.length Gn] 25 (0, 0)) (by (with_reducible repeat (first | refine bN' ?_ _ | refine bD' ?_ | refine bA' ?_ _)); exact Ga.out)) : Gb ≠ Gc))
              have n7_ := am' ((by rw [hg]; exact Nat.ne_of_gt (bL' (g := Gb) (o := .cells #[.string Gg, .slice Gm Gh.length Gn] 25 (0, 0)) (by (with_reducible repeat (first | refine bN' ?_ _ | refine bD' ?_ | refine bA' ?_ _)); exact Ga.out)) : Gc ≠ Gb))
              clear HO120
              clear Ga
              clear HB
              have HO120 := n0_
              have Ga := n1_
              have HB := n2_
              have Gf := n3_
              have GW125 := n4_
              have Gr := n5_
              have Gv := n6_
              have Kb := n7_
              clear n0_ n1_ n2_ n3_ n4_ n5_ n6_ n7_
              clear hb hbox hg
              refine hK.out _ _ ⟨(bC' Ga.out 0).trans rfl, (bC' Ga.out 1).trans rfl⟩ (fun hHeld => ?_)
              clear hK K
              refine norm_ (a' := ?_) ?_ ?_
              rotate_left
              ·show Act.put _ (some 5) _ = _
               simp only [Act.put, sa', sz', ss', i64_w, i32_w]
               rfl
              exact norm_ (by first | (simp only [putAll, Act.put, sa', sz', ss']; done) | (simp only [putAll, Act.put, sa', sz', ss']; rfl)) (hJ2_6 (v119, Gc) _ ⟨hHeld, (by (with_reducible repeat (first | apply rA' | apply rN' | apply rD')); exact HO120.out), (by (with_reducible repeat (first | refine bN' ?_ _ | refine bD' ?_ | refine bA' ?_ _)); exact Ga.out), (by (with_reducible repeat (first | refine bN' ?_ _ | refine bD' ?_ | refine bA' ?_ _)); exact Gf.out), GW125.out, Gr.out, Gv.out, Kb.out, (by repeat (first | (with_reducible first | exact HB.out | apply pA' | apply pN' | apply pD' | refine pS' ?_ Gp.out | refine pS' ?_ Gr.out) | exact HB.out))⟩)
             ·skip
              refine box_step ?hg (N := 6) ?hd (cs := #[.string (⟨#[]⟩ : ByteArray), .slice none 0 0]) (t := 25) ?hr ?_; (case hd => rfl); (case hg => rfl); (case hr => first | (go_simp; done) | (go_simp; rfl))
              intro Gd hg w25 hbox hb
              have n0_ := am' (rB' (by (with_reducible repeat (first | apply rA' | apply rN' | apply rD')); exact HO120.out) hb)
              have n1_ := am' (bB' (g := Gb) (o := .cells #[.string Gg, .slice Gm Gh.length Gn] 25 (0, 0)) (by (with_reducible repeat (first | refine bN' ?_ _ | refine bD' ?_ | refine bA' ?_ _)); exact Ga.out) hb)
              have n2_ := am' (below_step (by repeat (first | (with_reducible first | exact HB.out | apply pA' | apply pN' | apply pD' | refine pS' ?_ Gp.out) | exact HB.out)) hb)
              have n3_ := am' (hbox)
              have n4_ := am' ((by rw [hg]; exact (pz' (by repeat (first | (with_reducible first | exact HB.out | apply pA' | apply pN' | apply pD' | refine pS' ?_ Gp.out) | exact HB.out))) : w.heap.size ≤ Gd))
              have n5_ := am' ((by rw [hg]; exact (pz' (by repeat (first | (with_reducible first | exact HB.out | apply pA' | apply pN' | apply pD' | refine pS' ?_ Gp.out) | exact HB.out))) : w.heap.size ≤ Gd))
              have n6_ := am' ((by rw [hg]; exact Nat.ne_of_lt (bL' (g := Gb) (o := .cells #[.string Gg, .slice Gm Gh.length Gn] 25 (0, 0)) (by (with_reducible repeat (first | refine bN' ?_ _ | refine bD' ?_ | refine bA' ?_ _)); exact Ga.out)) : Gb ≠ Gd))
              have n7_ := am' ((by rw [hg]; exact Nat.ne_of_gt (bL' (g := Gb) (o := .cells #[.string Gg, .slice Gm Gh.length Gn] 25 (0, 0)) (by (with_reducible repeat (first | refine bN' ?_ _ | refine bD' ?_ | refine bA' ?_ _)); exact Ga.out)) : Gd ≠ Gb))
              clear HO120
              clear Ga
              clear HB
              have HO120 := n0_
              have Ga := n1_
              have HB := n2_
              have Ge := n3_
              have GW126 := n4_
              have Gs := n5_
              have Gw := n6_
              have Gz := n7_
              clear n0_ n1_ n2_ n3_ n4_ n5_ n6_ n7_
              clear hb hbox hg
              refine hK.out _ _ ⟨(bC' Ga.out 0).trans rfl, (bC' Ga.out 1).trans rfl⟩ (fun hHeld => ?_)
              clear hK K
              refine norm_ (a' := ?_) ?_ ?_
              rotate_left
              ·show Act.put _ (some 6) _ = _
               simp only [Act.put, sa', sz', ss', i64_w, i32_w]
               rfl
              exact norm_ (by first | (simp only [putAll, Act.put, sa', sz', ss']; done) | (simp only [putAll, Act.put, sa', sz', ss']; rfl)) (hJ2_7 (v119, Gd) _ ⟨hHeld, (by (with_reducible repeat (first | apply rA' | apply rN' | apply rD')); exact HO120.out), (by (with_reducible repeat (first | refine bN' ?_ _ | refine bD' ?_ | refine bA' ?_ _)); exact Ga.out), (by (with_reducible repeat (first | refine bN' ?_ _ | refine bD' ?_ | refine bA' ?_ _)); exact Ge.out), GW126.out, Gs.out, Gw.out, Gz.out, (by repeat (first | (with_reducible first | exact HB.out | apply pA' | apply pN' | apply pD' | refine pS' ?_ Gp.out | refine pS' ?_ Gs.out) | exact HB.out))⟩)
           ·skip
            rintro ⟨Gc, Gd⟩ w25 ⟨hS_, h0_, h1_, h2_, h3_, h4_, h5_, h6_, h7_, h8_, h9_, h10_, h11_, h12_, h13_⟩
            have n0_ : Aside0 (w25.heap[Gb]? = some (.cells #[.string Gg, .slice Gm Gh.length Gn] 25 (0, 0))) := ⟨h0_⟩
            have n1_ : Aside0 (w25.heap[Gc]? = some (.cells #[.string (⟨#[]⟩ : ByteArray), .slice none 0 0] 25 (0, 0))) := ⟨h1_⟩
            have n2_ : Aside0 (w25.heap[Gd]? = some (.cells #[.string (⟨#[]⟩ : ByteArray), .slice none 0 0] 25 (0, 0))) := ⟨h2_⟩
            have n3_ : Aside0 (w.heap.size ≤ Gc) := ⟨h3_⟩
            have n4_ : Aside0 (w.heap.size ≤ Gc) := ⟨h4_⟩
            have n5_ : Aside0 (Gb ≠ Gc) := ⟨h5_⟩
            have n6_ : Aside0 (Gc ≠ Gb) := ⟨h6_⟩
            have n7_ : Aside0 (Gd ≠ Gc) := ⟨h7_⟩
            have n8_ : Aside0 (Gc ≠ Gd) := ⟨h8_⟩
            have n9_ : Aside0 (w.heap.size ≤ Gd) := ⟨h9_⟩
            have n10_ : Aside0 (w.heap.size ≤ Gd) := ⟨h10_⟩
            have n11_ : Aside0 (Gb ≠ Gd) := ⟨h11_⟩
            have n12_ : Aside0 (Gd ≠ Gb) := ⟨h12_⟩
            have n13_ : Aside0 (Below w.heap.size w w25) := ⟨h13_⟩
            clear Ga
            clear HB
            clear h0_ h1_ h2_ h3_ h4_ h5_ h6_ h7_ h8_ h9_ h10_ h11_ h12_ h13_
            have Ga := n0_
            have Gf := n1_
            have Ge := n2_
            have GW125 := n3_
            have Gr := n4_
            have Gv := n5_
            have Kb := n6_
            have Ke := n7_
            have Kf := n8_
            have GW126 := n9_
            have Gs := n10_
            have Gw := n11_
            have Gz := n12_
            have HB := n13_
            clear n0_ n1_ n2_ n3_ n4_ n5_ n6_ n7_ n8_ n9_ n10_ n11_ n12_ n13_
            have hHeld : w25.cell? ⟨Gb, 0, none⟩ = some (.string Gg) ∧ w25.cell? ⟨Gb, 1, none⟩ = some (.slice Gm Gh.length Gn) := hS_
            refine norm_ (a' := ?_) ?_ ?_
            rotate_left
            ·simp only [putAll, Act.put, sa', sz', ss']
             rfl
            refine one_ (i := 2) (N := some 24) #[true, true, true, true, true, false, true, true, false, false] rfl rfl (one_of HT_.out (by kernel_rfl)) (by decide) (fun K hK => ?_)
            refine goes_ Try.func11 (by kernel_rfl) rfl #[.agg #[.string Gg, .slice Gm Gh.length Gn], .slice A1 l1.length c1] (by rfl) rfl rfl (by (try simp only [List.map_toArray, List.map_cons, List.map_nil]); first | done | rfl | (simp only [List.length_drop, List.length_take]; rfl)) ?_
            with_reducible refine (tag_Less.calls Gg _ _ Gh _ _ l1 Gt Gi _ ?side1 ?side2 ?side3 ?side4 A19.out).mono ?_
            (case side1 => repeat (first | exact (Kd.C_below Km.out HB.out) | (with_reducible refine Kd.C_alloc ?_ _) | (with_reducible refine Kd.C_drewN ?_ _) | (with_reducible refine Kd.C_drew ?_)))
            (case side2 => exact Kn.out)
            (case side3 => repeat (first | exact (Kd.C_below HR1.out HB.out) | (with_reducible refine Kd.C_alloc ?_ _) | (with_reducible refine Kd.C_drewN ?_ _) | (with_reducible refine Kd.C_drew ?_)))
            (case side4 => exact HC1.out)
            rintro e w26 ⟨v119, rfl, ho0, hb⟩
            refine ⟨_, rfl, ?_⟩
            have n0_ := am' (Kd.R_lower ho0 (pz' (by repeat (first | (with_reducible first | exact HB.out | apply pA' | apply pN' | apply pD' | refine pS' ?_ Gp.out | refine pS' ?_ Gr.out | refine pS' ?_ Gs.out) | exact HB.out))))
            have n1_ := am' (bB' (g := Gb) (o := .cells #[.string Gg, .slice Gm Gh.length Gn] 25 (0, 0)) (by (with_reducible repeat (first | refine bN' ?_ _ | refine bD' ?_ | refine bA' ?_ _)); exact Ga.out) hb)
            have n2_ := am' (bB' (g := Gc) (o := .cells #[.string (⟨#[]⟩ : ByteArray), .slice none 0 0] 25 (0, 0)) (by (with_reducible repeat (first | refine bN' ?_ _ | refine bD' ?_ | refine bA' ?_ _)); exact Gf.out) hb)
            have n3_ := am' (bB' (g := Gd) (o := .cells #[.string (⟨#[]⟩ : ByteArray), .slice none 0 0] 25 (0, 0)) (by (with_reducible repeat (first | refine bN' ?_ _ | refine bD' ?_ | refine bA' ?_ _)); exact Ge.out) hb)
            have n4_ := am' (below_step (by repeat (first | (with_reducible first | exact HB.out | apply pA' | apply pN' | apply pD' | refine pS' ?_ Gp.out | refine pS' ?_ Gr.out | refine pS' ?_ Gs.out) | exact HB.out)) hb)
            clear Ga
            clear Gf
            clear Ge
            clear HB
            have HO120 := n0_
            have Ga := n1_
            have Gf := n2_
            have Ge := n3_
            have HB := n4_
            clear n0_ n1_ n2_ n3_ n4_
            (try clear hb)
            (try clear hb2)
            (try clear hk)
            (try clear hi)
            (try clear ho0)
            refine hK.out _ _ ⟨(bC' Ga.out 0).trans rfl, (bC' Ga.out 1).trans rfl⟩ (fun hHeld => ?_)
            clear hK K
            refine norm_ (a' := ?_) ?_ ?_
            rotate_left
            ·show Act.put _ (some 24) _ = _
             simp only [Act.put, sa', sz', ss', i64_w, i32_w]
             rfl
            exact norm_ (by first | (simp only [putAll, Act.put, sa', sz', ss']; done) | (simp only [putAll, Act.put, sa', sz', ss']; rfl)) (hJ2_6_7 (v119, Gc, Gd) _ ⟨hHeld, (by (with_reducible repeat (first | apply rA' | apply rN' | apply rD')); exact HO120.out), (by (with_reducible repeat (first | refine bN' ?_ _ | refine bD' ?_ | refine bA' ?_ _)); exact Ga.out), (by (with_reducible repeat (first | refine bN' ?_ _ | refine bD' ?_ | refine bA' ?_ _)); exact Gf.out), (by (with_reducible repeat (first | refine bN' ?_ _ | refine bD' ?_ | refine bA' ?_ _)); exact Ge.out), GW125.out, Gr.out, Gv.out, Kb.out, Ke.out, Kf.out, GW126.out, Gs.out, Gw.out, Gz.out, (by repeat (first | (with_reducible first | exact HB.out | apply pA' | apply pN' | apply pD' | refine pS' ?_ Gp.out | refine pS' ?_ Gr.out | refine pS' ?_ Gs.out) | exact HB.out))⟩)
          ·skip
           rintro ⟨v119, Gd⟩ w25 ⟨hS_, h0_, h1_, h2_, h3_, h4_, h5_, h6_, h7_⟩
           have n0_ : Aside0 (Kd.R k32 32 w25 w.heap.size (fun _ => True) v119 Gi) := ⟨h0_⟩
           have n1_ : Aside0 (w25.heap[Gb]? = some (.cells #[.string Gg, .slice Gm Gh.length Gn] 25 (0, 0))) := ⟨h1_⟩
           have n2_ : Aside0 (w25.heap[Gd]? = some (.cells #[.string (⟨#[]⟩ : ByteArray), .slice none 0 0] 25 (0, 0))) := ⟨h2_⟩
           have n3_ : Aside0 (w.heap.size ≤ Gd) := ⟨h3_⟩
           have n4_ : Aside0 (w.heap.size ≤ Gd) := ⟨h4_⟩
           have n5_ : Aside0 (Gb ≠ Gd) := ⟨h5_⟩
           have n6_ : Aside0 (Gd ≠ Gb) := ⟨h6_⟩
           have n7_ : Aside0 (Below w.heap.size w w25) := ⟨h7_⟩
           clear Ga
           clear HB
           clear h0_ h1_ h2_ h3_ h4_ h5_ h6_ h7_
           have HO120 := n0_
           have Ga := n1_
           have Ge := n2_
           have GW126 := n3_
           have Gs := n4_
           have Gw := n5_
           have Gz := n6_
           have HB := n7_
           clear n0_ n1_ n2_ n3_ n4_ n5_ n6_ n7_
           have hHeld : w25.cell? ⟨Gb, 0, none⟩ = some (.string Gg) ∧ w25.cell? ⟨Gb, 1, none⟩ = some (.slice Gm Gh.length Gn) := hS_
           refine norm_ (a' := ?_) ?_ ?_
           rotate_left
           ·simp only [putAll, Act.put, sa', sz', ss']
            rfl
           refine two_ (i := 5) (j := 6) (Ni := some 27) (Nj := some 5) #[true, true, true, true, true, true, false, true, false, false] #[true, true, true, true, true, false, true, true, false, false] rfl rfl rfl rfl (two_of HT_.out (by kernel_rfl)) (by decide) (by decide) (fun K hK => ?_) (fun K hK => ?_)
           ·skip
            refine goes_ Try.func12 (by kernel_rfl) rfl #[.agg #[.string Gg, .slice Gm Gh.length Gn], .slice A1 l1.length c1] (by rfl) rfl rfl (by (try simp only [List.map_toArray, List.map_cons, List.map_nil]); first | done | rfl | (simp only [List.length_drop, List.length_take]; rfl)) ?_
            with_reducible refine (tag_Only.calls Gg _ _ Gh _ _ l1 Gu Gj _ ?side1 ?side2 ?side3 ?side4 A20.out).mono ?_
            (case side1 => repeat (first | exact (Kd.C_below Km.out HB.out) | (with_reducible refine Kd.C_alloc ?_ _) | (with_reducible refine Kd.C_drewN ?_ _) | (with_reducible refine Kd.C_drew ?_)))
            (case side2 => exact Kn.out)
            (case side3 => repeat (first | exact (Kd.C_below HR1.out HB.out) | (with_reducible refine Kd.C_alloc ?_ _) | (with_reducible refine Kd.C_drewN ?_ _) | (with_reducible refine Kd.C_drew ?_)))
            (case side4 => exact HC1.out)
            rintro e w26 ⟨v123, rfl, ho0, hb⟩
            refine ⟨_, rfl, ?_⟩
            have n0_ := am' (Kd.R_elder' (by (with_reducible repeat (first | apply rA' | apply rN' | apply rD')); exact HO120.out) (Kd.R_base ho0) hb)
            have n1_ := am' (Kd.R_lower (Kd.R_new' ho0 (Kd.R_lt (by (with_reducible repeat (first | apply rA' | apply rN' | apply rD')); exact HO120.out))) (pz' (by repeat (first | (with_reducible first | exact HB.out | apply pA' | apply pN' | apply pD' | refine pS' ?_ Gp.out | refine pS' ?_ Gs.out) | exact HB.out))))
            have n2_ := am' (bB' (g := Gb) (o := .cells #[.string Gg, .slice Gm Gh.length Gn] 25 (0, 0)) (by (with_reducible repeat (first | refine bN' ?_ _ | refine bD' ?_ | refine bA' ?_ _)); exact Ga.out) hb)
            have n3_ := am' (bB' (g := Gd) (o := .cells #[.string (⟨#[]⟩ : ByteArray), .slice none 0 0] 25 (0, 0)) (by (with_reducible repeat (first | refine bN' ?_ _ | refine bD' ?_ | refine bA' ?_ _)); exact Ge.out) hb)
            have n4_ := am' (below_step (by repeat (first | (with_reducible first | exact HB.out | apply pA' | apply pN' | apply pD' | refine pS' ?_ Gp.out | refine pS' ?_ Gs.out) | exact HB.out)) hb)
            clear HO120
            clear Ga
            clear Ge
            clear HB
            have HO120 := n0_
            have HO124 := n1_
            have Ga := n2_
            have Ge := n3_
            have HB := n4_
            clear n0_ n1_ n2_ n3_ n4_
            (try clear hb)
            (try clear hb2)
            (try clear hk)
            (try clear hi)
            (try clear ho0)
            refine hK.out _ _ ⟨(bC' Ga.out 0).trans rfl, (bC' Ga.out 1).trans rfl⟩ (fun hHeld => ?_)
            clear hK K
            refine norm_ (a' := ?_) ?_ ?_
            rotate_left
            ·show Act.put _ (some 27) _ = _
             simp only [Act.put, sa', sz', ss', i64_w, i32_w]
             rfl
            exact norm_ (by first | (simp only [putAll, Act.put, sa', sz', ss']; done) | (simp only [putAll, Act.put, sa', sz', ss']; rfl)) (hJ2_5_7 (v119, v123, Gd) _ ⟨hHeld, (by (with_reducible repeat (first | apply rA' | apply rN' | apply rD')); exact rM' HO120.out (fun _ hk => hk.2)), (by (with_reducible repeat (first | apply rA' | apply rN' | apply rD')); exact rM' HO124.out (fun _ hk => hk.2)), (by (with_reducible repeat (first | refine bN' ?_ _ | refine bD' ?_ | refine bA' ?_ _)); exact Ga.out), (by (with_reducible repeat (first | refine bN' ?_ _ | refine bD' ?_ | refine bA' ?_ _)); exact Ge.out), GW126.out, Gs.out, Gw.out, Gz.out, (by repeat (first | (with_reducible first | exact HB.out | apply pA' | apply pN' | apply pD' | refine pS' ?_ Gp.out | refine pS' ?_ Gs.out) | exact HB.out))⟩)
           ·skip
            refine box_step ?hg (N := 5) ?hd (cs := #[.string (⟨#[]⟩ : ByteArray), .slice none 0 0]) (t := 25) ?hr ?_; (case hd => rfl); (case hg => rfl); (case hr => first | (go_simp; done) | (go_simp; rfl))
            intro Gc hg w26 hbox hb
            have n0_ := am' (rB' (by (with_reducible repeat (first | apply rA' | apply rN' | apply rD')); exact HO120.out) hb)
            have n1_ := am' (bB' (g := Gb) (o := .cells #[.string Gg, .slice Gm Gh.length Gn] 25 (0, 0)) (by (with_reducible repeat (first | refine bN' ?_ _ | refine bD' ?_ | refine bA' ?_ _)); exact Ga.out) hb)
            have n2_ := am' (bB' (g := Gd) (o := .cells #[.string (⟨#[]⟩ : ByteArray), .slice none 0 0] 25 (0, 0)) (by (with_reducible repeat (first | refine bN' ?_ _ | refine bD' ?_ | refine bA' ?_ _)); exact Ge.out) hb)
            have n3_ := am' (below_step (by repeat (first | (with_reducible first | exact HB.out | apply pA' | apply pN' | apply pD' | refine pS' ?_ Gp.out | refine pS' ?_ Gs.out) | exact HB.out)) hb)
            have n4_ := am' (hbox)
            have n5_ := am' ((by rw [hg]; exact (pz' (by repeat (first | (with_reducible first | exact HB.out | apply pA' | apply pN' | apply pD' | refine pS' ?_ Gp.out | refine pS' ?_ Gs.out) | exact HB.out))) : w.heap.size ≤ Gc))
            have n6_ := am' ((by rw [hg]; exact (pz' (by repeat (first | (with_reducible first | exact HB.out | apply pA' | apply pN' | apply pD' | refine pS' ?_ Gp.out | refine pS' ?_ Gs.out) | exact HB.out))) : w.heap.size ≤ Gc))
            have n7_ := am' ((by rw [hg]; exact Nat.ne_of_lt (bL' (g := Gb) (o := .cells #[.string Gg, .slice Gm Gh.length Gn] 25 (0, 0)) (by (with_reducible repeat (first | refine bN' ?_ _ | refine bD' ?_ | refine bA' ?_ _)); exact Ga.out)) : Gb ≠ Gc))
            have n8_ := am' ((by rw [hg]; exact Nat.ne_of_gt (bL' (g := Gb) (o := .cells #[.string Gg, .slice Gm Gh.length Gn] 25 (0, 0)) (by (with_reducible repeat (first | refine bN' ?_ _ | refine bD' ?_ | refine bA' ?_ _)); exact Ga.out)) : Gc ≠ Gb))
            have n9_ := am' ((by rw [hg]; exact Nat.ne_of_lt (bL' (g := Gd) (o := .cells #[.string (⟨#[]⟩ : ByteArray), .slice none 0 0] 25 (0, 0)) (by (with_reducible repeat (first | refine bN' ?_ _ | refine bD' ?_ | refine bA' ?_ _)); exact Ge.out)) : Gd ≠ Gc))
            have n10_ := am' ((by rw [hg]; exact Nat.ne_of_gt (bL' (g := Gd) (o := .cells #[.string (⟨#[]⟩ : ByteArray), .slice none 0 0] 25 (0, 0)) (by (with_reducible repeat (first | refine bN' ?_ _ | refine bD' ?_ | refine bA' ?_ _)); exact Ge.out)) : Gc ≠ Gd))
            clear HO120
            clear Ga
            clear Ge
            clear HB
            have HO120 := n0_
            have Ga := n1_
            have Ge := n2_
            have HB := n3_
            have Gf := n4_
            have GW125 := n5_
            have Gr := n6_
            have Gv := n7_
            have Kb := n8_
            have Ke := n9_
            have Kf := n10_
            clear n0_ n1_ n2_ n3_ n4_ n5_ n6_ n7_ n8_ n9_ n10_
            clear hb hbox hg
            refine hK.out _ _ ⟨(bC' Ga.out 0).trans rfl, (bC' Ga.out 1).trans rfl⟩ (fun hHeld => ?_)
            clear hK K
            refine norm_ (a' := ?_) ?_ ?_
            rotate_left
            ·show Act.put _ (some 5) _ = _
             simp only [Act.put, sa', sz', ss', i64_w, i32_w]
             rfl
            exact norm_ (by first | (simp only [putAll, Act.put, sa', sz', ss']; done) | (simp only [putAll, Act.put, sa', sz', ss']; rfl)) (hJ2_6_7 (v119, Gc, Gd) _ ⟨hHeld, (by (with_reducible repeat (first | apply rA' | apply rN' | apply rD')); exact HO120.out), (by (with_reducible repeat (first | refine bN' ?_ _ | refine bD' ?_ | refine bA' ?_ _)); exact Ga.out), (by (with_reducible repeat (first | refine bN' ?_ _ | refine bD' ?_ | refine bA' ?_ _)); exact Gf.out), (by (with_reducible repeat (first | refine bN' ?_ _ | refine bD' ?_ | refine bA' ?_ _)); exact Ge.out), GW125.out, Gr.out, Gv.out, Kb.out, Ke.out, Kf.out, GW126.out, Gs.out, Gw.out, Gz.out, (by repeat (first | (with_reducible first | exact HB.out | apply pA' | apply pN' | apply pD' | refine pS' ?_ Gp.out | refine pS' ?_ Gs.out | refine pS' ?_ Gr.out) | exact HB.out))⟩)
         ·skip
          rintro ⟨v119, Gc⟩ w25 ⟨hS_, h0_, h1_, h2_, h3_, h4_, h5_, h6_, h7_⟩
          have n0_ : Aside0 (Kd.R k32 32 w25 w.heap.size (fun _ => True) v119 Gi) := ⟨h0_⟩
          have n1_ : Aside0 (w25.heap[Gb]? = some (.cells #[.string Gg, .slice Gm Gh.length Gn] 25 (0, 0))) := ⟨h1_⟩
          have n2_ : Aside0 (w25.heap[Gc]? = some (.cells #[.string (⟨#[]⟩ : ByteArray), .slice none 0 0] 25 (0, 0))) := ⟨h2_⟩
          have n3_ : Aside0 (w.heap.size ≤ Gc) := ⟨h3_⟩
          have n4_ : Aside0 (w.heap.size ≤ Gc) := ⟨h4_⟩
          have n5_ : Aside0 (Gb ≠ Gc) := ⟨h5_⟩
          have n6_ : Aside0 (Gc ≠ Gb) := ⟨h6_⟩
          have n7_ : Aside0 (Below w.heap.size w w25) := ⟨h7_⟩
          clear Ga
          clear HB
          clear h0_ h1_ h2_ h3_ h4_ h5_ h6_ h7_
          have HO120 := n0_
          have Ga := n1_
          have Gf := n2_
          have GW125 := n3_
          have Gr := n4_
          have Gv := n5_
          have Kb := n6_
          have HB := n7_
          clear n0_ n1_ n2_ n3_ n4_ n5_ n6_ n7_
          have hHeld : w25.cell? ⟨Gb, 0, none⟩ = some (.string Gg) ∧ w25.cell? ⟨Gb, 1, none⟩ = some (.slice Gm Gh.length Gn) := hS_
          refine norm_ (a' := ?_) ?_ ?_
          rotate_left
          ·simp only [putAll, Act.put, sa', sz', ss']
           rfl
          refine two_ (i := 5) (j := 7) (Ni := some 27) (Nj := some 6) #[true, true, true, true, true, true, true, false, false, false] #[true, true, true, true, true, false, true, true, false, false] rfl rfl rfl rfl (two_of HT_.out (by kernel_rfl)) (by decide) (by decide) (fun K hK => ?_) (fun K hK => ?_)
          ·skip
           refine goes_ Try.func12 (by kernel_rfl) rfl #[.agg #[.string Gg, .slice Gm Gh.length Gn], .slice A1 l1.length c1] (by rfl) rfl rfl (by (try simp only [List.map_toArray, List.map_cons, List.map_nil]); first | done | rfl | (simp only [List.length_drop, List.length_take]; rfl)) ?_
           with_reducible refine (tag_Only.calls Gg _ _ Gh _ _ l1 Gu Gj _ ?side1 ?side2 ?side3 ?side4 A20.out).mono ?_
           (case side1 => repeat (first | exact (Kd.C_below Km.out HB.out) | (with_reducible refine Kd.C_alloc ?_ _) | (with_reducible refine Kd.C_drewN ?_ _) | (with_reducible refine Kd.C_drew ?_)))
           (case side2 => exact Kn.out)
           (case side3 => repeat (first | exact (Kd.C_below HR1.out HB.out) | (with_reducible refine Kd.C_alloc ?_ _) | (with_reducible refine Kd.C_drewN ?_ _) | (with_reducible refine Kd.C_drew ?_)))
           (case side4 => exact HC1.out)
           rintro e w26 ⟨v123, rfl, ho0, hb⟩
           refine ⟨_, rfl, ?_⟩
           have n0_ := am' (Kd.R_elder' (by (with_reducible repeat (first | apply rA' | apply rN' | apply rD')); exact HO120.out) (Kd.R_base ho0) hb)
           have n1_ := am' (Kd.R_lower (Kd.R_new' ho0 (Kd.R_lt (by (with_reducible repeat (first | apply rA' | apply rN' | apply rD')); exact HO120.out))) (pz' (by repeat (first | (with_reducible first | exact HB.out | apply pA' | apply pN' | apply pD' | refine pS' ?_ Gp.out | refine pS' ?_ Gr.out) | exact HB.out))))
           have n2_ := am' (bB' (g := Gb) (o := .cells #[.string Gg, .slice Gm Gh.length Gn] 25 (0, 0)) (by (with_reducible repeat (first | refine bN' ?_ _ | refine bD' ?_ | refine bA' ?_ _)); exact Ga.out) hb)
           have n3_ := am' (bB' (g := Gc) (o := .cells #[.string (⟨#[]⟩ : ByteArray), .slice none 0 0] 25 (0, 0)) (by (with_reducible repeat (first | refine bN' ?_ _ | refine bD' ?_ | refine bA' ?_ _)); exact Gf.out) hb)
           have n4_ := am' (below_step (by repeat (first | (with_reducible first | exact HB.out | apply pA' | apply pN' | apply pD' | refine pS' ?_ Gp.out | refine pS' ?_ Gr.out) | exact HB.out)) hb)
           clear HO120
           clear Ga
           clear Gf
           clear HB
           have HO120 := n0_
           have HO124 := n1_
           have Ga := n2_
           have Gf := n3_
           have HB := n4_
           clear n0_ n1_ n2_ n3_ n4_
           (try clear hb)
           (try clear hb2)
           (try clear hk)
           (try clear hi)
           (try clear ho0)
           refine hK.out _ _ ⟨(bC' Ga.out 0).trans rfl, (bC' Ga.out 1).trans rfl⟩ (fun hHeld => ?_)
           clear hK K
           refine norm_ (a' := ?_) ?_ ?_
           rotate_left
           ·show Act.put _ (some 27) _ = _
            simp only [Act.put, sa', sz', ss', i64_w, i32_w]
            rfl
           exact norm_ (by first | (simp only [putAll, Act.put, sa', sz', ss']; done) | (simp only [putAll, Act.put, sa', sz', ss']; rfl)) (hJ2_5_6 (v119, v123, Gc) _ ⟨hHeld, (by (with_reducible repeat (first | apply rA' | apply rN' | apply rD')); exact rM' HO120.out (fun _ hk => hk.2)), (by (with_reducible repeat (first | apply rA' | apply rN' | apply rD')); exact rM' HO124.out (fun _ hk => hk.2)), (by (with_reducible repeat (first | refine bN' ?_ _ | refine bD' ?_ | refine bA' ?_ _)); exact Ga.out), (by (with_reducible repeat (first | refine bN' ?_ _ | refine bD' ?_ | refine bA' ?_ _)); exact Gf.out), GW125.out, Gr.out, Gv.out, Kb.out, (by repeat (first | (with_reducible first | exact HB.out | apply pA' | apply pN' | apply pD' | refine pS' ?_ Gp.out | refine pS' ?_ Gr.out) | exact HB.out))⟩)
          ·skip
           refine box_step ?hg (N := 6) ?hd (cs := #[.string (⟨#[]⟩ : ByteArray), .slice none 0 0]) (t := 25) ?hr ?_; (case hd => rfl); (case hg => rfl); (case hr => first | (go_simp; done) | (go_simp; rfl))
           intro Gd hg w26 hbox hb
           have n0_ := am' (rB' (by (with_reducible repeat (first | apply rA' | apply rN' | apply rD')); exact HO120.out) hb)
           have n1_ := am' (bB' (g := Gb) (o := .cells #[.string Gg, .slice Gm Gh.length Gn] 25 (0, 0)) (by (with_reducible repeat (first | refine bN' ?_ _ | refine bD' ?_ | refine bA' ?_ _)); exact Ga.out) hb)
           have n2_ := am' (bB' (g := Gc) (o := .cells #[.string (⟨#[]⟩ : ByteArray), .slice none 0 0] 25 (0, 0)) (by (with_reducible repeat (first | refine bN' ?_ _ | refine bD' ?_ | refine bA' ?_ _)); exact Gf.out) hb)
           have n3_ := am' (below_step (by repeat (first | (with_reducible first | exact HB.out | apply pA' | apply pN' | apply pD' | refine pS' ?_ Gp.out | refine pS' ?_ Gr.out) | exact HB.out)) hb)
           have n4_ := am' (hbox)
           have n5_ := am' ((by rw [hg]; exact (pz' (by repeat (first | (with_reducible first | exact HB.out | apply pA' | apply pN' | apply pD' | refine pS' ?_ Gp.out | refine pS' ?_ Gr.out) | exact HB.out))) : w.heap.size ≤ Gd))
           have n6_ := am' ((by rw [hg]; exact (pz' (by repeat (first | (with_reducible first | exact HB.out | apply pA' | apply pN' | apply pD' | refine pS' ?_ Gp.out | refine pS' ?_ Gr.out) | exact HB.out))) : w.heap.size ≤ Gd))
           have n7_ := am' ((by rw [hg]; exact Nat.ne_of_lt (bL' (g := Gb) (o := .cells #[.string Gg, .slice Gm Gh.length Gn] 25 (0, 0)) (by (with_reducible repeat (first | refine bN' ?_ _ | refine bD' ?_ | refine bA' ?_ _)); exact Ga.out)) : Gb ≠ Gd))
           have n8_ := am' ((by rw [hg]; exact Nat.ne_of_gt (bL' (g := Gb) (o := .cells #[.string Gg, .slice Gm Gh.length Gn] 25 (0, 0)) (by (with_reducible repeat (first | refine bN' ?_ _ | refine bD' ?_ | refine bA' ?_ _)); exact Ga.out)) : Gd ≠ Gb))
           have n9_ := am' ((by rw [hg]; exact Nat.ne_of_lt (bL' (g := Gc) (o := .cells #[.string (⟨#[]⟩ : ByteArray), .slice none 0 0] 25 (0, 0)) (by (with_reducible repeat (first | refine bN' ?_ _ | refine bD' ?_ | refine bA' ?_ _)); exact Gf.out)) : Gc ≠ Gd))
           have n10_ := am' ((by rw [hg]; exact Nat.ne_of_gt (bL' (g := Gc) (o := .cells #[.string (⟨#[]⟩ : ByteArray), .slice none 0 0] 25 (0, 0)) (by (with_reducible repeat (first | refine bN' ?_ _ | refine bD' ?_ | refine bA' ?_ _)); exact Gf.out)) : Gd ≠ Gc))
           clear HO120
           clear Ga
           clear Gf
           clear HB
           have HO120 := n0_
           have Ga := n1_
           have Gf := n2_
           have HB := n3_
           have Ge := n4_
           have GW126 := n5_
           have Gs := n6_
           have Gw := n7_
           have Gz := n8_
           have Kf := n9_
           have Ke := n10_
           clear n0_ n1_ n2_ n3_ n4_ n5_ n6_ n7_ n8_ n9_ n10_
           clear hb hbox hg
           refine hK.out _ _ ⟨(bC' Ga.out 0).trans rfl, (bC' Ga.out 1).trans rfl⟩ (fun hHeld => ?_)
           clear hK K
           refine norm_ (a' := ?_) ?_ ?_
           rotate_left
           ·show Act.put _ (some 6) _ = _
            simp only [Act.put, sa', sz', ss', i64_w, i32_w]
            rfl
           exact norm_ (by first | (simp only [putAll, Act.put, sa', sz', ss']; done) | (simp only [putAll, Act.put, sa', sz', ss']; rfl)) (hJ2_6_7 (v119, Gc, Gd) _ ⟨hHeld, (by (with_reducible repeat (first | apply rA' | apply rN' | apply rD')); exact HO120.out), (by (with_reducible repeat (first | refine bN' ?_ _ | refine bD' ?_ | refine bA' ?_ _)); exact Ga.out), (by (with_reducible repeat (first | refine bN' ?_ _ | refine bD' ?_ | refine bA' ?_ _)); exact Gf.out), (by (with_reducible repeat (first | refine bN' ?_ _ | refine bD' ?_ | refine bA' ?_ _)); exact Ge.out), GW125.out, Gr.out, Gv.out, Kb.out, Ke.out, Kf.out, GW126.out, Gs.out, Gw.out, Gz.out, (by repeat (first | (with_reducible first | exact HB.out | apply pA' | apply pN' | apply pD' | refine pS' ?_ Gp.out | refine pS' ?_ Gr.out | refine pS' ?_ Gs.out) | exact HB.out))⟩)
        ·skip
         rintro ⟨v119, v123⟩ w25 ⟨hS_, h0_, h1_, h2_, h3_⟩
         have n0_ : Aside0 (Kd.R k32 32 w25 w.heap.size (fun k_ => some k_ ≠ (v123 : Value).ownBlock) v119 Gi) := ⟨h0_⟩
         have n1_ : Aside0 (Kd.R k32 32 w25 w.heap.size (fun k_ => some k_ ≠ (v119 : Value).ownBlock) v123 Gj) := ⟨h1_⟩
         have n2_ : Aside0 (w25.heap[Gb]? = some (.cells #[.string Gg, .slice Gm Gh.length Gn] 25 (0, 0))) := ⟨h2_⟩
         have n3_ : Aside0 (Below w.heap.size w w25) := ⟨h3_⟩
         clear Ga
         clear HB
         clear h0_ h1_ h2_ h3_
         have HO120 := n0_
         have HO124 := n1_
         have Ga := n2_
         have HB := n3_
         clear n0_ n1_ n2_ n3_
         have hHeld : w25.cell? ⟨Gb, 0, none⟩ = some (.string Gg) ∧ w25.cell? ⟨Gb, 1, none⟩ = some (.slice Gm Gh.length Gn) := hS_
         refine norm_ (a' := ?_) ?_ ?_
         rotate_left
         ·simp only [putAll, Act.put, sa', sz', ss']
          rfl
         refine two_ (i := 6) (j := 7) (Ni := some 5) (Nj := some 6) #[true, true, true, true, true, true, true, false, false, false] #[true, true, true, true, true, true, false, true, false, false] rfl rfl rfl rfl (two_of HT_.out (by kernel_rfl)) (by decide) (by decide) (fun K hK => ?_) (fun K hK => ?_)
         ·skip
          refine box_step ?hg (N := 5) ?hd (cs := #[.string (⟨#[]⟩ : ByteArray), .slice none 0 0]) (t := 25) ?hr ?_; (case hd => rfl); (case hg => rfl); (case hr => first | (go_simp; done) | (go_simp; rfl))
          intro Gc hg w26 hbox hb
          have n0_ := am' (rB' (by (with_reducible repeat (first | apply rA' | apply rN' | apply rD')); exact HO120.out) hb)
          have n1_ := am' (rB' (by (with_reducible repeat (first | apply rA' | apply rN' | apply rD')); exact HO124.out) hb)
          have n2_ := am' (bB' (g := Gb) (o := .cells #[.string Gg, .slice Gm Gh.length Gn] 25 (0, 0)) (by (with_reducible repeat (first | refine bN' ?_ _ | refine bD' ?_ | refine bA' ?_ _)); exact Ga.out) hb)
          have n3_ := am' (below_step (by repeat (first | (with_reducible first | exact HB.out | apply pA' | apply pN' | apply pD' | refine pS' ?_ Gp.out) | exact HB.out)) hb)
          have n4_ := am' (hbox)
          have n5_ := am' ((by rw [hg]; exact (pz' (by repeat (first | (with_reducible first | exact HB.out | apply pA' | apply pN' | apply pD' | refine pS' ?_ Gp.out) | exact HB.out))) : w.heap.size ≤ Gc))
          have n6_ := am' ((by rw [hg]; exact (pz' (by repeat (first | (with_reducible first | exact HB.out | apply pA' | apply pN' | apply pD' | refine pS' ?_ Gp.out) | exact HB.out))) : w.heap.size ≤ Gc))
          have n7_ := am' ((by rw [hg]; exact Nat.ne_of_lt (bL' (g := Gb) (o := .cells #[.string Gg, .slice Gm Gh.length Gn] 25 (0, 0)) (by (with_reducible repeat (first | refine bN' ?_ _ | refine bD' ?_ | refine bA' ?_ _)); exact Ga.out)) : Gb ≠ Gc))
          have n8_ := am' ((by rw [hg]; exact Nat.ne_of_gt (bL' (g := Gb) (o := .cells #[.string Gg, .slice Gm Gh.length Gn] 25 (0, 0)) (by (with_reducible repeat (first | refine bN' ?_ _ | refine bD' ?_ | refine bA' ?_ _)); exact Ga.out)) : Gc ≠ Gb))
          clear HO120
          clear HO124
          clear Ga
          clear HB
          have HO120 := n0_
          have HO124 := n1_
          have Ga := n2_
          have HB := n3_
          have Gf := n4_
          have GW125 := n5_
          have Gr := n6_
          have Gv := n7_
          have Kb := n8_
          clear n0_ n1_ n2_ n3_ n4_ n5_ n6_ n7_ n8_
          clear hb hbox hg
          refine hK.out _ _ ⟨(bC' Ga.out 0).trans rfl, (bC' Ga.out 1).trans rfl⟩ (fun hHeld => ?_)
          clear hK K
          refine norm_ (a' := ?_) ?_ ?_
          rotate_left
          ·show Act.put _ (some 5) _ = _
           simp only [Act.put, sa', sz', ss', i64_w, i32_w]
           rfl
          exact norm_ (by first | (simp only [putAll, Act.put, sa', sz', ss']; done) | (simp only [putAll, Act.put, sa', sz', ss']; rfl)) (hJ2_5_6 (v119, v123, Gc) _ ⟨hHeld, (by (with_reducible repeat (first | apply rA' | apply rN' | apply rD')); exact HO120.out), (by (with_reducible repeat (first | apply rA' | apply rN' | apply rD')); exact HO124.out), (by (with_reducible repeat (first | refine bN' ?_ _ | refine bD' ?_ | refine bA' ?_ _)); exact Ga.out), (by (with_reducible repeat (first | refine bN' ?_ _ | refine bD' ?_ | refine bA' ?_ _)); exact Gf.out), GW125.out, Gr.out, Gv.out, Kb.out, (by repeat (first | (with_reducible first | exact HB.out | apply pA' | apply pN' | apply pD' | refine pS' ?_ Gp.out | refine pS' ?_ Gr.out) | exact HB.out))⟩)
         ·skip
          refine box_step ?hg (N := 6) ?hd (cs := #[.string (⟨#[]⟩ : ByteArray), .slice none 0 0]) (t := 25) ?hr ?_; (case hd => rfl); (case hg => rfl); (case hr => first | (go_simp; done) | (go_simp; rfl))
          intro Gd hg w26 hbox hb
          have n0_ := am' (rB' (by (with_reducible repeat (first | apply rA' | apply rN' | apply rD')); exact HO120.out) hb)
          have n1_ := am' (rB' (by (with_reducible repeat (first | apply rA' | apply rN' | apply rD')); exact HO124.out) hb)
          have n2_ := am' (bB' (g := Gb) (o := .cells #[.string Gg, .slice Gm Gh.length Gn] 25 (0, 0)) (by (with_reducible repeat (first | refine bN' ?_ _ | refine bD' ?_ | refine bA' ?_ _)); exact Ga.out) hb)
          have n3_ := am' (below_step (by repeat (first | (with_reducible first | exact HB.out | apply pA' | apply pN' | apply pD' | refine pS' ?_ Gp.out) | exact HB.out)) hb)
          have n4_ := am' (hbox)
          have n5_ := am' ((by rw [hg]; exact (pz' (by repeat (first | (with_reducible first | exact HB.out | apply pA' | apply pN' | apply pD' | refine pS' ?_ Gp.out) | exact HB.out))) : w.heap.size ≤ Gd))
          have n6_ := am' ((by rw [hg]; exact (pz' (by repeat (first | (with_reducible first | exact HB.out | apply pA' | apply pN' | apply pD' | refine pS' ?_ Gp.out) | exact HB.out))) : w.heap.size ≤ Gd))
          have n7_ := am' ((by rw [hg]; exact Nat.ne_of_lt (bL' (g := Gb) (o := .cells #[.string Gg, .slice Gm Gh.length Gn] 25 (0, 0)) (by (with_reducible repeat (first | refine bN' ?_ _ | refine bD' ?_ | refine bA' ?_ _)); exact Ga.out)) : Gb ≠ Gd))
          have n8_ := am' ((by rw [hg]; exact Nat.ne_of_gt (bL' (g := Gb) (o := .cells #[.string Gg, .slice Gm Gh.length Gn] 25 (0, 0)) (by (with_reducible repeat (first | refine bN' ?_ _ | refine bD' ?_ | refine bA' ?_ _)); exact Ga.out)) : Gd ≠ Gb))
          clear HO120
          clear HO124
          clear Ga
          clear HB
          have HO120 := n0_
          have HO124 := n1_
          have Ga := n2_
          have HB := n3_
          have Ge := n4_
          have GW126 := n5_
          have Gs := n6_
          have Gw := n7_
          have Gz := n8_
          clear n0_ n1_ n2_ n3_ n4_ n5_ n6_ n7_ n8_
          clear hb hbox hg
          refine hK.out _ _ ⟨(bC' Ga.out 0).trans rfl, (bC' Ga.out 1).trans rfl⟩ (fun hHeld => ?_)
          clear hK K
          refine norm_ (a' := ?_) ?_ ?_
          rotate_left
          ·show Act.put _ (some 6) _ = _
           simp only [Act.put, sa', sz', ss', i64_w, i32_w]
           rfl
          exact norm_ (by first | (simp only [putAll, Act.put, sa', sz', ss']; done) | (simp only [putAll, Act.put, sa', sz', ss']; rfl)) (hJ2_5_7 (v119, v123, Gd) _ ⟨hHeld, (by (with_reducible repeat (first | apply rA' | apply rN' | apply rD')); exact HO120.out), (by (with_reducible repeat (first | apply rA' | apply rN' | apply rD')); exact HO124.out), (by (with_reducible repeat (first | refine bN' ?_ _ | refine bD' ?_ | refine bA' ?_ _)); exact Ga.out), (by (with_reducible repeat (first | refine bN' ?_ _ | refine bD' ?_ | refine bA' ?_ _)); exact Ge.out), GW126.out, Gs.out, Gw.out, Gz.out, (by repeat (first | (with_reducible first | exact HB.out | apply pA' | apply pN' | apply pD' | refine pS' ?_ Gp.out | refine pS' ?_ Gs.out) | exact HB.out))⟩)
       ·skip
        rintro ⟨v119, Gc, Gd⟩ w26 ⟨hS_, h0_, h1_, h2_, h3_, h4_, h5_, h6_, h7_, h8_, h9_, h10_, h11_, h12_, h13_, h14_⟩
        have n0_ : Aside0 (Kd.R k32 32 w26 w.heap.size (fun _ => True) v119 Gi) := ⟨h0_⟩
        have n1_ : Aside0 (w26.heap[Gb]? = some (.cells #[.string Gg, .slice Gm Gh.length Gn] 25 (0, 0))) := ⟨h1_⟩
        have n2_ : Aside0 (w26.heap[Gc]? = some (.cells #[.string (⟨#[]⟩ : ByteArray), .slice none 0 0] 25 (0, 0))) := ⟨h2_⟩
        have n3_ : Aside0 (w26.heap[Gd]? = some (.cells #[.string (⟨#[]⟩ : ByteArray), .slice none 0 0] 25 (0, 0))) := ⟨h3_⟩
        have n4_ : Aside0 (w.heap.size ≤ Gc) := ⟨h4_⟩
        have n5_ : Aside0 (w.heap.size ≤ Gc) := ⟨h5_⟩
        have n6_ : Aside0 (Gb ≠ Gc) := ⟨h6_⟩
        have n7_ : Aside0 (Gc ≠ Gb) := ⟨h7_⟩
        have n8_ : Aside0 (Gd ≠ Gc) := ⟨h8_⟩
        have n9_ : Aside0 (Gc ≠ Gd) := ⟨h9_⟩
        have n10_ : Aside0 (w.heap.size ≤ Gd) := ⟨h10_⟩
        have n11_ : Aside0 (w.heap.size ≤ Gd) := ⟨h11_⟩
        have n12_ : Aside0 (Gb ≠ Gd) := ⟨h12_⟩
        have n13_ : Aside0 (Gd ≠ Gb) := ⟨h13_⟩
        have n14_ : Aside0 (Below w.heap.size w w26) := ⟨h14_⟩
        clear Ga
        clear HB
        clear h0_ h1_ h2_ h3_ h4_ h5_ h6_ h7_ h8_ h9_ h10_ h11_ h12_ h13_ h14_
        have HO120 := n0_
        have Ga := n1_
        have Gf := n2_
        have Ge := n3_
        have GW125 := n4_
        have Gr := n5_
        have Gv := n6_
        have Kb := n7_
        have Ke := n8_
        have Kf := n9_
        have GW126 := n10_
        have Gs := n11_
        have Gw := n12_
        have Gz := n13_
        have HB := n14_
        clear n0_ n1_ n2_ n3_ n4_ n5_ n6_ n7_ n8_ n9_ n10_ n11_ n12_ n13_ n14_
        have hHeld : w26.cell? ⟨Gb, 0, none⟩ = some (.string Gg) ∧ w26.cell? ⟨Gb, 1, none⟩ = some (.slice Gm Gh.length Gn) := hS_
        refine norm_ (a' := ?_) ?_ ?_
        rotate_left
        ·simp only [putAll, Act.put, sa', sz', ss']
         rfl
        refine one_ (i := 5) (N := some 27) #[true, true, true, true, true, true, true, true, false, false] rfl rfl (one_of HT_.out (by kernel_rfl)) (by decide) (fun K hK => ?_)
        refine goes_ Try.func12 (by kernel_rfl) rfl #[.agg #[.string Gg, .slice Gm Gh.length Gn], .slice A1 l1.length c1] (by rfl) rfl rfl (by (try simp only [List.map_toArray, List.map_cons, List.map_nil]); first | done | rfl | (simp only [List.length_drop, List.length_take]; rfl)) ?_
        with_reducible refine (tag_Only.calls Gg _ _ Gh _ _ l1 Gu Gj _ ?side1 ?side2 ?side3 ?side4 A20.out).mono ?_
        (case side1 => repeat (first | exact (Kd.C_below Km.out HB.out) | (with_reducible refine Kd.C_alloc ?_ _) | (with_reducible refine Kd.C_drewN ?_ _) | (with_reducible refine Kd.C_drew ?_)))
        (case side2 => exact Kn.out)
        (case side3 => repeat (first | exact (Kd.C_below HR1.out HB.out) | (with_reducible refine Kd.C_alloc ?_ _) | (with_reducible refine Kd.C_drewN ?_ _) | (with_reducible refine Kd.C_drew ?_)))
        (case side4 => exact HC1.out)
        rintro e w27 ⟨v123, rfl, ho0, hb⟩
        refine ⟨_, rfl, ?_⟩
        have n0_ := am' (Kd.R_elder' (by (with_reducible repeat (first | apply rA' | apply rN' | apply rD')); exact HO120.out) (Kd.R_base ho0) hb)
        have n1_ := am' (Kd.R_lower (Kd.R_new' ho0 (Kd.R_lt (by (with_reducible repeat (first | apply rA' | apply rN' | apply rD')); exact HO120.out))) (pz' (by repeat (first | (with_reducible first | exact HB.out | apply pA' | apply pN' | apply pD' | refine pS' ?_ Gp.out | refine pS' ?_ Gr.out | refine pS' ?_ Gs.out) | exact HB.out))))
        have n2_ := am' (bB' (g := Gb) (o := .cells #[.string Gg, .slice Gm Gh.length Gn] 25 (0, 0)) (by (with_reducible repeat (first | refine bN' ?_ _ | refine bD' ?_ | refine bA' ?_ _)); exact Ga.out) hb)
        have n3_ := am' (bB' (g := Gc) (o := .cells #[.string (⟨#[]⟩ : ByteArray), .slice none 0 0] 25 (0, 0)) (by (with_reducible repeat (first | refine bN' ?_ _ | refine bD' ?_ | refine bA' ?_ _)); exact Gf.out) hb)
        have n4_ := am' (bB' (g := Gd) (o := .cells #[.string (⟨#[]⟩ : ByteArray), .slice none 0 0] 25 (0, 0)) (by (with_reducible repeat (first | refine bN' ?_ _ | refine bD' ?_ | refine bA' ?_ _)); exact Ge.out) hb)
        have n5_ := am' (below_step (by repeat (first | (with_reducible first | exact HB.out | apply pA' | apply pN' | apply pD' | refine pS' ?_ Gp.out | refine pS' ?_ Gr.out | refine pS' ?_ Gs.out) | exact HB.out)) hb)
        clear HO120
        clear Ga
        clear Gf
        clear Ge
        clear HB
        have HO120 := n0_
        have HO124 := n1_
        have Ga := n2_
        have Gf := n3_
        have Ge := n4_
        have HB := n5_
        clear n0_ n1_ n2_ n3_ n4_ n5_
        (try clear hb)
        (try clear hb2)
        (try clear hk)
        (try clear hi)
        (try clear ho0)
        refine hK.out _ _ ⟨(bC' Ga.out 0).trans rfl, (bC' Ga.out 1).trans rfl⟩ (fun hHeld => ?_)
        clear hK K
        refine norm_ (a' := ?_) ?_ ?_
        rotate_left
        ·show Act.put _ (some 27) _ = _
         simp only [Act.put, sa', sz', ss', i64_w, i32_w]
         rfl
        exact norm_ (by first | (simp only [putAll, Act.put, sa', sz', ss']; done) | (simp only [putAll, Act.put, sa', sz', ss']; rfl)) (hJ2_5_6_7 (v119, v123, Gc, Gd) _ ⟨hHeld, (by (with_reducible repeat (first | apply rA' | apply rN' | apply rD')); exact rM' HO120.out (fun _ hk => hk.2)), (by (with_reducible repeat (first | apply rA' | apply rN' | apply rD')); exact rM' HO124.out (fun _ hk => hk.2)), (by (with_reducible repeat (first | refine bN' ?_ _ | refine bD' ?_ | refine bA' ?_ _)); exact Ga.out), (by (with_reducible repeat (first | refine bN' ?_ _ | refine bD' ?_ | refine bA' ?_ _)); exact Gf.out), (by (with_reducible repeat (first | refine bN' ?_ _ | refine bD' ?_ | refine bA' ?_ _)); exact Ge.out), GW125.out, Gr.out, Gv.out, Kb.out, Ke.out, Kf.out, GW126.out, Gs.out, Gw.out, Gz.out, (by repeat (first | (with_reducible first | exact HB.out | apply pA' | apply pN' | apply pD' | refine pS' ?_ Gp.out | refine pS' ?_ Gr.out | refine pS' ?_ Gs.out) | exact HB.out))⟩)
      ·skip
       rintro ⟨v119, v123, Gd⟩ w26 ⟨hS_, h0_, h1_, h2_, h3_, h4_, h5_, h6_, h7_, h8_⟩
       have n0_ : Aside0 (Kd.R k32 32 w26 w.heap.size (fun k_ => some k_ ≠ (v123 : Value).ownBlock) v119 Gi) := ⟨h0_⟩
       have n1_ : Aside0 (Kd.R k32 32 w26 w.heap.size (fun k_ => some k_ ≠ (v119 : Value).ownBlock) v123 Gj) := ⟨h1_⟩
       have n2_ : Aside0 (w26.heap[Gb]? = some (.cells #[.string Gg, .slice Gm Gh.length Gn] 25 (0, 0))) := ⟨h2_⟩
       have n3_ : Aside0 (w26.heap[Gd]? = some (.cells #[.string (⟨#[]⟩ : ByteArray), .slice none 0 0] 25 (0, 0))) := ⟨h3_⟩
       have n4_ : Aside0 (w.heap.size ≤ Gd) := ⟨h4_⟩
       have n5_ : Aside0 (w.heap.size ≤ Gd) := ⟨h5_⟩
       have n6_ : Aside0 (Gb ≠ Gd) := ⟨h6_⟩
       have n7_ : Aside0 (Gd ≠ Gb) := ⟨h7_⟩
       have n8_ : Aside0 (Below w.heap.size w w26) := ⟨h8_⟩
       clear Ga
       clear HB
       clear h0_ h1_ h2_ h3_ h4_ h5_ h6_ h7_ h8_
       have HO120 := n0_
       have HO124 := n1_
       have Ga := n2_
       have Ge := n3_
       have GW126 := n4_
       have Gs := n5_
       have Gw := n6_
       have Gz := n7_
       have HB := n8_
       clear n0_ n1_ n2_ n3_ n4_ n5_ n6_ n7_ n8_
       have hHeld : w26.cell? ⟨Gb, 0, none⟩ = some (.string Gg) ∧ w26.cell? ⟨Gb, 1, none⟩ = some (.slice Gm Gh.length Gn) := hS_
       refine norm_ (a' := ?_) ?_ ?_
       rotate_left
       ·simp only [putAll, Act.put, sa', sz', ss']
        rfl
       refine one_ (i := 6) (N := some 5) #[true, true, true, true, true, true, true, true, false, false] rfl rfl (one_of HT_.out (by kernel_rfl)) (by decide) (fun K hK => ?_)
       refine box_step ?hg (N := 5) ?hd (cs := #[.string (⟨#[]⟩ : ByteArray), .slice none 0 0]) (t := 25) ?hr ?_; (case hd => rfl); (case hg => rfl); (case hr => first | (go_simp; done) | (go_simp; rfl))
       intro Gc hg w27 hbox hb
       have n0_ := am' (rB' (by (with_reducible repeat (first | apply rA' | apply rN' | apply rD')); exact HO120.out) hb)
       have n1_ := am' (rB' (by (with_reducible repeat (first | apply rA' | apply rN' | apply rD')); exact HO124.out) hb)
       have n2_ := am' (bB' (g := Gb) (o := .cells #[.string Gg, .slice Gm Gh.length Gn] 25 (0, 0)) (by (with_reducible repeat (first | refine bN' ?_ _ | refine bD' ?_ | refine bA' ?_ _)); exact Ga.out) hb)
       have n3_ := am' (bB' (g := Gd) (o := .cells #[.string (⟨#[]⟩ : ByteArray), .slice none 0 0] 25 (0, 0)) (by (with_reducible repeat (first | refine bN' ?_ _ | refine bD' ?_ | refine bA' ?_ _)); exact Ge.out) hb)
       have n4_ := am' (below_step (by repeat (first | (with_reducible first | exact HB.out | apply pA' | apply pN' | apply pD' | refine pS' ?_ Gp.out | refine pS' ?_ Gs.out) | exact HB.out)) hb)
       have n5_ := am' (hbox)
       have n6_ := am' ((by rw [hg]; exact (pz' (by repeat (first | (with_reducible first | exact HB.out | apply pA' | apply pN' | apply pD' | refine pS' ?_ Gp.out | refine pS' ?_ Gs.out) | exact HB.out))) : w.heap.size ≤ Gc))
       have n7_ := am' ((by rw [hg]; exact (pz' (by repeat (first | (with_reducible first | exact HB.out | apply pA' | apply pN' | apply pD' | refine pS' ?_ Gp.out | refine pS' ?_ Gs.out) | exact HB.out))) : w.heap.size ≤ Gc))
       have n8_ := am' ((by rw [hg]; exact Nat.ne_of_lt (bL' (g := Gb) (o := .cells #[.string Gg, .slice Gm Gh.length Gn] 25 (0, 0)) (by (with_reducible repeat (first | refine bN' ?_ _ | refine bD' ?_ | refine bA' ?_ _)); exact Ga.out)) : Gb ≠ Gc))
       have n9_ := am' ((by rw [hg]; exact Nat.ne_of_gt (bL' (g := Gb) (o := .cells #[.string Gg, .slice Gm Gh.length Gn] 25 (0, 0)) (by (with_reducible repeat (first | refine bN' ?_ _ | refine bD' ?_ | refine bA' ?_ _)); exact Ga.out)) : Gc ≠ Gb))
       have n10_ := am' ((by rw [hg]; exact Nat.ne_of_lt (bL' (g := Gd) (o := .cells #[.string (⟨#[]⟩ : ByteArray), .slice none 0 0] 25 (0, 0)) (by (with_reducible repeat (first | refine bN' ?_ _ | refine bD' ?_ | refine bA' ?_ _)); exact Ge.out)) : Gd ≠ Gc))
       have n11_ := am' ((by rw [hg]; exact Nat.ne_of_gt (bL' (g := Gd) (o := .cells #[.string (⟨#[]⟩ : ByteArray), .slice none 0 0] 25 (0, 0)) (by (with_reducible repeat (first | refine bN' ?_ _ | refine bD' ?_ | refine bA' ?_ _)); exact Ge.out)) : Gc ≠ Gd))
       clear HO120
       clear HO124
       clear Ga
       clear Ge
       clear HB
       have HO120 := n0_
       have HO124 := n1_
       have Ga := n2_
       have Ge := n3_
       have HB := n4_
       have Gf := n5_
       have GW125 := n6_
       have Gr := n7_
       have Gv := n8_
       have Kb := n9_
       have Ke := n10_
       have Kf := n11_
       clear n0_ n1_ n2_ n3_ n4_ n5_ n6_ n7_ n8_ n9_ n10_ n11_
       clear hb hbox hg
       refine hK.out _ _ ⟨(bC' Ga.out 0).trans rfl, (bC' Ga.out 1).trans rfl⟩ (fun hHeld => ?_)
       clear hK K
       refine norm_ (a' := ?_) ?_ ?_
       rotate_left
       ·show Act.put _ (some 5) _ = _
        simp only [Act.put, sa', sz', ss', i64_w, i32_w]
        rfl
       exact norm_ (by first | (simp only [putAll, Act.put, sa', sz', ss']; done) | (simp only [putAll, Act.put, sa', sz', ss']; rfl)) (hJ2_5_6_7 (v119, v123, Gc, Gd) _ ⟨hHeld, (by (with_reducible repeat (first | apply rA' | apply rN' | apply rD')); exact HO120.out), (by (with_reducible repeat (first | apply rA' | apply rN' | apply rD')); exact HO124.out), (by (with_reducible repeat (first | refine bN' ?_ _ | refine bD' ?_ | refine bA' ?_ _)); exact Ga.out), (by (with_reducible repeat (first | refine bN' ?_ _ | refine bD' ?_ | refine bA' ?_ _)); exact Gf.out), (by (with_reducible repeat (first | refine bN' ?_ _ | refine bD' ?_ | refine bA' ?_ _)); exact Ge.out), GW125.out, Gr.out, Gv.out, Kb.out, Ke.out, Kf.out, GW126.out, Gs.out, Gw.out, Gz.out, (by repeat (first | (with_reducible first | exact HB.out | apply pA' | apply pN' | apply pD' | refine pS' ?_ Gp.out | refine pS' ?_ Gs.out | refine pS' ?_ Gr.out) | exact HB.out))⟩)
     ·skip
      rintro ⟨v119, v123, Gc⟩ w26 ⟨hS_, h0_, h1_, h2_, h3_, h4_, h5_, h6_, h7_, h8_⟩
      have n0_ : Aside0 (Kd.R k32 32 w26 w.heap.size (fun k_ => some k_ ≠ (v123 : Value).ownBlock) v119 Gi) := ⟨h0_⟩
      have n1_ : Aside0 (Kd.R k32 32 w26 w.heap.size (fun k_ => some k_ ≠ (v119 : Value).ownBlock) v123 Gj) := ⟨h1_⟩
      have n2_ : Aside0 (w26.heap[Gb]? = some (.cells #[.string Gg, .slice Gm Gh.length Gn] 25 (0, 0))) := ⟨h2_⟩
      have n3_ : Aside0 (w26.heap[Gc]? = some (.cells #[.string (⟨#[]⟩ : ByteArray), .slice none 0 0] 25 (0, 0))) := ⟨h3_⟩
      have n4_ : Aside0 (w.heap.size ≤ Gc) := ⟨h4_⟩
      have n5_ : Aside0 (w.heap.size ≤ Gc) := ⟨h5_⟩
      have n6_ : Aside0 (Gb ≠ Gc) := ⟨h6_⟩
      have n7_ : Aside0 (Gc ≠ Gb) := ⟨h7_⟩
      have n8_ : Aside0 (Below w.heap.size w w26) := ⟨h8_⟩
      clear Ga
      clear HB
      clear h0_ h1_ h2_ h3_ h4_ h5_ h6_ h7_ h8_
      have HO120 := n0_
      have HO124 := n1_
      have Ga := n2_
      have Gf := n3_
      have GW125 := n4_
      have Gr := n5_
      have Gv := n6_
      have Kb := n7_
      have HB := n8_
      clear n0_ n1_ n2_ n3_ n4_ n5_ n6_ n7_ n8_
      have hHeld : w26.cell? ⟨Gb, 0, none⟩ = some (.string Gg) ∧ w26.cell? ⟨Gb, 1, none⟩ = some (.slice Gm Gh.length Gn) := hS_
      refine norm_ (a' := ?_) ?_ ?_
      rotate_left
      ·simp only [putAll, Act.put, sa', sz', ss']
       rfl
      refine one_ (i := 7) (N := some 6) #[true, true, true, true, true, true, true, true, false, false] rfl rfl (one_of HT_.out (by kernel_rfl)) (by decide) (fun K hK => ?_)
      refine box_step ?hg (N := 6) ?hd (cs := #[.string (⟨#[]⟩ : ByteArray), .slice none 0 0]) (t := 25) ?hr ?_; (case hd => rfl); (case hg => rfl); (case hr => first | (go_simp; done) | (go_simp; rfl))
      intro Gd hg w27 hbox hb
      have n0_ := am' (rB' (by (with_reducible repeat (first | apply rA' | apply rN' | apply rD')); exact HO120.out) hb)
      have n1_ := am' (rB' (by (with_reducible repeat (first | apply rA' | apply rN' | apply rD')); exact HO124.out) hb)
      have n2_ := am' (bB' (g := Gb) (o := .cells #[.string Gg, .slice Gm Gh.length Gn] 25 (0, 0)) (by (with_reducible repeat (first | refine bN' ?_ _ | refine bD' ?_ | refine bA' ?_ _)); exact Ga.out) hb)
      have n3_ := am' (bB' (g := Gc) (o := .cells #[.string (⟨#[]⟩ : ByteArray), .slice none 0 0] 25 (0, 0)) (by (with_reducible repeat (first | refine bN' ?_ _ | refine bD' ?_ | refine bA' ?_ _)); exact Gf.out) hb)
      have n4_ := am' (below_step (by repeat (first | (with_reducible first | exact HB.out | apply pA' | apply pN' | apply pD' | refine pS' ?_ Gp.out | refine pS' ?_ Gr.out) | exact HB.out)) hb)
      have n5_ := am' (hbox)
      have n6_ := am' ((by rw [hg]; exact (pz' (by repeat (first | (with_reducible first | exact HB.out | apply pA' | apply pN' | apply pD' | refine pS' ?_ Gp.out | refine pS' ?_ Gr.out) | exact HB.out))) : w.heap.size ≤ Gd))
      have n7_ := am' ((by rw [hg]; exact (pz' (by repeat (first | (with_reducible first | exact HB.out | apply pA' | apply pN' | apply pD' | refine pS' ?_ Gp.out | refine pS' ?_ Gr.out) | exact HB.out))) : w.heap.size ≤ Gd))
      have n8_ := am' ((by rw [hg]; exact Nat.ne_of_lt (bL' (g := Gb) (o := .cells #[.string Gg, .slice Gm Gh.length Gn] 25 (0, 0)) (by (with_reducible repeat (first | refine bN' ?_ _ | refine bD' ?_ | refine bA' ?_ _)); exact Ga.out)) : Gb ≠ Gd))
      have n9_ := am' ((by rw [hg]; exact Nat.ne_of_gt (bL' (g := Gb) (o := .cells #[.string Gg, .slice Gm Gh.length Gn] 25 (0, 0)) (by (with_reducible repeat (first | refine bN' ?_ _ | refine bD' ?_ | refine bA' ?_ _)); exact Ga.out)) : Gd ≠ Gb))
      have n10_ := am' ((by rw [hg]; exact Nat.ne_of_lt (bL' (g := Gc) (o := .cells #[.string (⟨#[]⟩ : ByteArray), .slice none 0 0] 25 (0, 0)) (by (with_reducible repeat (first | refine bN' ?_ _ | refine bD' ?_ | refine bA' ?_ _)); exact Gf.out)) : Gc ≠ Gd))
      have n11_ := am' ((by rw [hg]; exact Nat.ne_of_gt (bL' (g := Gc) (o := .cells #[.string (⟨#[]⟩ : ByteArray), .slice none 0 0] 25 (0, 0)) (by (with_reducible repeat (first | refine bN' ?_ _ | refine bD' ?_ | refine bA' ?_ _)); exact Gf.out)) : Gd ≠ Gc))
      clear HO120
      clear HO124
      clear Ga
      clear Gf
      clear HB
      have HO120 := n0_
      have HO124 := n1_
      have Ga := n2_
      have Gf := n3_
      have HB := n4_
      have Ge := n5_
      have GW126 := n6_
      have Gs := n7_
      have Gw := n8_
      have Gz := n9_
      have Kf := n10_
      have Ke := n11_
      clear n0_ n1_ n2_ n3_ n4_ n5_ n6_ n7_ n8_ n9_ n10_ n11_
      clear hb hbox hg
      refine hK.out _ _ ⟨(bC' Ga.out 0).trans rfl, (bC' Ga.out 1).trans rfl⟩ (fun hHeld => ?_)
      clear hK K
      refine norm_ (a' := ?_) ?_ ?_
      rotate_left
      ·show Act.put _ (some 6) _ = _
       simp only [Act.put, sa', sz', ss', i64_w, i32_w]
       rfl
      exact norm_ (by first | (simp only [putAll, Act.put, sa', sz', ss']; done) | (simp only [putAll, Act.put, sa', sz', ss']; rfl)) (hJ2_5_6_7 (v119, v123, Gc, Gd) _ ⟨hHeld, (by (with_reducible repeat (first | apply rA' | apply rN' | apply rD')); exact HO120.out), (by (with_reducible repeat (first | apply rA' | apply rN' | apply rD')); exact HO124.out), (by (with_reducible repeat (first | refine bN' ?_ _ | refine bD' ?_ | refine bA' ?_ _)); exact Ga.out), (by (with_reducible repeat (first | refine bN' ?_ _ | refine bD' ?_ | refine bA' ?_ _)); exact Gf.out), (by (with_reducible repeat (first | refine bN' ?_ _ | refine bD' ?_ | refine bA' ?_ _)); exact Ge.out), GW125.out, Gr.out, Gv.out, Kb.out, Ke.out, Kf.out, GW126.out, Gs.out, Gw.out, Gz.out, (by repeat (first | (with_reducible first | exact HB.out | apply pA' | apply pN' | apply pD' | refine pS' ?_ Gp.out | refine pS' ?_ Gr.out | refine pS' ?_ Gs.out) | exact HB.out))⟩)
    rintro ⟨v119, v123, Gc, Gd⟩ w27 ⟨hS_, h0_, h1_, h2_, h3_, h4_, h5_, h6_, h7_, h8_, h9_, h10_, h11_, h12_, h13_, h14_, h15_⟩
    have n0_ : Aside0 (Kd.R k32 32 w27 w.heap.size (fun k_ => some k_ ≠ (v123 : Value).ownBlock) v119 Gi) := ⟨h0_⟩
    have n1_ : Aside0 (Kd.R k32 32 w27 w.heap.size (fun k_ => some k_ ≠ (v119 : Value).ownBlock) v123 Gj) := ⟨h1_⟩
    have n2_ : Aside0 (w27.heap[Gb]? = some (.cells #[.string Gg, .slice Gm Gh.length Gn] 25 (0, 0))) := ⟨h2_⟩
    have n3_ : Aside0 (w27.heap[Gc]? = some (.cells #[.string (⟨#[]⟩ : ByteArray), .slice none 0 0] 25 (0, 0))) := ⟨h3_⟩
    have n4_ : Aside0 (w27.heap[Gd]? = some (.cells #[.string (⟨#[]⟩ : ByteArray), .slice none 0 0] 25 (0, 0))) := ⟨h4_⟩
    have n5_ : Aside0 (w.heap.size ≤ Gc) := ⟨h5_⟩
    have n6_ : Aside0 (w.heap.size ≤ Gc) := ⟨h6_⟩
    have n7_ : Aside0 (Gb ≠ Gc) := ⟨h7_⟩
    have n8_ : Aside0 (Gc ≠ Gb) := ⟨h8_⟩
    have n9_ : Aside0 (Gd ≠ Gc) := ⟨h9_⟩
    have n10_ : Aside0 (Gc ≠ Gd) := ⟨h10_⟩
    have n11_ : Aside0 (w.heap.size ≤ Gd) := ⟨h11_⟩
    have n12_ : Aside0 (w.heap.size ≤ Gd) := ⟨h12_⟩
    have n13_ : Aside0 (Gb ≠ Gd) := ⟨h13_⟩
    have n14_ : Aside0 (Gd ≠ Gb) := ⟨h14_⟩
    have n15_ : Aside0 (Below w.heap.size w w27) := ⟨h15_⟩
    clear Ga
    clear HB
    clear h0_ h1_ h2_ h3_ h4_ h5_ h6_ h7_ h8_ h9_ h10_ h11_ h12_ h13_ h14_ h15_
    have HO120 := n0_
    have HO124 := n1_
    have Ga := n2_
    have Gf := n3_
    have Ge := n4_
    have GW125 := n5_
    have Gr := n6_
    have Gv := n7_
    have Kb := n8_
    have Ke := n9_
    have Kf := n10_
    have GW126 := n11_
    have Gs := n12_
    have Gw := n13_
    have Gz := n14_
    have HB := n15_
    clear n0_ n1_ n2_ n3_ n4_ n5_ n6_ n7_ n8_ n9_ n10_ n11_ n12_ n13_ n14_ n15_
    have hHeld : w27.cell? ⟨Gb, 0, none⟩ = some (.string Gg) ∧ w27.cell? ⟨Gb, 1, none⟩ = some (.slice Gm Gh.length Gn) := hS_
    obtain ⟨Ao29, co29, eo29⟩ := Kd.R_slice HO120.out
    (first | subst eo29 | (injection eo29 with f1_ f2_ f3_; have f4_ := f1_.symm; have f5_ := f3_.symm; clear f1_ f2_ f3_; subst f4_; subst f5_))
    obtain ⟨Ao32, co32, eo32⟩ := Kd.R_slice HO124.out
    (first | subst eo32 | (injection eo32 with f1_ f2_ f3_; have f4_ := f1_.symm; have f5_ := f3_.symm; clear f1_ f2_ f3_; subst f4_; subst f5_))
    refine norm_ (a' := ?_) ?_ ?_
    rotate_left
    ·simp only [putAll, Act.put, sa', sz', ss']
     rfl
    refine one_ (i := 8) (N := none) #[true, true, true, true, true, true, true, true, true, false] rfl rfl (one_of HT_.out (by kernel_rfl)) (by decide) (fun K hK => ?_)
    have hs28 : w27.cell? ⟨Gc, 0, none⟩ = some (.string (⟨#[]⟩ : ByteArray)) := (bC' Gf.out 0).trans rfl
    have hfs28 := blk_frozen Gf.out 0
    have hns28_0 := Gv.out
    have hns28_2 := Ke.out
    have hms28_0 := Kb.out
    have hms28_2 := Kf.out
    have hs30 : w27.cell? ⟨Gc, 1, none⟩ = some (.slice none 0 0) := (bC' Gf.out 1).trans rfl
    have hfs30 := blk_frozen Gf.out 1
    have hns30_0 := Gv.out
    have hns30_2 := Ke.out
    have hms30_0 := Kb.out
    have hms30_2 := Kf.out
    refine skip_ (w1 := ?_) (by rfl) rfl ?_ ?_
    rotate_left
    ·go_simp
     rfl
    refine hK.out _ _ ⟨((cell_far (p := ⟨Gc, _, none⟩) Gv.out _).trans (((cell_far (p := ⟨Gc, _, none⟩) Gv.out _).trans (hHeld.1)))), ((cell_far (p := ⟨Gc, _, none⟩) Gv.out _).trans (((cell_far (p := ⟨Gc, _, none⟩) Gv.out _).trans (hHeld.2))))⟩ (fun hHeld => ?_)
    clear hK K
    refine one_ (i := 9) (N := none) #[true, true, true, true, true, true, true, true, true, true] rfl rfl (one_of HT_.out (by kernel_rfl)) (by decide) (fun K hK => ?_)
    have hs31 : w27.cell? ⟨Gd, 0, none⟩ = some (.string (⟨#[]⟩ : ByteArray)) := (bC' Ge.out 0).trans rfl
    have hfs31 := blk_frozen Ge.out 0
    have hns31_0 := Gw.out
    have hns31_1 := Kf.out
    have hms31_0 := Gz.out
    have hms31_1 := Ke.out
    have hs33 : w27.cell? ⟨Gd, 1, none⟩ = some (.slice none 0 0) := (bC' Ge.out 1).trans rfl
    have hfs33 := blk_frozen Ge.out 1
    have hns33_0 := Gw.out
    have hns33_1 := Kf.out
    have hms33_0 := Gz.out
    have hms33_1 := Ke.out
    refine skip_ (w1 := ?_) (by rfl) rfl ?_ ?_
    rotate_left
    ·go_simp
     rfl
    refine hK.out _ _ ⟨((cell_far (p := ⟨Gd, _, none⟩) Gw.out _).trans (((cell_far (p := ⟨Gd, _, none⟩) Gw.out _).trans (hHeld.1)))), ((cell_far (p := ⟨Gd, _, none⟩) Gw.out _).trans (((cell_far (p := ⟨Gd, _, none⟩) Gw.out _).trans (hHeld.2))))⟩ (fun hHeld => ?_)
    clear hK K
    refine done_ (done_of HT_.out (by kernel_rfl)) ?_
    go_upto_region 4 with (fail)
    go_cut [41] (fun v41 wc => ∃ (kq : Nat) (x41_20 : Bool), v41 = .bool x41_20 ∧ Aside0 (tidemilllaw02_TagSifts.j1 kq x41_20 Gg Gh Gt Gi Gu Gj = some r) ∧ Aside0 (kq ≤ kj2) ∧ Aside0 (Kd.R k32 32 wc w.heap.size (fun k_ => some k_ ≠ ((.slice Ao32 Gj.length co32) : Value).ownBlock) (.slice Ao29 Gi.length co29) Gi) ∧ Aside0 (Kd.R k32 32 wc w.heap.size (fun k_ => some k_ ≠ ((.slice Ao29 Gi.length co29) : Value).ownBlock) (.slice Ao32 Gj.length co32) Gj) ∧ Aside0 (wc.heap[Gb]? = some (.cells #[.string Gg, (.slice Gm Gh.length Gn)] 25 (0, 0))) ∧ Aside0 (wc.heap[Gc]? = some (.cells #[.string Gt, (.slice Ao29 Gi.length co29)] 25 (0, 0))) ∧ Aside0 (wc.heap[Gd]? = some (.cells #[.string Gu, (.slice Ao32 Gj.length co32)] 25 (0, 0))) ∧ Aside0 (Below w.heap.size w wc))
    case first =>
     have H := HC21.out
     clear HC21
     replace H := Option.bind_eq_some_iff.mp H
     obtain ⟨⟨Ku, Kx⟩, A340, H⟩ := H
     replace H : ((tidemillref02_Same.f kj2 Gt Gi Ku Kx).bind fun Kr => (if Kr = true then ((tidemillref02_Sifted.f kj2 Gg Gh l1 true).bind fun bt132 => ((tidemillref02_Same.f kj2 Gu Gj bt132.1 bt132.2).bind fun Kl => (tidemilllaw02_TagSifts.j1 kj2 (!Kl) Gg Gh Gt Gi Gu Gj))) else (tidemilllaw02_TagSifts.j1 kj2 true Gg Gh Gt Gi Gu Gj))) = some r := H
     have A34 := am' A340
     clear A340
     replace H := Option.bind_eq_some_iff.mp H
     obtain ⟨Kr, A350, H⟩ := H
     replace H : (if Kr = true then ((tidemillref02_Sifted.f kj2 Gg Gh l1 true).bind fun bt132 => ((tidemillref02_Same.f kj2 Gu Gj bt132.1 bt132.2).bind fun Kl => (tidemilllaw02_TagSifts.j1 kj2 (!Kl) Gg Gh Gt Gi Gu Gj))) else (tidemilllaw02_TagSifts.j1 kj2 true Gg Gh Gt Gi Gu Gj)) = some r := H
     have A35 := am' A350
     clear A350
     by_cases c36 : Kr = true
     ·subst c36
      have H1 : ((tidemillref02_Sifted.f kj2 Gg Gh l1 true).bind fun bt132 => ((tidemillref02_Same.f kj2 Gu Gj bt132.1 bt132.2).bind fun Kl => (tidemilllaw02_TagSifts.j1 kj2 (!Kl) Gg Gh Gt Gi Gu Gj))) = some r := by rw [if_pos rfl] at H; exact H
      clear H
      have H := H1
      clear H1
      replace H := Option.bind_eq_some_iff.mp H
      obtain ⟨⟨Kv, Kw⟩, A370, H⟩ := H
      replace H : ((tidemillref02_Same.f kj2 Gu Gj Kv Kw).bind fun Kl => (tidemilllaw02_TagSifts.j1 kj2 (!Kl) Gg Gh Gt Gi Gu Gj)) = some r := H
      have A37 := am' A370
      clear A370
      replace H := Option.bind_eq_some_iff.mp H
      obtain ⟨Kl, A380, H⟩ := H
      replace H : (tidemilllaw02_TagSifts.j1 kj2 (!Kl) Gg Gh Gt Gi Gu Gj) = some r := H
      have A38 := am' A380
      clear A380
      have H' := am' H
      clear H
      try go_wp2
      have n0_ : Aside0 (Kd.R k32 32 ((((w27.setCell ⟨Gc, 0, none⟩ (.string Gt)).setCell ⟨Gc, 1, none⟩ (.slice Ao29 Gi.length co29)).setCell ⟨Gd, 0, none⟩ (.string Gu)).setCell ⟨Gd, 1, none⟩ (.slice Ao32 Gj.length co32)) w.heap.size (fun k_ => some k_ ≠ (.slice Ao32 Gj.length co32 : Value).ownBlock) (.slice Ao29 Gi.length co29) Gi) := ⟨by (with_reducible repeat (first | apply rA' | apply rN' | apply rD')); exact rM' (rF' (p := ⟨Gd, 1, none⟩) (rF' (p := ⟨Gd, 0, none⟩) (rF' (p := ⟨Gc, 1, none⟩) (rF' (p := ⟨Gc, 0, none⟩) (rT' (rT' HO120.out Gf.out (by decide)) Ge.out (by decide)) (fun _ hk => hk.1.2) (.string Gt)) (fun _ hk => hk.1.2) (.slice Ao29 Gi.length co29)) (fun _ hk => hk.2) (.string Gu)) (fun _ hk => hk.2) (.slice Ao32 Gj.length co32)) (fun _ hk => hk.1.1)⟩
      have n1_ : Aside0 (Kd.R k32 32 ((((w27.setCell ⟨Gc, 0, none⟩ (.string Gt)).setCell ⟨Gc, 1, none⟩ (.slice Ao29 Gi.length co29)).setCell ⟨Gd, 0, none⟩ (.string Gu)).setCell ⟨Gd, 1, none⟩ (.slice Ao32 Gj.length co32)) w.heap.size (fun k_ => some k_ ≠ (.slice Ao29 Gi.length co29 : Value).ownBlock) (.slice Ao32 Gj.length co32) Gj) := ⟨by (with_reducible repeat (first | apply rA' | apply rN' | apply rD')); exact rM' (rF' (p := ⟨Gd, 1, none⟩) (rF' (p := ⟨Gd, 0, none⟩) (rF' (p := ⟨Gc, 1, none⟩) (rF' (p := ⟨Gc, 0, none⟩) (rT' (rT' HO124.out Gf.out (by decide)) Ge.out (by decide)) (fun _ hk => hk.1.2) (.string Gt)) (fun _ hk => hk.1.2) (.slice Ao29 Gi.length co29)) (fun _ hk => hk.2) (.string Gu)) (fun _ hk => hk.2) (.slice Ao32 Gj.length co32)) (fun _ hk => hk.1.1)⟩
      have n2_ : Aside0 (((((w27.setCell ⟨Gc, 0, none⟩ (.string Gt)).setCell ⟨Gc, 1, none⟩ (.slice Ao29 Gi.length co29)).setCell ⟨Gd, 0, none⟩ (.string Gu)).setCell ⟨Gd, 1, none⟩ (.slice Ao32 Gj.length co32)).heap[Gb]? = some (.cells #[.string Gg, .slice Gm Gh.length Gn] 25 (0, 0))) := ⟨by (with_reducible repeat (first | refine bN' ?_ _ | refine bD' ?_ | refine bA' ?_ _)); refine blk_far ?_ Gw.out _; (with_reducible repeat (first | refine bN' ?_ _ | refine bD' ?_ | refine bA' ?_ _)); refine blk_far ?_ Gw.out _; (with_reducible repeat (first | refine bN' ?_ _ | refine bD' ?_ | refine bA' ?_ _)); refine blk_far ?_ Gv.out _; (with_reducible repeat (first | refine bN' ?_ _ | refine bD' ?_ | refine bA' ?_ _)); refine blk_far ?_ Gv.out _; (with_reducible repeat (first | refine bN' ?_ _ | refine bD' ?_ | refine bA' ?_ _)); exact Ga.out⟩
      have n3_ : Aside0 (((((w27.setCell ⟨Gc, 0, none⟩ (.string Gt)).setCell ⟨Gc, 1, none⟩ (.slice Ao29 Gi.length co29)).setCell ⟨Gd, 0, none⟩ (.string Gu)).setCell ⟨Gd, 1, none⟩ (.slice Ao32 Gj.length co32)).heap[Gc]? = some (.cells #[.string Gt, .slice Ao29 Gi.length co29] 25 (0, 0))) := ⟨by (with_reducible repeat (first | refine bN' ?_ _ | refine bD' ?_ | refine bA' ?_ _)); refine blk_far ?_ Kf.out _; (with_reducible repeat (first | refine bN' ?_ _ | refine bD' ?_ | refine bA' ?_ _)); refine blk_far ?_ Kf.out _; (with_reducible repeat (first | refine bN' ?_ _ | refine bD' ?_ | refine bA' ?_ _)); refine blk_put (cs := #[.string Gt, .slice none 0 0]) ?_ 1 _ rfl; (with_reducible repeat (first | refine bN' ?_ _ | refine bD' ?_ | refine bA' ?_ _)); refine blk_put (cs := #[.string (⟨#[]⟩ : ByteArray), .slice none 0 0]) ?_ 0 _ rfl; (with_reducible repeat (first | refine bN' ?_ _ | refine bD' ?_ | refine bA' ?_ _)); exact Gf.out⟩
      have n4_ : Aside0 (((((w27.setCell ⟨Gc, 0, none⟩ (.string Gt)).setCell ⟨Gc, 1, none⟩ (.slice Ao29 Gi.length co29)).setCell ⟨Gd, 0, none⟩ (.string Gu)).setCell ⟨Gd, 1, none⟩ (.slice Ao32 Gj.length co32)).heap[Gd]? = some (.cells #[.string Gu, .slice Ao32 Gj.length co32] 25 (0, 0))) := ⟨by (with_reducible repeat (first | refine bN' ?_ _ | refine bD' ?_ | refine bA' ?_ _)); refine blk_put (cs := #[.string Gu, .slice none 0 0]) ?_ 1 _ rfl; (with_reducible repeat (first | refine bN' ?_ _ | refine bD' ?_ | refine bA' ?_ _)); refine blk_put (cs := #[.string (⟨#[]⟩ : ByteArray), .slice none 0 0]) ?_ 0 _ rfl; (with_reducible repeat (first | refine bN' ?_ _ | refine bD' ?_ | refine bA' ?_ _)); refine blk_far ?_ Ke.out _; (with_reducible repeat (first | refine bN' ?_ _ | refine bD' ?_ | refine bA' ?_ _)); refine blk_far ?_ Ke.out _; (with_reducible repeat (first | refine bN' ?_ _ | refine bD' ?_ | refine bA' ?_ _)); exact Ge.out⟩
      have n5_ : Aside0 (Below w.heap.size w ((((w27.setCell ⟨Gc, 0, none⟩ (.string Gt)).setCell ⟨Gc, 1, none⟩ (.slice Ao29 Gi.length co29)).setCell ⟨Gd, 0, none⟩ (.string Gu)).setCell ⟨Gd, 1, none⟩ (.slice Ao32 Gj.length co32))) := ⟨by repeat (first | (with_reducible first | exact HB.out | apply pA' | apply pN' | apply pD' | refine pS' ?_ Gp.out | refine pS' ?_ Gr.out | refine pS' ?_ Gs.out) | exact HB.out)⟩
      (try clear HO120)
      (try clear HO124)
      (try clear Ga)
      (try clear Gf)
      (try clear Ge)
      (try clear HB)
      generalize ((((w27.setCell ⟨Gc, 0, none⟩ (.string Gt)).setCell ⟨Gc, 1, none⟩ (.slice Ao29 Gi.length co29)).setCell ⟨Gd, 0, none⟩ (.string Gu)).setCell ⟨Gd, 1, none⟩ (.slice Ao32 Gj.length co32)) = w39 at n0_ n1_ n2_ n3_ n4_ n5_ ⊢
      have HO120 := n0_
      have HO124 := n1_
      have Ga := n2_
      have Gf := n3_
      have Ge := n4_
      have HB := n5_
      clear n0_ n1_ n2_ n3_ n4_ n5_
      have n0_ := am' (rD' HO120.out)
      have n1_ := am' (rD' HO124.out)
      have n2_ := am' (bD' Ga.out)
      have n3_ := am' (bD' Gf.out)
      have n4_ := am' (bD' Ge.out)
      have n5_ := am' (pD' HB.out)
      clear HO120
      clear HO124
      clear Ga
      clear Gf
      clear Ge
      clear HB
      have HO120 := n0_
      have HO124 := n1_
      have Ga := n2_
      have Gf := n3_
      have Ge := n4_
      have HB := n5_
      clear n0_ n1_ n2_ n3_ n4_ n5_
      refine start_ (n := 14) (S := fun w' => w'.cell? ⟨Gc, 0, none⟩ = some (.string Gt) ∧ w'.cell? ⟨Gc, 1, none⟩ = some (.slice Ao29 Gi.length co29) ∧ w'.cell? ⟨Gb, 0, none⟩ = some (.string Gg) ∧ w'.cell? ⟨Gb, 1, none⟩ = some (.slice Gm Gh.length Gn) ∧ w'.cell? ⟨Gd, 0, none⟩ = some (.string Gu) ∧ w'.cell? ⟨Gd, 1, none⟩ = some (.slice Ao32 Gj.length co32)) (ds := []) #[false, false, false, false, false, false, false, false, false, false, false, false, false, false] (by kernel_rfl) rfl rfl ⟨(bC' Gf.out 0).trans rfl, (bC' Gf.out 1).trans rfl, (bC' Ga.out 0).trans rfl, (bC' Ga.out 1).trans rfl, (bC' Ge.out 0).trans rfl, (bC' Ge.out 1).trans rfl⟩ (fun hHeld => ?_); refine with_tabW tidemilllaw02_TagSifts.tab4 tidemilllaw02_TagSifts.bits4 (fun HT_ HW_ => ?_)
      generalize w39.drew = w40 at HO120 HO124 Ga Gf Ge HB hHeld ⊢
      refine pure_ (i := 2) (N := some 30) (v := ?_) (a' := ?_) #[false, false, true, false, false, false, false, false, false, false, false, false, false, false] rfl rfl (any_of HT_.out (by kernel_rfl)) (fun _ _ _ h => h) (Or.inl ⟨by rfl, ?_⟩) ?_ ?_
      rotate_left
      ·intro w'
       go_simp
       with_reducible rfl
      rotate_left
      ·simp only [Act.put, sa', sz', ss', i64_w, i32_w]
       rfl
      refine take_ (i := 0) (N := some 28) (v := ?_) (a' := ?_) #[true, false, true, false, false, false, false, false, false, false, false, false, false, false] rfl rfl (take_ofW HT_.out HW_.out (by kernel_rfl)) (fun _ _ _ h => h) (Or.inl ⟨by rfl, ?_⟩) hHeld ?_ ?_
      rotate_left
      ·rintro w' ⟨s0, s1, s2, s3, s4, s5⟩
       go_simp
       with_reducible rfl
      rotate_left
      ·simp only [Act.put, sa', sz', ss', i64_w, i32_w]
       rfl
      refine take_ (i := 1) (N := some 29) (v := ?_) (a' := ?_) #[true, true, true, false, false, false, false, false, false, false, false, false, false, false] rfl rfl (take_ofW HT_.out HW_.out (by kernel_rfl)) (fun _ _ _ h => h) (Or.inl ⟨by rfl, ?_⟩) hHeld ?_ ?_
      rotate_left
      ·rintro w' ⟨s0, s1, s2, s3, s4, s5⟩
       go_simp
       with_reducible rfl
      rotate_left
      ·simp only [Act.put, sa', sz', ss', i64_w, i32_w]
       rfl
      refine one_ (i := 3) (N := some 31) #[true, true, true, true, false, false, false, false, false, false, false, false, false, false] rfl rfl (one_of HT_.out (by kernel_rfl)) (by decide) (fun K hK => ?_)
      refine goes_ Try.func13 (by kernel_rfl) rfl #[.agg #[.string Gg, .slice Gm Gh.length Gn], .slice A1 l1.length c1, .bool false] (by rfl) rfl rfl (by (try simp only [List.map_toArray, List.map_cons, List.map_nil]); first | done | rfl | (simp only [List.length_drop, List.length_take]; rfl)) ?_
      with_reducible refine (tidemillref02_Sifted.calls kj2 Gg _ _ Gh _ _ l1 false Ku Kx _ ?side1 ?side2 ?side3 ?side4 A34.out).mono ?_
      (case side1 => repeat (first | exact (Kd.C_below Km.out HB.out) | (with_reducible refine Kd.C_alloc ?_ _) | (with_reducible refine Kd.C_drewN ?_ _) | (with_reducible refine Kd.C_drew ?_)))
      (case side2 => exact Kn.out)
      (case side3 => repeat (first | exact (Kd.C_below HR1.out HB.out) | (with_reducible refine Kd.C_alloc ?_ _) | (with_reducible refine Kd.C_drewN ?_ _) | (with_reducible refine Kd.C_drew ?_)))
      (case side4 => exact HC1.out)
      rintro e w41 ⟨v129, rfl, ho0, hb⟩
      refine ⟨_, rfl, ?_⟩
      have n0_ := am' (Kd.R_elder' (by (with_reducible repeat (first | apply rA' | apply rN' | apply rD')); exact HO120.out) (Kd.R_base ho0) hb)
      have n1_ := am' (Kd.R_elder' (by (with_reducible repeat (first | apply rA' | apply rN' | apply rD')); exact HO124.out) (Kd.R_base ho0) hb)
      have n2_ := am' (Kd.R_lower (Kd.R_new' (Kd.R_new' ho0 (Kd.R_lt (by (with_reducible repeat (first | apply rA' | apply rN' | apply rD')); exact HO120.out))) (Kd.R_lt (by (with_reducible repeat (first | apply rA' | apply rN' | apply rD')); exact HO124.out))) (pz' (by repeat (first | (with_reducible first | exact HB.out | apply pA' | apply pN' | apply pD' | refine pS' ?_ Gp.out | refine pS' ?_ Gr.out | refine pS' ?_ Gs.out) | exact HB.out))))
      have n3_ := am' (bB' (g := Gb) (o := .cells #[.string Gg, .slice Gm Gh.length Gn] 25 (0, 0)) (by (with_reducible repeat (first | refine bN' ?_ _ | refine bD' ?_ | refine bA' ?_ _)); exact Ga.out) hb)
      have n4_ := am' (bB' (g := Gc) (o := .cells #[.string Gt, .slice Ao29 Gi.length co29] 25 (0, 0)) (by (with_reducible repeat (first | refine bN' ?_ _ | refine bD' ?_ | refine bA' ?_ _)); exact Gf.out) hb)
      have n5_ := am' (bB' (g := Gd) (o := .cells #[.string Gu, .slice Ao32 Gj.length co32] 25 (0, 0)) (by (with_reducible repeat (first | refine bN' ?_ _ | refine bD' ?_ | refine bA' ?_ _)); exact Ge.out) hb)
      have n6_ := am' (below_step (by repeat (first | (with_reducible first | exact HB.out | apply pA' | apply pN' | apply pD' | refine pS' ?_ Gp.out | refine pS' ?_ Gr.out | refine pS' ?_ Gs.out) | exact HB.out)) hb)
      clear HO120
      clear HO124
      clear Ga
      clear Gf
      clear Ge
      clear HB
      have HO120 := n0_
      have HO124 := n1_
      have HO130 := n2_
      have Ga := n3_
      have Gf := n4_
      have Ge := n5_
      have HB := n6_
      clear n0_ n1_ n2_ n3_ n4_ n5_ n6_
      (try clear hb)
      (try clear hb2)
      (try clear hk)
      (try clear hi)
      (try clear ho0)
      obtain ⟨Ao42, co42, eo42⟩ := Kd.R_slice HO130.out
      (first | subst eo42 | (injection eo42 with f1_ f2_ f3_; have f4_ := f1_.symm; have f5_ := f3_.symm; clear f1_ f2_ f3_; subst f4_; subst f5_))
      refine hK.out _ _ ⟨(bC' Gf.out 0).trans rfl, (bC' Gf.out 1).trans rfl, (bC' Ga.out 0).trans rfl, (bC' Ga.out 1).trans rfl, (bC' Ge.out 0).trans rfl, (bC' Ge.out 1).trans rfl⟩ (fun hHeld => ?_)
      clear hK K
      refine norm_ (a' := ?_) ?_ ?_
      rotate_left
      ·show Act.put _ (some 31) _ = _
       simp only [Act.put, sa', sz', ss', i64_w, i32_w]
       rfl
      refine one_ (i := 4) (N := some 32) #[true, true, true, true, true, false, false, false, false, false, false, false, false, false] rfl rfl (one_of HT_.out (by kernel_rfl)) (by decide) (fun K hK => ?_)
      refine goes_ Try.func8 (by kernel_rfl) rfl #[.agg #[.string Gt, .slice Ao29 Gi.length co29], .agg #[.string Ku, .slice Ao42 Kx.length co42]] (by rfl) rfl rfl (by (try simp only [List.map_toArray, List.map_cons, List.map_nil]); first | done | rfl | (simp only [List.length_drop, List.length_take]; rfl)) ?_
      with_reducible refine (tidemillref02_Same.calls kj2 Gt _ _ Gi Ku _ _ Kx true _ ?side1 ?side2 ?side3 ?side4 A35.out).mono ?_
      (case side1 => repeat (first | exact (Kd.R_reads' HO120.out).2.2 | (with_reducible refine Kd.C_alloc ?_ _) | (with_reducible refine Kd.C_drewN ?_ _) | (with_reducible refine Kd.C_drew ?_)))
      (case side2 => exact (Kd.R_reads' HO120.out).2.1)
      (case side3 => repeat (first | exact (Kd.R_reads' HO130.out).2.2 | (with_reducible refine Kd.C_alloc ?_ _) | (with_reducible refine Kd.C_drewN ?_ _) | (with_reducible refine Kd.C_drew ?_)))
      (case side4 => exact (Kd.R_reads' HO130.out).2.1)
      rintro e w43 ⟨rfl, hb⟩
      refine ⟨_, rfl, ?_⟩
      have n0_ := am' (rB' (by (with_reducible repeat (first | apply rA' | apply rN' | apply rD')); exact HO120.out) hb)
      have n1_ := am' (rB' (by (with_reducible repeat (first | apply rA' | apply rN' | apply rD')); exact HO124.out) hb)
      have n2_ := am' (rB' (by (with_reducible repeat (first | apply rA' | apply rN' | apply rD')); exact HO130.out) hb)
      have n3_ := am' (bB' (g := Gb) (o := .cells #[.string Gg, .slice Gm Gh.length Gn] 25 (0, 0)) (by (with_reducible repeat (first | refine bN' ?_ _ | refine bD' ?_ | refine bA' ?_ _)); exact Ga.out) hb)
      have n4_ := am' (bB' (g := Gc) (o := .cells #[.string Gt, .slice Ao29 Gi.length co29] 25 (0, 0)) (by (with_reducible repeat (first | refine bN' ?_ _ | refine bD' ?_ | refine bA' ?_ _)); exact Gf.out) hb)
      have n5_ := am' (bB' (g := Gd) (o := .cells #[.string Gu, .slice Ao32 Gj.length co32] 25 (0, 0)) (by (with_reducible repeat (first | refine bN' ?_ _ | refine bD' ?_ | refine bA' ?_ _)); exact Ge.out) hb)
      have n6_ := am' (below_step (by repeat (first | (with_reducible first | exact HB.out | apply pA' | apply pN' | apply pD' | refine pS' ?_ Gp.out | refine pS' ?_ Gr.out | refine pS' ?_ Gs.out) | exact HB.out)) hb)
      clear HO120
      clear HO124
      clear HO130
      clear Ga
      clear Gf
      clear Ge
      clear HB
      have HO120 := n0_
      have HO124 := n1_
      have HO130 := n2_
      have Ga := n3_
      have Gf := n4_
      have Ge := n5_
      have HB := n6_
      clear n0_ n1_ n2_ n3_ n4_ n5_ n6_
      (try clear hb)
      (try clear hb2)
      (try clear hk)
      (try clear hi)
      refine hK.out _ _ ⟨(bC' Gf.out 0).trans rfl, (bC' Gf.out 1).trans rfl, (bC' Ga.out 0).trans rfl, (bC' Ga.out 1).trans rfl, (bC' Ge.out 0).trans rfl, (bC' Ge.out 1).trans rfl⟩ (fun hHeld => ?_)
      clear hK K
      refine norm_ (a' := ?_) ?_ ?_
      rotate_left
      ·show Act.put _ (some 32) _ = _
       simp only [Act.put, sa', sz', ss', i64_w, i32_w]
       rfl
      refine pure_ (i := 5) (N := some 33) (v := ?_) (a' := ?_) #[true, true, true, true, true, true, false, false, false, false, false, false, false, false] rfl rfl (any_of HT_.out (by kernel_rfl)) (fun _ _ _ h => h) (Or.inl ⟨by rfl, ?_⟩) ?_ ?_
      rotate_left
      ·intro w'
       go_simp
       with_reducible rfl
      rotate_left
      ·simp only [Act.put, sa', sz', ss', i64_w, i32_w]
       rfl
      refine pure_ (i := 6) (N := some 34) (v := ?_) (a' := ?_) #[true, true, true, true, true, true, true, false, false, false, false, false, false, false] rfl rfl (any_of HT_.out (by kernel_rfl)) (fun _ _ _ h => h) (Or.inl ⟨by rfl, ?_⟩) ?_ ?_
      rotate_left
      ·intro w'
       go_simp
       with_reducible rfl
      rotate_left
      ·simp only [Act.put, sa', sz', ss', i64_w, i32_w]
       rfl
      refine pure_ (i := 9) (N := some 37) (v := ?_) (a' := ?_) #[true, true, true, true, true, true, true, false, false, true, false, false, false, false] rfl rfl (any_of HT_.out (by kernel_rfl)) (fun _ _ _ h => h) (Or.inl ⟨by rfl, ?_⟩) ?_ ?_
      rotate_left
      ·intro w'
       go_simp
       with_reducible rfl
      rotate_left
      ·simp only [Act.put, sa', sz', ss', i64_w, i32_w]
       rfl
      refine take_ (i := 7) (N := some 35) (v := ?_) (a' := ?_) #[true, true, true, true, true, true, true, true, false, true, false, false, false, false] rfl rfl (take_ofW HT_.out HW_.out (by kernel_rfl)) (fun _ _ _ h => h) (Or.inl ⟨by rfl, ?_⟩) hHeld ?_ ?_
      rotate_left
      ·rintro w' ⟨s0, s1, s2, s3, s4, s5⟩
       go_simp
       with_reducible rfl
      rotate_left
      ·simp only [Act.put, sa', sz', ss', i64_w, i32_w]
       rfl
      refine take_ (i := 8) (N := some 36) (v := ?_) (a' := ?_) #[true, true, true, true, true, true, true, true, true, true, false, false, false, false] rfl rfl (take_ofW HT_.out HW_.out (by kernel_rfl)) (fun _ _ _ h => h) (Or.inl ⟨by rfl, ?_⟩) hHeld ?_ ?_
      rotate_left
      ·rintro w' ⟨s0, s1, s2, s3, s4, s5⟩
       go_simp
       with_reducible rfl
      rotate_left
      ·simp only [Act.put, sa', sz', ss', i64_w, i32_w]
       rfl
      refine one_ (i := 10) (N := some 38) #[true, true, true, true, true, true, true, true, true, true, true, false, false, false] rfl rfl (one_of HT_.out (by kernel_rfl)) (by decide) (fun K hK => ?_)
      refine goes_ Try.func13 (by kernel_rfl) rfl #[.agg #[.string Gg, .slice Gm Gh.length Gn], .slice A1 l1.length c1, .bool true] (by rfl) rfl rfl (by (try simp only [List.map_toArray, List.map_cons, List.map_nil]); first | done | rfl | (simp only [List.length_drop, List.length_take]; rfl)) ?_
      with_reducible refine (tidemillref02_Sifted.calls kj2 Gg _ _ Gh _ _ l1 true Kv Kw _ ?side1 ?side2 ?side3 ?side4 A37.out).mono ?_
      (case side1 => repeat (first | exact (Kd.C_below Km.out HB.out) | (with_reducible refine Kd.C_alloc ?_ _) | (with_reducible refine Kd.C_drewN ?_ _) | (with_reducible refine Kd.C_drew ?_)))
      (case side2 => exact Kn.out)
      (case side3 => repeat (first | exact (Kd.C_below HR1.out HB.out) | (with_reducible refine Kd.C_alloc ?_ _) | (with_reducible refine Kd.C_drewN ?_ _) | (with_reducible refine Kd.C_drew ?_)))
      (case side4 => exact HC1.out)
      rintro e w44 ⟨v134, rfl, ho0, hb⟩
      refine ⟨_, rfl, ?_⟩
      have n0_ := am' (Kd.R_elder' (by (with_reducible repeat (first | apply rA' | apply rN' | apply rD')); exact HO120.out) (Kd.R_base ho0) hb)
      have n1_ := am' (Kd.R_elder' (by (with_reducible repeat (first | apply rA' | apply rN' | apply rD')); exact HO124.out) (Kd.R_base ho0) hb)
      have n2_ := am' (Kd.R_elder' (by (with_reducible repeat (first | apply rA' | apply rN' | apply rD')); exact HO130.out) (Kd.R_base ho0) hb)
      have n3_ := am' (Kd.R_lower (Kd.R_new' (Kd.R_new' (Kd.R_new' ho0 (Kd.R_lt (by (with_reducible repeat (first | apply rA' | apply rN' | apply rD')); exact HO120.out))) (Kd.R_lt (by (with_reducible repeat (first | apply rA' | apply rN' | apply rD')); exact HO124.out))) (Kd.R_lt (by (with_reducible repeat (first | apply rA' | apply rN' | apply rD')); exact HO130.out))) (pz' (by repeat (first | (with_reducible first | exact HB.out | apply pA' | apply pN' | apply pD' | refine pS' ?_ Gp.out | refine pS' ?_ Gr.out | refine pS' ?_ Gs.out) | exact HB.out))))
      have n4_ := am' (bB' (g := Gb) (o := .cells #[.string Gg, .slice Gm Gh.length Gn] 25 (0, 0)) (by (with_reducible repeat (first | refine bN' ?_ _ | refine bD' ?_ | refine bA' ?_ _)); exact Ga.out) hb)
      have n5_ := am' (bB' (g := Gc) (o := .cells #[.string Gt, .slice Ao29 Gi.length co29] 25 (0, 0)) (by (with_reducible repeat (first | refine bN' ?_ _ | refine bD' ?_ | refine bA' ?_ _)); exact Gf.out) hb)
      have n6_ := am' (bB' (g := Gd) (o := .cells #[.string Gu, .slice Ao32 Gj.length co32] 25 (0, 0)) (by (with_reducible repeat (first | refine bN' ?_ _ | refine bD' ?_ | refine bA' ?_ _)); exact Ge.out) hb)
      have n7_ := am' (below_step (by repeat (first | (with_reducible first | exact HB.out | apply pA' | apply pN' | apply pD' | refine pS' ?_ Gp.out | refine pS' ?_ Gr.out | refine pS' ?_ Gs.out) | exact HB.out)) hb)
      clear HO120
      clear HO124
      clear HO130
      clear Ga
      clear Gf
      clear Ge
      clear HB
      have HO120 := n0_
      have HO124 := n1_
      have HO130 := n2_
      have HO135 := n3_
      have Ga := n4_
      have Gf := n5_
      have Ge := n6_
      have HB := n7_
      clear n0_ n1_ n2_ n3_ n4_ n5_ n6_ n7_
      (try clear hb)
      (try clear hb2)
      (try clear hk)
      (try clear hi)
      (try clear ho0)
      obtain ⟨Ao45, co45, eo45⟩ := Kd.R_slice HO135.out
      (first | subst eo45 | (injection eo45 with f1_ f2_ f3_; have f4_ := f1_.symm; have f5_ := f3_.symm; clear f1_ f2_ f3_; subst f4_; subst f5_))
      refine hK.out _ _ ⟨(bC' Gf.out 0).trans rfl, (bC' Gf.out 1).trans rfl, (bC' Ga.out 0).trans rfl, (bC' Ga.out 1).trans rfl, (bC' Ge.out 0).trans rfl, (bC' Ge.out 1).trans rfl⟩ (fun hHeld => ?_)
      clear hK K
      refine norm_ (a' := ?_) ?_ ?_
      rotate_left
      ·show Act.put _ (some 38) _ = _
       simp only [Act.put, sa', sz', ss', i64_w, i32_w]
       rfl
      refine one_ (i := 11) (N := some 39) #[true, true, true, true, true, true, true, true, true, true, true, true, false, false] rfl rfl (one_of HT_.out (by kernel_rfl)) (by decide) (fun K hK => ?_)
      refine goes_ Try.func8 (by kernel_rfl) rfl #[.agg #[.string Gu, .slice Ao32 Gj.length co32], .agg #[.string Kv, .slice Ao45 Kw.length co45]] (by rfl) rfl rfl (by (try simp only [List.map_toArray, List.map_cons, List.map_nil]); first | done | rfl | (simp only [List.length_drop, List.length_take]; rfl)) ?_
      with_reducible refine (tidemillref02_Same.calls kj2 Gu _ _ Gj Kv _ _ Kw Kl _ ?side1 ?side2 ?side3 ?side4 A38.out).mono ?_
      (case side1 => repeat (first | exact (Kd.R_reads' HO124.out).2.2 | (with_reducible refine Kd.C_alloc ?_ _) | (with_reducible refine Kd.C_drewN ?_ _) | (with_reducible refine Kd.C_drew ?_)))
      (case side2 => exact (Kd.R_reads' HO124.out).2.1)
      (case side3 => repeat (first | exact (Kd.R_reads' HO135.out).2.2 | (with_reducible refine Kd.C_alloc ?_ _) | (with_reducible refine Kd.C_drewN ?_ _) | (with_reducible refine Kd.C_drew ?_)))
      (case side4 => exact (Kd.R_reads' HO135.out).2.1)
      rintro e w46 ⟨rfl, hb⟩
      refine ⟨_, rfl, ?_⟩
      have n0_ := am' (rB' (by (with_reducible repeat (first | apply rA' | apply rN' | apply rD')); exact HO120.out) hb)
      have n1_ := am' (rB' (by (with_reducible repeat (first | apply rA' | apply rN' | apply rD')); exact HO124.out) hb)
      have n2_ := am' (rB' (by (with_reducible repeat (first | apply rA' | apply rN' | apply rD')); exact HO130.out) hb)
      have n3_ := am' (rB' (by (with_reducible repeat (first | apply rA' | apply rN' | apply rD')); exact HO135.out) hb)
      have n4_ := am' (bB' (g := Gb) (o := .cells #[.string Gg, .slice Gm Gh.length Gn] 25 (0, 0)) (by (with_reducible repeat (first | refine bN' ?_ _ | refine bD' ?_ | refine bA' ?_ _)); exact Ga.out) hb)
      have n5_ := am' (bB' (g := Gc) (o := .cells #[.string Gt, .slice Ao29 Gi.length co29] 25 (0, 0)) (by (with_reducible repeat (first | refine bN' ?_ _ | refine bD' ?_ | refine bA' ?_ _)); exact Gf.out) hb)
      have n6_ := am' (bB' (g := Gd) (o := .cells #[.string Gu, .slice Ao32 Gj.length co32] 25 (0, 0)) (by (with_reducible repeat (first | refine bN' ?_ _ | refine bD' ?_ | refine bA' ?_ _)); exact Ge.out) hb)
      have n7_ := am' (below_step (by repeat (first | (with_reducible first | exact HB.out | apply pA' | apply pN' | apply pD' | refine pS' ?_ Gp.out | refine pS' ?_ Gr.out | refine pS' ?_ Gs.out) | exact HB.out)) hb)
      clear HO120
      clear HO124
      clear HO130
      clear HO135
      clear Ga
      clear Gf
      clear Ge
      clear HB
      have HO120 := n0_
      have HO124 := n1_
      have HO130 := n2_
      have HO135 := n3_
      have Ga := n4_
      have Gf := n5_
      have Ge := n6_
      have HB := n7_
      clear n0_ n1_ n2_ n3_ n4_ n5_ n6_ n7_
      (try clear hb)
      (try clear hb2)
      (try clear hk)
      (try clear hi)
      refine hK.out _ _ ⟨(bC' Gf.out 0).trans rfl, (bC' Gf.out 1).trans rfl, (bC' Ga.out 0).trans rfl, (bC' Ga.out 1).trans rfl, (bC' Ge.out 0).trans rfl, (bC' Ge.out 1).trans rfl⟩ (fun hHeld => ?_)
      clear hK K
      refine norm_ (a' := ?_) ?_ ?_
      rotate_left
      ·show Act.put _ (some 39) _ = _
       simp only [Act.put, sa', sz', ss', i64_w, i32_w]
       rfl
      refine pure_ (i := 12) (N := some 40) (v := ?_) (a' := ?_) #[true, true, true, true, true, true, true, true, true, true, true, true, true, false] rfl rfl (any_of HT_.out (by kernel_rfl)) (fun _ _ _ h => h) (Or.inl ⟨by rfl, ?_⟩) ?_ ?_
      rotate_left
      ·intro w'
       go_simp
       with_reducible rfl
      rotate_left
      ·simp only [Act.put, sa', sz', ss', i64_w, i32_w]
       rfl
      refine pure_ (i := 13) (N := some 41) (v := ?_) (a' := ?_) #[true, true, true, true, true, true, true, true, true, true, true, true, true, true] rfl rfl (any_of HT_.out (by kernel_rfl)) (fun _ _ _ h => h) (Or.inl ⟨by rfl, ?_⟩) ?_ ?_
      rotate_left
      ·intro w'
       go_simp
       with_reducible rfl
      rotate_left
      ·simp only [Act.put, sa', sz', ss', i64_w, i32_w]
       rfl
      refine done_ (done_of HT_.out (by kernel_rfl)) ?_
      try go_wp2
      go_meet
      case rel => exact ⟨_, (!Kl), (by first | rfl | (simp; done) | (simp [*]; done)), H', ⟨by have := HJ2.out; first | omega | exact Nat.le_refl _⟩, ⟨by (with_reducible repeat (first | apply rA' | apply rN' | apply rD')); exact rM' HO120.out (fun _ hk => hk.1.1)⟩, ⟨by (with_reducible repeat (first | apply rA' | apply rN' | apply rD')); exact rM' HO124.out (fun _ hk => hk.1.1)⟩, ⟨by (with_reducible repeat (first | refine bN' ?_ _ | refine bD' ?_ | refine bA' ?_ _)); exact Ga.out⟩, ⟨by (with_reducible repeat (first | refine bN' ?_ _ | refine bD' ?_ | refine bA' ?_ _)); exact Gf.out⟩, ⟨by (with_reducible repeat (first | refine bN' ?_ _ | refine bD' ?_ | refine bA' ?_ _)); exact Ge.out⟩, ⟨by repeat (first | (with_reducible first | exact HB.out | apply pA' | apply pN' | apply pD' | refine pS' ?_ Gp.out | refine pS' ?_ Gr.out | refine pS' ?_ Gs.out) | exact HB.out)⟩⟩
     ·replace c36 := Bool.eq_false_iff.mpr c36
      subst c36
      have H1 : (tidemilllaw02_TagSifts.j1 kj2 true Gg Gh Gt Gi Gu Gj) = some r := by rw [if_neg (show ¬ (false = true) by decide)] at H; exact H
      exact absurd (H1.trans (congrArg some HR_.out)) (tidemilllaw02_TagSifts.no1 _ _ _ _ _ _ _)
    case rest =>
     clear HC21
     try clear c1
     try clear p2
     try clear c3
     try clear c8
     try clear c13
     try clear c36
     obtain ⟨kq, x41_20, rfl, HA, HJ20, Gk, Gl, Ga, Gf, Ge, HB⟩ := hcut
     cases kq with
     | zero => exact absurd HA.out (by simp [tidemilllaw02_TagSifts.j1])
     | succ kj20 =>
      have H := HA.out
      clear HA
      simp only [tidemilllaw02_TagSifts.j1] at H
      by_cases c52 : x41_20 = true
      ·subst c52
       have H1 : (some false) = some r := by rw [if_pos rfl] at H; exact H
       exact absurd ((Option.some.inj H1).trans HR_.out) (by decide)
      ·replace c52 := Bool.eq_false_iff.mpr c52
       subst c52
       have H1 : ((some (([] : List (S32)) : List (S32))).bind fun y137 => (if y137.length + Gi.length < 4398046511104 then ((some (y137 ++ Gi : List (S32))).bind fun y140 => (if y140.length + Gj.length < 4398046511104 then ((tag_Make.f Gg (y140 ++ Gj)).bind fun bt146 => (if bt146.2.2 = 0 then ((tidemillref02_Same.f kj20 bt146.1 bt146.2.1 Gg Gh).bind fun Kq => (some Kq)) else (some false))) else (none))) else (none))) = some r := by rw [if_neg (show ¬ (false = true) by decide)] at H; exact H
       clear H
       have H := H1
       clear H1
       obtain ⟨y137, hy137⟩ : ∃ y_ : List (S32), y_ = (([] : List (S32))) := ⟨_, rfl⟩
       replace H : (if y137.length + Gi.length < 4398046511104 then ((some (y137 ++ Gi : List (S32))).bind fun y140 => (if y140.length + Gj.length < 4398046511104 then ((tag_Make.f Gg (y140 ++ Gj)).bind fun bt146 => (if bt146.2.2 = 0 then ((tidemillref02_Same.f kj20 bt146.1 bt146.2.1 Gg Gh).bind fun Kq => (some Kq)) else (some false))) else (none))) else (none)) = some r := by first | (rw [hy137]; with_reducible exact H) | (have H2_ := (Option.bind_some _ _).symm.trans H; rw [hy137]; with_reducible exact H2_) | (have H2_ := (Option.bind_some _ _).symm.trans H; with_reducible exact H2_) | with_reducible exact H | (rw [hy137]; exact H) | exact H
       have Ny137 := am' hy137
       clear hy137
       by_cases c53 : y137.length + Gi.length < 4398046511104
       ·rw [if_pos c53] at H
        have LMc53 := am' c53
        clear c53
        obtain ⟨y140, hy140⟩ : ∃ y_ : List (S32), y_ = (y137 ++ Gi) := ⟨_, rfl⟩
        replace H : (if y140.length + Gj.length < 4398046511104 then ((tag_Make.f Gg (y140 ++ Gj)).bind fun bt146 => (if bt146.2.2 = 0 then ((tidemillref02_Same.f kj20 bt146.1 bt146.2.1 Gg Gh).bind fun Kq => (some Kq)) else (some false))) else (none)) = some r := by first | (rw [hy140]; with_reducible exact H) | (have H2_ := (Option.bind_some _ _).symm.trans H; rw [hy140]; with_reducible exact H2_) | (have H2_ := (Option.bind_some _ _).symm.trans H; with_reducible exact H2_) | with_reducible exact H | (rw [hy140]; exact H) | exact H
        have Ny140 := am' hy140
        clear hy140
        by_cases c54 : y140.length + Gj.length < 4398046511104
        ·rw [if_pos c54] at H
         have LMc54 := am' c54
         clear c54
         obtain ⟨y143, hy143⟩ : ∃ y_ : List (S32), y_ = (y140 ++ Gj) := ⟨_, rfl⟩
         replace H : ((tag_Make.f Gg y143).bind fun bt146 => (if bt146.2.2 = 0 then ((tidemillref02_Same.f kj20 bt146.1 bt146.2.1 Gg Gh).bind fun Kq => (some Kq)) else (some false))) = some r := by first | (rw [hy143]; with_reducible exact H) | (have H2_ := (Option.bind_some _ _).symm.trans H; rw [hy143]; with_reducible exact H2_) | (have H2_ := (Option.bind_some _ _).symm.trans H; with_reducible exact H2_) | with_reducible exact H | (rw [hy143]; exact H) | exact H
         have Ny143 := am' hy143
         clear hy143
         replace H := Option.bind_eq_some_iff.mp H
         obtain ⟨⟨Kk, Ko, Kp⟩, A550, H⟩ := H
         replace H : (if Kp = 0 then ((tidemillref02_Same.f kj20 Kk Ko Gg Gh).bind fun Kq => (some Kq)) else (some false)) = some r := H
         have A55 := am' A550
         clear A550
         by_cases c56 : Kp = 0
         ·rw [if_pos c56] at H
          have c56b0 : (Kp == 0) = true := beq_iff_eq.mpr c56
          have c56b1 : (Kp != 0) = false := bne_eq_false_iff_eq.mpr c56
          clear c56
          replace H := Option.bind_eq_some_iff.mp H
          obtain ⟨Kq, A570, H⟩ := H
          replace H : (some Kq) = some r := H
          have A57 := am' A570
          clear A570
          obtain rfl := Option.some.inj H
          try go_wp2
          have n0_ := am' (rD' Gk.out)
          have n1_ := am' (rD' Gl.out)
          have n2_ := am' (bD' Ga.out)
          have n3_ := am' (bD' Gf.out)
          have n4_ := am' (bD' Ge.out)
          have n5_ := am' (pD' HB.out)
          clear Gk
          clear Gl
          clear Ga
          clear Gf
          clear Ge
          clear HB
          have Gk := n0_
          have Gl := n1_
          have Ga := n2_
          have Gf := n3_
          have Ge := n4_
          have HB := n5_
          clear n0_ n1_ n2_ n3_ n4_ n5_
          refine start_ (n := 16) (S := fun w' => w'.cell? ⟨Gb, 0, none⟩ = some (.string Gg) ∧ w'.cell? ⟨Gb, 1, none⟩ = some (.slice Gm Gh.length Gn) ∧ w'.cell? ⟨Gc, 0, none⟩ = some (.string Gt) ∧ w'.cell? ⟨Gc, 1, none⟩ = some (.slice Ao29 Gi.length co29) ∧ w'.cell? ⟨Gd, 0, none⟩ = some (.string Gu) ∧ w'.cell? ⟨Gd, 1, none⟩ = some (.slice Ao32 Gj.length co32)) (ds := []) #[false, false, false, false, false, false, false, false, false, false, false, false, false, false, false, false] (by kernel_rfl) rfl rfl ⟨(bC' Ga.out 0).trans rfl, (bC' Ga.out 1).trans rfl, (bC' Gf.out 0).trans rfl, (bC' Gf.out 1).trans rfl, (bC' Ge.out 0).trans rfl, (bC' Ge.out 1).trans rfl⟩ (fun hHeld => ?_); refine with_tabW tidemilllaw02_TagSifts.tab6 tidemilllaw02_TagSifts.bits6 (fun HT_ HW_ => ?_)
          generalize wc.drew = w58 at Gk Gl Ga Gf Ge HB hHeld ⊢
          refine pure_ (i := 0) (N := some 43) (v := ?_) (a' := ?_) #[true, false, false, false, false, false, false, false, false, false, false, false, false, false, false, false] rfl rfl (any_of HT_.out (by kernel_rfl)) (fun _ _ _ h => h) (Or.inl ⟨by rfl, ?_⟩) ?_ ?_
          rotate_left
          ·intro w'
           go_simp
           with_reducible rfl
          rotate_left
          ·simp only [Act.put, sa', sz', ss', i64_w, i32_w]
           rfl
          refine pure_ (i := 3) (N := some 46) (v := ?_) (a' := ?_) #[true, false, false, true, false, false, false, false, false, false, false, false, false, false, false, false] rfl rfl (any_of HT_.out (by kernel_rfl)) (fun _ _ _ h => h) (Or.inl ⟨by rfl, ?_⟩) ?_ ?_
          rotate_left
          ·intro w'
           go_simp
           with_reducible rfl
          rotate_left
          ·simp only [Act.put, sa', sz', ss', i64_w, i32_w]
           rfl
          refine pure_ (i := 6) (N := some 49) (v := ?_) (a' := ?_) #[true, false, false, true, false, false, true, false, false, false, false, false, false, false, false, false] rfl rfl (any_of HT_.out (by kernel_rfl)) (fun _ _ _ h => h) (Or.inl ⟨by rfl, ?_⟩) ?_ ?_
          rotate_left
          ·intro w'
           go_simp
           with_reducible rfl
          rotate_left
          ·simp only [Act.put, sa', sz', ss', i64_w, i32_w]
           rfl
          refine take_ (i := 1) (N := some 44) (v := ?_) (a' := ?_) #[true, true, false, true, false, false, true, false, false, false, false, false, false, false, false, false] rfl rfl (take_ofW HT_.out HW_.out (by kernel_rfl)) (fun _ _ _ h => h) (Or.inl ⟨by rfl, ?_⟩) hHeld ?_ ?_
          rotate_left
          ·rintro w' ⟨s0, s1, s2, s3, s4, s5⟩
           go_simp
           with_reducible rfl
          rotate_left
          ·simp only [Act.put, sa', sz', ss', i64_w, i32_w]
           rfl
          refine take_ (i := 4) (N := some 47) (v := ?_) (a' := ?_) #[true, true, false, true, true, false, true, false, false, false, false, false, false, false, false, false] rfl rfl (take_ofW HT_.out HW_.out (by kernel_rfl)) (fun _ _ _ h => h) (Or.inl ⟨by rfl, ?_⟩) hHeld ?_ ?_
          rotate_left
          ·rintro w' ⟨s0, s1, s2, s3, s4, s5⟩
           go_simp
           with_reducible rfl
          rotate_left
          ·simp only [Act.put, sa', sz', ss', i64_w, i32_w]
           rfl
          refine take_ (i := 7) (N := some 50) (v := ?_) (a' := ?_) #[true, true, false, true, true, false, true, true, false, false, false, false, false, false, false, false] rfl rfl (take_ofW HT_.out HW_.out (by kernel_rfl)) (fun _ _ _ h => h) (Or.inl ⟨by rfl, ?_⟩) hHeld ?_ ?_
          rotate_left
          ·rintro w' ⟨s0, s1, s2, s3, s4, s5⟩
           go_simp
           with_reducible rfl
          rotate_left
          ·simp only [Act.put, sa', sz', ss', i64_w, i32_w]
           rfl
          refine join_ (σ := Value × Value × Value × Value × Nat) 2 #[true, true, true, true, true, true, true, true, true, true, true, true, true, true, false, false] (fun s_ => [(45, s_.1), (48, s_.2.1), (51, s_.2.2.1), (52, .tuple #[.agg #[.string Kk, s_.2.2.2.1], .int .i64 Kp]), (7, .pointer (some ⟨s_.2.2.2.2, 0, none⟩)), (42, .tuple #[.agg #[.string Kk, s_.2.2.2.1], .int .i64 Kp]), (53, .agg #[.string Kk, s_.2.2.2.1]), (54, .int .i64 Kp)]) (fun s_ w' => (w'.cell? ⟨Gb, 0, none⟩ = some (.string Gg) ∧ w'.cell? ⟨Gb, 1, none⟩ = some (.slice Gm Gh.length Gn) ∧ w'.cell? ⟨Gc, 0, none⟩ = some (.string Gt) ∧ w'.cell? ⟨Gc, 1, none⟩ = some (.slice Ao29 Gi.length co29) ∧ w'.cell? ⟨Gd, 0, none⟩ = some (.string Gu) ∧ w'.cell? ⟨Gd, 1, none⟩ = some (.slice Ao32 Gj.length co32)) ∧ (Kd.R k32 32 w' w.heap.size (fun k_ => some k_ ≠ (s_.2.2.2.1 : Value).ownBlock ∧ some k_ ≠ (.slice Ao29 Gi.length co29 : Value).ownBlock ∧ some k_ ≠ (.slice Ao32 Gj.length co32 : Value).ownBlock) s_.2.2.1 y143) ∧ (Kd.R k32 32 w' w.heap.size (fun k_ => some k_ ≠ (s_.2.2.1 : Value).ownBlock ∧ some k_ ≠ (.slice Ao29 Gi.length co29 : Value).ownBlock ∧ some k_ ≠ (.slice Ao32 Gj.length co32 : Value).ownBlock) s_.2.2.2.1 Ko) ∧ (Kd.R k32 32 w' w.heap.size (fun k_ => some k_ ≠ (s_.2.2.1 : Value).ownBlock ∧ some k_ ≠ (s_.2.2.2.1 : Value).ownBlock ∧ some k_ ≠ (.slice Ao32 Gj.length co32 : Value).ownBlock) (.slice Ao29 Gi.length co29) Gi) ∧ (Kd.R k32 32 w' w.heap.size (fun k_ => some k_ ≠ (s_.2.2.1 : Value).ownBlock ∧ some k_ ≠ (s_.2.2.2.1 : Value).ownBlock ∧ some k_ ≠ (.slice Ao29 Gi.length co29 : Value).ownBlock) (.slice Ao32 Gj.length co32) Gj) ∧ (w'.heap[Gb]? = some (.cells #[.string Gg, .slice Gm Gh.length Gn] 25 (0, 0))) ∧ (w'.heap[Gc]? = some (.cells #[.string Gt, .slice Ao29 Gi.length co29] 25 (0, 0))) ∧ (w'.heap[Gd]? = some (.cells #[.string Gu, .slice Ao32 Gj.length co32] 25 (0, 0))) ∧ (w'.heap[s_.2.2.2.2]? = some (.cells #[.string (⟨#[]⟩ : ByteArray), .slice none 0 0] 25 (0, 0))) ∧ (w.heap.size ≤ s_.2.2.2.2) ∧ (w.heap.size ≤ s_.2.2.2.2) ∧ (Gb ≠ s_.2.2.2.2) ∧ (s_.2.2.2.2 ≠ Gb) ∧ (Gc ≠ s_.2.2.2.2) ∧ (s_.2.2.2.2 ≠ Gc) ∧ (Gd ≠ s_.2.2.2.2) ∧ (s_.2.2.2.2 ≠ Gd) ∧ (Below w.heap.size w w')) ?_ ?_
          rotate_left
          ·intro hJ2_5_8_9_13
           refine join_ (σ := Value × Value × Value × Value) 3 #[true, true, true, true, true, true, true, true, true, true, true, true, true, false, false, false] (fun s_ => [(45, s_.1), (48, s_.2.1), (51, s_.2.2.1), (52, .tuple #[.agg #[.string Kk, s_.2.2.2], .int .i64 Kp]), (42, .tuple #[.agg #[.string Kk, s_.2.2.2], .int .i64 Kp]), (53, .agg #[.string Kk, s_.2.2.2]), (54, .int .i64 Kp)]) (fun s_ w' => (w'.cell? ⟨Gb, 0, none⟩ = some (.string Gg) ∧ w'.cell? ⟨Gb, 1, none⟩ = some (.slice Gm Gh.length Gn) ∧ w'.cell? ⟨Gc, 0, none⟩ = some (.string Gt) ∧ w'.cell? ⟨Gc, 1, none⟩ = some (.slice Ao29 Gi.length co29) ∧ w'.cell? ⟨Gd, 0, none⟩ = some (.string Gu) ∧ w'.cell? ⟨Gd, 1, none⟩ = some (.slice Ao32 Gj.length co32)) ∧ (Kd.R k32 32 w' w.heap.size (fun k_ => some k_ ≠ (s_.2.2.2 : Value).ownBlock ∧ some k_ ≠ (.slice Ao29 Gi.length co29 : Value).ownBlock ∧ some k_ ≠ (.slice Ao32 Gj.length co32 : Value).ownBlock) s_.2.2.1 y143) ∧ (Kd.R k32 32 w' w.heap.size (fun k_ => some k_ ≠ (s_.2.2.1 : Value).ownBlock ∧ some k_ ≠ (.slice Ao29 Gi.length co29 : Value).ownBlock ∧ some k_ ≠ (.slice Ao32 Gj.length co32 : Value).ownBlock) s_.2.2.2 Ko) ∧ (Kd.R k32 32 w' w.heap.size (fun k_ => some k_ ≠ (s_.2.2.1 : Value).ownBlock ∧ some k_ ≠ (s_.2.2.2 : Value).ownBlock ∧ some k_ ≠ (.slice Ao32 Gj.length co32 : Value).ownBlock) (.slice Ao29 Gi.length co29) Gi) ∧ (Kd.R k32 32 w' w.heap.size (fun k_ => some k_ ≠ (s_.2.2.1 : Value).ownBlock ∧ some k_ ≠ (s_.2.2.2 : Value).ownBlock ∧ some k_ ≠ (.slice Ao29 Gi.length co29 : Value).ownBlock) (.slice Ao32 Gj.length co32) Gj) ∧ (w'.heap[Gb]? = some (.cells #[.string Gg, .slice Gm Gh.length Gn] 25 (0, 0))) ∧ (w'.heap[Gc]? = some (.cells #[.string Gt, .slice Ao29 Gi.length co29] 25 (0, 0))) ∧ (w'.heap[Gd]? = some (.cells #[.string Gu, .slice Ao32 Gj.length co32] 25 (0, 0))) ∧ (Below w.heap.size w w')) ?_ ?_
           rotate_left
           ·intro hJ2_5_8_9
            refine join_ (σ := Value × Value × Value × Nat) 6 #[true, true, true, true, true, true, true, true, true, false, false, false, false, true, false, false] (fun s_ => [(45, s_.1), (48, s_.2.1), (51, s_.2.2.1), (7, .pointer (some ⟨s_.2.2.2, 0, none⟩))]) (fun s_ w' => (w'.cell? ⟨Gb, 0, none⟩ = some (.string Gg) ∧ w'.cell? ⟨Gb, 1, none⟩ = some (.slice Gm Gh.length Gn) ∧ w'.cell? ⟨Gc, 0, none⟩ = some (.string Gt) ∧ w'.cell? ⟨Gc, 1, none⟩ = some (.slice Ao29 Gi.length co29) ∧ w'.cell? ⟨Gd, 0, none⟩ = some (.string Gu) ∧ w'.cell? ⟨Gd, 1, none⟩ = some (.slice Ao32 Gj.length co32)) ∧ (Kd.R k32 32 w' w.heap.size (fun k_ => some k_ ≠ (.slice Ao29 Gi.length co29 : Value).ownBlock ∧ some k_ ≠ (.slice Ao32 Gj.length co32 : Value).ownBlock) s_.2.2.1 y143) ∧ (Kd.R k32 32 w' w.heap.size (fun k_ => some k_ ≠ (s_.2.2.1 : Value).ownBlock ∧ some k_ ≠ (.slice Ao32 Gj.length co32 : Value).ownBlock) (.slice Ao29 Gi.length co29) Gi) ∧ (Kd.R k32 32 w' w.heap.size (fun k_ => some k_ ≠ (s_.2.2.1 : Value).ownBlock ∧ some k_ ≠ (.slice Ao29 Gi.length co29 : Value).ownBlock) (.slice Ao32 Gj.length co32) Gj) ∧ (w'.heap[Gb]? = some (.cells #[.string Gg, .slice Gm Gh.length Gn] 25 (0, 0))) ∧ (w'.heap[Gc]? = some (.cells #[.string Gt, .slice Ao29 Gi.length co29] 25 (0, 0))) ∧ (w'.heap[Gd]? = some (.cells #[.string Gu, .slice Ao32 Gj.length co32] 25 (0, 0))) ∧ (w'.heap[s_.2.2.2]? = some (.cells #[.string (⟨#[]⟩ : ByteArray), .slice none 0 0] 25 (0, 0))) ∧ (w.heap.size ≤ s_.2.2.2) ∧ (w.heap.size ≤ s_.2.2.2) ∧ (Gb ≠ s_.2.2.2) ∧ (s_.2.2.2 ≠ Gb) ∧ (Gc ≠ s_.2.2.2) ∧ (s_.2.2.2 ≠ Gc) ∧ (Gd ≠ s_.2.2.2) ∧ (s_.2.2.2 ≠ Gd) ∧ (Below w.heap.size w w')) ?_ ?_
            rotate_left
            ·intro hJ2_5_8_13
             refine join_ (σ := Value × Value × Value) 7 #[true, true, true, true, true, true, true, true, true, false, false, false, false, false, false, false] (fun s_ => [(45, s_.1), (48, s_.2.1), (51, s_.2.2)]) (fun s_ w' => (w'.cell? ⟨Gb, 0, none⟩ = some (.string Gg) ∧ w'.cell? ⟨Gb, 1, none⟩ = some (.slice Gm Gh.length Gn) ∧ w'.cell? ⟨Gc, 0, none⟩ = some (.string Gt) ∧ w'.cell? ⟨Gc, 1, none⟩ = some (.slice Ao29 Gi.length co29) ∧ w'.cell? ⟨Gd, 0, none⟩ = some (.string Gu) ∧ w'.cell? ⟨Gd, 1, none⟩ = some (.slice Ao32 Gj.length co32)) ∧ (Kd.R k32 32 w' w.heap.size (fun k_ => some k_ ≠ (.slice Ao29 Gi.length co29 : Value).ownBlock ∧ some k_ ≠ (.slice Ao32 Gj.length co32 : Value).ownBlock) s_.2.2 y143) ∧ (Kd.R k32 32 w' w.heap.size (fun k_ => some k_ ≠ (s_.2.2 : Value).ownBlock ∧ some k_ ≠ (.slice Ao32 Gj.length co32 : Value).ownBlock) (.slice Ao29 Gi.length co29) Gi) ∧ (Kd.R k32 32 w' w.heap.size (fun k_ => some k_ ≠ (s_.2.2 : Value).ownBlock ∧ some k_ ≠ (.slice Ao29 Gi.length co29 : Value).ownBlock) (.slice Ao32 Gj.length co32) Gj) ∧ (w'.heap[Gb]? = some (.cells #[.string Gg, .slice Gm Gh.length Gn] 25 (0, 0))) ∧ (w'.heap[Gc]? = some (.cells #[.string Gt, .slice Ao29 Gi.length co29] 25 (0, 0))) ∧ (w'.heap[Gd]? = some (.cells #[.string Gu, .slice Ao32 Gj.length co32] 25 (0, 0))) ∧ (Below w.heap.size w w')) ?_ ?_
             rotate_left
             ·intro hJ2_5_8
              refine join_ (σ := Value × Value × Nat) 7 #[true, true, true, true, true, true, true, true, false, false, false, false, false, true, false, false] (fun s_ => [(45, s_.1), (48, s_.2.1), (7, .pointer (some ⟨s_.2.2, 0, none⟩))]) (fun s_ w' => (w'.cell? ⟨Gb, 0, none⟩ = some (.string Gg) ∧ w'.cell? ⟨Gb, 1, none⟩ = some (.slice Gm Gh.length Gn) ∧ w'.cell? ⟨Gc, 0, none⟩ = some (.string Gt) ∧ w'.cell? ⟨Gc, 1, none⟩ = some (.slice Ao29 Gi.length co29) ∧ w'.cell? ⟨Gd, 0, none⟩ = some (.string Gu) ∧ w'.cell? ⟨Gd, 1, none⟩ = some (.slice Ao32 Gj.length co32)) ∧ (Kd.R k32 32 w' w.heap.size (fun k_ => some k_ ≠ (.slice Ao29 Gi.length co29 : Value).ownBlock ∧ some k_ ≠ (.slice Ao32 Gj.length co32 : Value).ownBlock) s_.2.1 y140) ∧ (Kd.R k32 32 w' w.heap.size (fun k_ => some k_ ≠ (s_.2.1 : Value).ownBlock ∧ some k_ ≠ (.slice Ao32 Gj.length co32 : Value).ownBlock) (.slice Ao29 Gi.length co29) Gi) ∧ (Kd.R k32 32 w' w.heap.size (fun k_ => some k_ ≠ (s_.2.1 : Value).ownBlock ∧ some k_ ≠ (.slice Ao29 Gi.length co29 : Value).ownBlock) (.slice Ao32 Gj.length co32) Gj) ∧ (w'.heap[Gb]? = some (.cells #[.string Gg, .slice Gm Gh.length Gn] 25 (0, 0))) ∧ (w'.heap[Gc]? = some (.cells #[.string Gt, .slice Ao29 Gi.length co29] 25 (0, 0))) ∧ (w'.heap[Gd]? = some (.cells #[.string Gu, .slice Ao32 Gj.length co32] 25 (0, 0))) ∧ (w'.heap[s_.2.2]? = some (.cells #[.string (⟨#[]⟩ : ByteArray), .slice none 0 0] 25 (0, 0))) ∧ (w.heap.size ≤ s_.2.2) ∧ (w.heap.size ≤ s_.2.2) ∧ (Gb ≠ s_.2.2) ∧ (s_.2.2 ≠ Gb) ∧ (Gc ≠ s_.2.2) ∧ (s_.2.2 ≠ Gc) ∧ (Gd ≠ s_.2.2) ∧ (s_.2.2 ≠ Gd) ∧ (Below w.heap.size w w')) ?_ ?_
              rotate_left
              ·intro hJ2_5_13
               refine join_ (σ := Value × Value) 8 #[true, true, true, true, true, true, true, true, false, false, false, false, false, false, false, false] (fun s_ => [(45, s_.1), (48, s_.2)]) (fun s_ w' => (w'.cell? ⟨Gb, 0, none⟩ = some (.string Gg) ∧ w'.cell? ⟨Gb, 1, none⟩ = some (.slice Gm Gh.length Gn) ∧ w'.cell? ⟨Gc, 0, none⟩ = some (.string Gt) ∧ w'.cell? ⟨Gc, 1, none⟩ = some (.slice Ao29 Gi.length co29) ∧ w'.cell? ⟨Gd, 0, none⟩ = some (.string Gu) ∧ w'.cell? ⟨Gd, 1, none⟩ = some (.slice Ao32 Gj.length co32)) ∧ (Kd.R k32 32 w' w.heap.size (fun k_ => some k_ ≠ (.slice Ao29 Gi.length co29 : Value).ownBlock ∧ some k_ ≠ (.slice Ao32 Gj.length co32 : Value).ownBlock) s_.2 y140) ∧ (Kd.R k32 32 w' w.heap.size (fun k_ => some k_ ≠ (s_.2 : Value).ownBlock ∧ some k_ ≠ (.slice Ao32 Gj.length co32 : Value).ownBlock) (.slice Ao29 Gi.length co29) Gi) ∧ (Kd.R k32 32 w' w.heap.size (fun k_ => some k_ ≠ (s_.2 : Value).ownBlock ∧ some k_ ≠ (.slice Ao29 Gi.length co29 : Value).ownBlock) (.slice Ao32 Gj.length co32) Gj) ∧ (w'.heap[Gb]? = some (.cells #[.string Gg, .slice Gm Gh.length Gn] 25 (0, 0))) ∧ (w'.heap[Gc]? = some (.cells #[.string Gt, .slice Ao29 Gi.length co29] 25 (0, 0))) ∧ (w'.heap[Gd]? = some (.cells #[.string Gu, .slice Ao32 Gj.length co32] 25 (0, 0))) ∧ (Below w.heap.size w w')) ?_ ?_
               rotate_left
               ·intro hJ2_5
                refine join_ (σ := Value × Nat) 8 #[true, true, true, true, true, false, true, true, false, false, false, false, false, true, false, false] (fun s_ => [(45, s_.1), (7, .pointer (some ⟨s_.2, 0, none⟩))]) (fun s_ w' => (w'.cell? ⟨Gb, 0, none⟩ = some (.string Gg) ∧ w'.cell? ⟨Gb, 1, none⟩ = some (.slice Gm Gh.length Gn) ∧ w'.cell? ⟨Gc, 0, none⟩ = some (.string Gt) ∧ w'.cell? ⟨Gc, 1, none⟩ = some (.slice Ao29 Gi.length co29) ∧ w'.cell? ⟨Gd, 0, none⟩ = some (.string Gu) ∧ w'.cell? ⟨Gd, 1, none⟩ = some (.slice Ao32 Gj.length co32)) ∧ (Kd.R k32 32 w' w.heap.size (fun k_ => some k_ ≠ (.slice Ao29 Gi.length co29 : Value).ownBlock ∧ some k_ ≠ (.slice Ao32 Gj.length co32 : Value).ownBlock) s_.1 y137) ∧ (Kd.R k32 32 w' w.heap.size (fun k_ => some k_ ≠ (s_.1 : Value).ownBlock ∧ some k_ ≠ (.slice Ao32 Gj.length co32 : Value).ownBlock) (.slice Ao29 Gi.length co29) Gi) ∧ (Kd.R k32 32 w' w.heap.size (fun k_ => some k_ ≠ (s_.1 : Value).ownBlock ∧ some k_ ≠ (.slice Ao29 Gi.length co29 : Value).ownBlock) (.slice Ao32 Gj.length co32) Gj) ∧ (w'.heap[Gb]? = some (.cells #[.string Gg, .slice Gm Gh.length Gn] 25 (0, 0))) ∧ (w'.heap[Gc]? = some (.cells #[.string Gt, .slice Ao29 Gi.length co29] 25 (0, 0))) ∧ (w'.heap[Gd]? = some (.cells #[.string Gu, .slice Ao32 Gj.length co32] 25 (0, 0))) ∧ (w'.heap[s_.2]? = some (.cells #[.string (⟨#[]⟩ : ByteArray), .slice none 0 0] 25 (0, 0))) ∧ (w.heap.size ≤ s_.2) ∧ (w.heap.size ≤ s_.2) ∧ (Gb ≠ s_.2) ∧ (s_.2 ≠ Gb) ∧ (Gc ≠ s_.2) ∧ (s_.2 ≠ Gc) ∧ (Gd ≠ s_.2) ∧ (s_.2 ≠ Gd) ∧ (Below w.heap.size w w')) ?_ ?_
                rotate_left
                ·intro hJ2_13
                 refine join_ (σ := Value) 9 #[true, true, true, true, true, false, true, true, false, false, false, false, false, false, false, false] (fun s_ => [(45, s_)]) (fun s_ w' => (w'.cell? ⟨Gb, 0, none⟩ = some (.string Gg) ∧ w'.cell? ⟨Gb, 1, none⟩ = some (.slice Gm Gh.length Gn) ∧ w'.cell? ⟨Gc, 0, none⟩ = some (.string Gt) ∧ w'.cell? ⟨Gc, 1, none⟩ = some (.slice Ao29 Gi.length co29) ∧ w'.cell? ⟨Gd, 0, none⟩ = some (.string Gu) ∧ w'.cell? ⟨Gd, 1, none⟩ = some (.slice Ao32 Gj.length co32)) ∧ (Kd.R k32 32 w' w.heap.size (fun k_ => some k_ ≠ (.slice Ao29 Gi.length co29 : Value).ownBlock ∧ some k_ ≠ (.slice Ao32 Gj.length co32 : Value).ownBlock) s_ y137) ∧ (Kd.R k32 32 w' w.heap.size (fun k_ => some k_ ≠ (s_ : Value).ownBlock ∧ some k_ ≠ (.slice Ao32 Gj.length co32 : Value).ownBlock) (.slice Ao29 Gi.length co29) Gi) ∧ (Kd.R k32 32 w' w.heap.size (fun k_ => some k_ ≠ (s_ : Value).ownBlock ∧ some k_ ≠ (.slice Ao29 Gi.length co29 : Value).ownBlock) (.slice Ao32 Gj.length co32) Gj) ∧ (w'.heap[Gb]? = some (.cells #[.string Gg, .slice Gm Gh.length Gn] 25 (0, 0))) ∧ (w'.heap[Gc]? = some (.cells #[.string Gt, .slice Ao29 Gi.length co29] 25 (0, 0))) ∧ (w'.heap[Gd]? = some (.cells #[.string Gu, .slice Ao32 Gj.length co32] 25 (0, 0))) ∧ (Below w.heap.size w w')) ?_ ?_
                 rotate_left
                 ·intro hJ2
                  refine join_ (σ := Nat) 9 #[true, true, false, true, true, false, true, true, false, false, false, false, false, true, false, false] (fun s_ => [(7, .pointer (some ⟨s_, 0, none⟩))]) (fun s_ w' => (w'.cell? ⟨Gb, 0, none⟩ = some (.string Gg) ∧ w'.cell? ⟨Gb, 1, none⟩ = some (.slice Gm Gh.length Gn) ∧ w'.cell? ⟨Gc, 0, none⟩ = some (.string Gt) ∧ w'.cell? ⟨Gc, 1, none⟩ = some (.slice Ao29 Gi.length co29) ∧ w'.cell? ⟨Gd, 0, none⟩ = some (.string Gu) ∧ w'.cell? ⟨Gd, 1, none⟩ = some (.slice Ao32 Gj.length co32)) ∧ (Kd.R k32 32 w' w.heap.size (fun k_ => some k_ ≠ (.slice Ao32 Gj.length co32 : Value).ownBlock) (.slice Ao29 Gi.length co29) Gi) ∧ (Kd.R k32 32 w' w.heap.size (fun k_ => some k_ ≠ (.slice Ao29 Gi.length co29 : Value).ownBlock) (.slice Ao32 Gj.length co32) Gj) ∧ (w'.heap[Gb]? = some (.cells #[.string Gg, .slice Gm Gh.length Gn] 25 (0, 0))) ∧ (w'.heap[Gc]? = some (.cells #[.string Gt, .slice Ao29 Gi.length co29] 25 (0, 0))) ∧ (w'.heap[Gd]? = some (.cells #[.string Gu, .slice Ao32 Gj.length co32] 25 (0, 0))) ∧ (w'.heap[s_]? = some (.cells #[.string (⟨#[]⟩ : ByteArray), .slice none 0 0] 25 (0, 0))) ∧ (w.heap.size ≤ s_) ∧ (w.heap.size ≤ s_) ∧ (Gb ≠ s_) ∧ (s_ ≠ Gb) ∧ (Gc ≠ s_) ∧ (s_ ≠ Gc) ∧ (Gd ≠ s_) ∧ (s_ ≠ Gd) ∧ (Below w.heap.size w w')) ?_ ?_
                  rotate_left
                  ·intro hJ13
                   refine two_ (i := 2) (j := 13) (Ni := some 45) (Nj := some 7) #[true, true, true, true, true, false, true, true, false, false, false, false, false, false, false, false] #[true, true, false, true, true, false, true, true, false, false, false, false, false, true, false, false] rfl rfl rfl rfl (two_of HT_.out (by kernel_rfl)) (by decide) (by decide) (fun K hK => ?_) (fun K hK => ?_)
                   ·skip
                    refine Kd.R_lit_step k32 _ 32 ?hg (N := 45) ?hd (xs := ([] : List (S32))) (inner := []) (ok := fun _ => True) (okp := fun _ => True) ?hr ?hp (fun _ hk => hk) trivial (Below.refl _ _) (Nat.le_refl _) (by simp) ?_; (case hd => rfl); (case hg => rfl); (case hr => first | (go_simp; done) | (go_simp; rfl)); (case hp => exact (Reps.none _ _))
                    intro v138 w59 ho60 hb hg_ hnew_
                    clear hg_ hnew_
                    (first | rw [← Ny137.out] at ho60 | (simp only [Int.reduceToNat] at ho60; rw [← Ny137.out] at ho60))
                    have n0_ := am' (Kd.R_elder' (by (with_reducible repeat (first | apply rA' | apply rN' | apply rD')); exact Gk.out) (Kd.R_base ho60) hb)
                    have n1_ := am' (Kd.R_elder' (by (with_reducible repeat (first | apply rA' | apply rN' | apply rD')); exact Gl.out) (Kd.R_base ho60) hb)
                    have n2_ := am' (Kd.R_lower (Kd.R_new' (Kd.R_new' ho60 (Kd.R_lt (by (with_reducible repeat (first | apply rA' | apply rN' | apply rD')); exact Gk.out))) (Kd.R_lt (by (with_reducible repeat (first | apply rA' | apply rN' | apply rD')); exact Gl.out))) (pz' (by repeat (first | (with_reducible first | exact HB.out | apply pA' | apply pN' | apply pD' | refine pS' ?_ Gp.out | refine pS' ?_ Gr.out | refine pS' ?_ Gs.out) | exact HB.out))))
                    have n3_ := am' (bB' (g := Gb) (o := .cells #[.string Gg, .slice Gm Gh.length Gn] 25 (0, 0)) (by (with_reducible repeat (first | refine bN' ?_ _ | refine bD' ?_ | refine bA' ?_ _)); exact Ga.out) hb)
                    have n4_ := am' (bB' (g := Gc) (o := .cells #[.string Gt, .slice Ao29 Gi.length co29] 25 (0, 0)) (by (with_reducible repeat (first | refine bN' ?_ _ | refine bD' ?_ | refine bA' ?_ _)); exact Gf.out) hb)
                    have n5_ := am' (bB' (g := Gd) (o := .cells #[.string Gu, .slice Ao32 Gj.length co32] 25 (0, 0)) (by (with_reducible repeat (first | refine bN' ?_ _ | refine bD' ?_ | refine bA' ?_ _)); exact Ge.out) hb)
                    have n6_ := am' (below_step (by repeat (first | (with_reducible first | exact HB.out | apply pA' | apply pN' | apply pD' | refine pS' ?_ Gp.out | refine pS' ?_ Gr.out | refine pS' ?_ Gs.out) | exact HB.out)) hb)
                    clear Gk
                    clear Gl
                    clear Ga
                    clear Gf
                    clear Ge
                    clear HB
                    have Gk := n0_
                    have Gl := n1_
                    have HO139 := n2_
                    have Ga := n3_
                    have Gf := n4_
                    have Ge := n5_
                    have HB := n6_
                    clear n0_ n1_ n2_ n3_ n4_ n5_ n6_
                    clear hb ho60
                    refine hK.out _ _ ⟨(bC' Ga.out 0).trans rfl, (bC' Ga.out 1).trans rfl, (bC' Gf.out 0).trans rfl, (bC' Gf.out 1).trans rfl, (bC' Ge.out 0).trans rfl, (bC' Ge.out 1).trans rfl⟩ (fun hHeld => ?_)
                    clear hK K
                    refine norm_ (a' := ?_) ?_ ?_
                    rotate_left
                    ·show Act.put _ (some 45) _ = _
                     simp only [Act.put, sa', sz', ss', i64_w, i32_w]
                     rfl
                    exact norm_ (by first | (simp only [putAll, Act.put, sa', sz', ss']; done) | (simp only [putAll, Act.put, sa', sz', ss']; rfl)) (hJ2 (v138) _ ⟨hHeld, (by (with_reducible repeat (first | apply rA' | apply rN' | apply rD')); exact rM' HO139.out (fun _ hk => ⟨hk.1.2, hk.2⟩)), (by (with_reducible repeat (first | apply rA' | apply rN' | apply rD')); exact rM' Gk.out (fun _ hk => ⟨hk.2, hk.1⟩)), (by (with_reducible repeat (first | apply rA' | apply rN' | apply rD')); exact rM' Gl.out (fun _ hk => ⟨hk.2, hk.1⟩)), (by (with_reducible repeat (first | refine bN' ?_ _ | refine bD' ?_ | refine bA' ?_ _)); exact Ga.out), (by (with_reducible repeat (first | refine bN' ?_ _ | refine bD' ?_ | refine bA' ?_ _)); exact Gf.out), (by (with_reducible repeat (first | refine bN' ?_ _ | refine bD' ?_ | refine bA' ?_ _)); exact Ge.out), (by repeat (first | (with_reducible first | exact HB.out | apply pA' | apply pN' | apply pD' | refine pS' ?_ Gp.out | refine pS' ?_ Gr.out | refine pS' ?_ Gs.out) | exact HB.out))⟩)
                   ·skip
                    refine box_step ?hg (N := 7) ?hd (cs := #[.string (⟨#[]⟩ : ByteArray), .slice none 0 0]) (t := 25) ?hr ?_; (case hd => rfl); (case hg => rfl); (case hr => first | (go_simp; done) | (go_simp; rfl))
                    intro Gq hg w59 hbox hb
                    have n0_ := am' (rB' (by (with_reducible repeat (first | apply rA' | apply rN' | apply rD')); exact Gk.out) hb)
                    have n1_ := am' (rB' (by (with_reducible repeat (first | apply rA' | apply rN' | apply rD')); exact Gl.out) hb)
                    have n2_ := am' (bB' (g := Gb) (o := .cells #[.string Gg, .slice Gm Gh.length Gn] 25 (0, 0)) (by (with_reducible repeat (first | refine bN' ?_ _ | refine bD' ?_ | refine bA' ?_ _)); exact Ga.out) hb)
                    have n3_ := am' (bB' (g := Gc) (o := .cells #[.string Gt, .slice Ao29 Gi.length co29] 25 (0, 0)) (by (with_reducible repeat (first | refine bN' ?_ _ | refine bD' ?_ | refine bA' ?_ _)); exact Gf.out) hb)
                    have n4_ := am' (bB' (g := Gd) (o := .cells #[.string Gu, .slice Ao32 Gj.length co32] 25 (0, 0)) (by (with_reducible repeat (first | refine bN' ?_ _ | refine bD' ?_ | refine bA' ?_ _)); exact Ge.out) hb)
                    have n5_ := am' (below_step (by repeat (first | (with_reducible first | exact HB.out | apply pA' | apply pN' | apply pD' | refine pS' ?_ Gp.out | refine pS' ?_ Gr.out | refine pS' ?_ Gs.out) | exact HB.out)) hb)
                    have n6_ := am' (hbox)
                    have n7_ := am' ((by rw [hg]; exact (pz' (by repeat (first | (with_reducible first | exact HB.out | apply pA' | apply pN' | apply pD' | refine pS' ?_ Gp.out | refine pS' ?_ Gr.out | refine pS' ?_ Gs.out) | exact HB.out))) : w.heap.size ≤ Gq))
                    have n8_ := am' ((by rw [hg]; exact (pz' (by repeat (first | (with_reducible first | exact HB.out | apply pA' | apply pN' | apply pD' | refine pS' ?_ Gp.out | refine pS' ?_ Gr.out | refine pS' ?_ Gs.out) | exact HB.out))) : w.heap.size ≤ Gq))
                    have n9_ := am' ((by rw [hg]; exact Nat.ne_of_lt (bL' (g := Gb) (o := .cells #[.string Gg, .slice Gm Gh.length Gn] 25 (0, 0)) (by (with_reducible repeat (first | refine bN' ?_ _ | refine bD' ?_ | refine bA' ?_ _)); exact Ga.out)) : Gb ≠ Gq))
                    have n10_ := am' ((by rw [hg]; exact Nat.ne_of_gt (bL' (g := Gb) (o := .cells #[.string Gg, .slice Gm Gh.length Gn] 25 (0, 0)) (by (with_reducible repeat (first | refine bN' ?_ _ | refine bD' ?_ | refine bA' ?_ _)); exact Ga.out)) : Gq ≠ Gb))
                    have n11_ := am' ((by rw [hg]; exact Nat.ne_of_lt (bL' (g := Gc) (o := .cells #[.string Gt, .slice Ao29 Gi.length co29] 25 (0, 0)) (by (with_reducible repeat (first | refine bN' ?_ _ | refine bD' ?_ | refine bA' ?_ _)); exact Gf.out)) : Gc ≠ Gq))
                    have n12_ := am' ((by rw [hg]; exact Nat.ne_of_gt (bL' (g := Gc) (o := .cells #[.string Gt, .slice Ao29 Gi.length co29] 25 (0, 0)) (by (with_reducible repeat (first | refine bN' ?_ _ | refine bD' ?_ | refine bA' ?_ _)); exact Gf.out)) : Gq ≠ Gc))
                    have n13_ := am' ((by rw [hg]; exact Nat.ne_of_lt (bL' (g := Gd) (o := .cells #[.string Gu, .slice Ao32 Gj.length co32] 25 (0, 0)) (by (with_reducible repeat (first | refine bN' ?_ _ | refine bD' ?_ | refine bA' ?_ _)); exact Ge.out)) : Gd ≠ Gq))
                    have n14_ := am' ((by rw [hg]; exact Nat.ne_of_gt (bL' (g := Gd) (o := .cells #[.string Gu, .slice Ao32 Gj.length co32] 25 (0, 0)) (by (with_reducible repeat (first | refine bN' ?_ _ | refine bD' ?_ | refine bA' ?_ _)); exact Ge.out)) : Gq ≠ Gd))
                    clear Gk
                    clear Gl
                    clear Ga
                    clear Gf
                    clear Ge
                    clear HB
                    have Gk := n0_
                    have Gl := n1_
                    have Ga := n2_
                    have Gf := n3_
                    have Ge := n4_
                    have HB := n5_
                    have Kc := n6_
                    have GW151 := n7_
                    have Kj := n8_
                    have Gy := n9_
                    have Kg := n10_
                    have Ka := n11_
                    have Kh := n12_
                    have Gx := n13_
                    have Ki := n14_
                    clear n0_ n1_ n2_ n3_ n4_ n5_ n6_ n7_ n8_ n9_ n10_ n11_ n12_ n13_ n14_
                    clear hb hbox hg
                    refine hK.out _ _ ⟨(bC' Ga.out 0).trans rfl, (bC' Ga.out 1).trans rfl, (bC' Gf.out 0).trans rfl, (bC' Gf.out 1).trans rfl, (bC' Ge.out 0).trans rfl, (bC' Ge.out 1).trans rfl⟩ (fun hHeld => ?_)
                    clear hK K
                    refine norm_ (a' := ?_) ?_ ?_
                    rotate_left
                    ·show Act.put _ (some 7) _ = _
                     simp only [Act.put, sa', sz', ss', i64_w, i32_w]
                     rfl
                    exact norm_ (by first | (simp only [putAll, Act.put, sa', sz', ss']; done) | (simp only [putAll, Act.put, sa', sz', ss']; rfl)) (hJ13 (Gq) _ ⟨hHeld, (by (with_reducible repeat (first | apply rA' | apply rN' | apply rD')); exact Gk.out), (by (with_reducible repeat (first | apply rA' | apply rN' | apply rD')); exact Gl.out), (by (with_reducible repeat (first | refine bN' ?_ _ | refine bD' ?_ | refine bA' ?_ _)); exact Ga.out), (by (with_reducible repeat (first | refine bN' ?_ _ | refine bD' ?_ | refine bA' ?_ _)); exact Gf.out), (by (with_reducible repeat (first | refine bN' ?_ _ | refine bD' ?_ | refine bA' ?_ _)); exact Ge.out), (by (with_reducible repeat (first | refine bN' ?_ _ | refine bD' ?_ | refine bA' ?_ _)); exact Kc.out), GW151.out, Kj.out, Gy.out, Kg.out, Ka.out, Kh.out, Gx.out, Ki.out, (by repeat (first | (with_reducible first | exact HB.out | apply pA' | apply pN' | apply pD' | refine pS' ?_ Gp.out | refine pS' ?_ Gr.out | refine pS' ?_ Gs.out | refine pS' ?_ Kj.out) | exact HB.out))⟩)
                  ·skip
                   rintro Gq w60 ⟨hS_, h0_, h1_, h2_, h3_, h4_, h5_, h6_, h7_, h8_, h9_, h10_, h11_, h12_, h13_, h14_⟩
                   have n0_ : Aside0 (Kd.R k32 32 w60 w.heap.size (fun k_ => some k_ ≠ (.slice Ao32 Gj.length co32 : Value).ownBlock) (.slice Ao29 Gi.length co29) Gi) := ⟨h0_⟩
                   have n1_ : Aside0 (Kd.R k32 32 w60 w.heap.size (fun k_ => some k_ ≠ (.slice Ao29 Gi.length co29 : Value).ownBlock) (.slice Ao32 Gj.length co32) Gj) := ⟨h1_⟩
                   have n2_ : Aside0 (w60.heap[Gb]? = some (.cells #[.string Gg, .slice Gm Gh.length Gn] 25 (0, 0))) := ⟨h2_⟩
                   have n3_ : Aside0 (w60.heap[Gc]? = some (.cells #[.string Gt, .slice Ao29 Gi.length co29] 25 (0, 0))) := ⟨h3_⟩
                   have n4_ : Aside0 (w60.heap[Gd]? = some (.cells #[.string Gu, .slice Ao32 Gj.length co32] 25 (0, 0))) := ⟨h4_⟩
                   have n5_ : Aside0 (w60.heap[Gq]? = some (.cells #[.string (⟨#[]⟩ : ByteArray), .slice none 0 0] 25 (0, 0))) := ⟨h5_⟩
                   have n6_ : Aside0 (w.heap.size ≤ Gq) := ⟨h6_⟩
                   have n7_ : Aside0 (w.heap.size ≤ Gq) := ⟨h7_⟩
                   have n8_ : Aside0 (Gb ≠ Gq) := ⟨h8_⟩
                   have n9_ : Aside0 (Gq ≠ Gb) := ⟨h9_⟩
                   have n10_ : Aside0 (Gc ≠ Gq) := ⟨h10_⟩
                   have n11_ : Aside0 (Gq ≠ Gc) := ⟨h11_⟩
                   have n12_ : Aside0 (Gd ≠ Gq) := ⟨h12_⟩
                   have n13_ : Aside0 (Gq ≠ Gd) := ⟨h13_⟩
                   have n14_ : Aside0 (Below w.heap.size w w60) := ⟨h14_⟩
                   clear Gk
                   clear Gl
                   clear Ga
                   clear Gf
                   clear Ge
                   clear HB
                   clear h0_ h1_ h2_ h3_ h4_ h5_ h6_ h7_ h8_ h9_ h10_ h11_ h12_ h13_ h14_
                   have Gk := n0_
                   have Gl := n1_
                   have Ga := n2_
                   have Gf := n3_
                   have Ge := n4_
                   have Kc := n5_
                   have GW151 := n6_
                   have Kj := n7_
                   have Gy := n8_
                   have Kg := n9_
                   have Ka := n10_
                   have Kh := n11_
                   have Gx := n12_
                   have Ki := n13_
                   have HB := n14_
                   clear n0_ n1_ n2_ n3_ n4_ n5_ n6_ n7_ n8_ n9_ n10_ n11_ n12_ n13_ n14_
                   have hHeld : w60.cell? ⟨Gb, 0, none⟩ = some (.string Gg) ∧ w60.cell? ⟨Gb, 1, none⟩ = some (.slice Gm Gh.length Gn) ∧ w60.cell? ⟨Gc, 0, none⟩ = some (.string Gt) ∧ w60.cell? ⟨Gc, 1, none⟩ = some (.slice Ao29 Gi.length co29) ∧ w60.cell? ⟨Gd, 0, none⟩ = some (.string Gu) ∧ w60.cell? ⟨Gd, 1, none⟩ = some (.slice Ao32 Gj.length co32) := hS_
                   refine norm_ (a' := ?_) ?_ ?_
                   rotate_left
                   ·simp only [putAll, Act.put, sa', sz', ss']
                    rfl
                   refine one_ (i := 2) (N := some 45) #[true, true, true, true, true, false, true, true, false, false, false, false, false, true, false, false] rfl rfl (one_of HT_.out (by kernel_rfl)) (by decide) (fun K hK => ?_)
                   refine Kd.R_lit_step k32 _ 32 ?hg (N := 45) ?hd (xs := ([] : List (S32))) (inner := []) (ok := fun _ => True) (okp := fun _ => True) ?hr ?hp (fun _ hk => hk) trivial (Below.refl _ _) (Nat.le_refl _) (by simp) ?_; (case hd => rfl); (case hg => rfl); (case hr => first | (go_simp; done) | (go_simp; rfl)); (case hp => exact (Reps.none _ _))
                   intro v138 w61 ho62 hb hg_ hnew_
                   clear hg_ hnew_
                   (first | rw [← Ny137.out] at ho62 | (simp only [Int.reduceToNat] at ho62; rw [← Ny137.out] at ho62))
                   have n0_ := am' (Kd.R_elder' (by (with_reducible repeat (first | apply rA' | apply rN' | apply rD')); exact Gk.out) (Kd.R_base ho62) hb)
                   have n1_ := am' (Kd.R_elder' (by (with_reducible repeat (first | apply rA' | apply rN' | apply rD')); exact Gl.out) (Kd.R_base ho62) hb)
                   have n2_ := am' (Kd.R_lower (Kd.R_new' (Kd.R_new' ho62 (Kd.R_lt (by (with_reducible repeat (first | apply rA' | apply rN' | apply rD')); exact Gk.out))) (Kd.R_lt (by (with_reducible repeat (first | apply rA' | apply rN' | apply rD')); exact Gl.out))) (pz' (by repeat (first | (with_reducible first | exact HB.out | apply pA' | apply pN' | apply pD' | refine pS' ?_ Gp.out | refine pS' ?_ Gr.out | refine pS' ?_ Gs.out | refine pS' ?_ Kj.out) | exact HB.out))))
                   have n3_ := am' (bB' (g := Gb) (o := .cells #[.string Gg, .slice Gm Gh.length Gn] 25 (0, 0)) (by (with_reducible repeat (first | refine bN' ?_ _ | refine bD' ?_ | refine bA' ?_ _)); exact Ga.out) hb)
                   have n4_ := am' (bB' (g := Gc) (o := .cells #[.string Gt, .slice Ao29 Gi.length co29] 25 (0, 0)) (by (with_reducible repeat (first | refine bN' ?_ _ | refine bD' ?_ | refine bA' ?_ _)); exact Gf.out) hb)
                   have n5_ := am' (bB' (g := Gd) (o := .cells #[.string Gu, .slice Ao32 Gj.length co32] 25 (0, 0)) (by (with_reducible repeat (first | refine bN' ?_ _ | refine bD' ?_ | refine bA' ?_ _)); exact Ge.out) hb)
                   have n6_ := am' (bB' (g := Gq) (o := .cells #[.string (⟨#[]⟩ : ByteArray), .slice none 0 0] 25 (0, 0)) (by (with_reducible repeat (first | refine bN' ?_ _ | refine bD' ?_ | refine bA' ?_ _)); exact Kc.out) hb)
                   have n7_ := am' (below_step (by repeat (first | (with_reducible first | exact HB.out | apply pA' | apply pN' | apply pD' | refine pS' ?_ Gp.out | refine pS' ?_ Gr.out | refine pS' ?_ Gs.out | refine pS' ?_ Kj.out) | exact HB.out)) hb)
                   clear Gk
                   clear Gl
                   clear Ga
                   clear Gf
                   clear Ge
                   clear Kc
                   clear HB
                   have Gk := n0_
                   have Gl := n1_
                   have HO139 := n2_
                   have Ga := n3_
                   have Gf := n4_
                   have Ge := n5_
                   have Kc := n6_
                   have HB := n7_
                   clear n0_ n1_ n2_ n3_ n4_ n5_ n6_ n7_
                   clear hb ho62
                   refine hK.out _ _ ⟨(bC' Ga.out 0).trans rfl, (bC' Ga.out 1).trans rfl, (bC' Gf.out 0).trans rfl, (bC' Gf.out 1).trans rfl, (bC' Ge.out 0).trans rfl, (bC' Ge.out 1).trans rfl⟩ (fun hHeld => ?_)
                   clear hK K
                   refine norm_ (a' := ?_) ?_ ?_
                   rotate_left
                   ·show Act.put _ (some 45) _ = _
                    simp only [Act.put, sa', sz', ss', i64_w, i32_w]
                    rfl
                   exact norm_ (by first | (simp only [putAll, Act.put, sa', sz', ss']; done) | (simp only [putAll, Act.put, sa', sz', ss']; rfl)) (hJ2_13 (v138, Gq) _ ⟨hHeld, (by (with_reducible repeat (first | apply rA' | apply rN' | apply rD')); exact rM' HO139.out (fun _ hk => ⟨hk.1.2, hk.2⟩)), (by (with_reducible repeat (first | apply rA' | apply rN' | apply rD')); exact rM' Gk.out (fun _ hk => ⟨hk.2, hk.1⟩)), (by (with_reducible repeat (first | apply rA' | apply rN' | apply rD')); exact rM' Gl.out (fun _ hk => ⟨hk.2, hk.1⟩)), (by (with_reducible repeat (first | refine bN' ?_ _ | refine bD' ?_ | refine bA' ?_ _)); exact Ga.out), (by (with_reducible repeat (first | refine bN' ?_ _ | refine bD' ?_ | refine bA' ?_ _)); exact Gf.out), (by (with_reducible repeat (first | refine bN' ?_ _ | refine bD' ?_ | refine bA' ?_ _)); exact Ge.out), (by (with_reducible repeat (first | refine bN' ?_ _ | refine bD' ?_ | refine bA' ?_ _)); exact Kc.out), GW151.out, Kj.out, Gy.out, Kg.out, Ka.out, Kh.out, Gx.out, Ki.out, (by repeat (first | (with_reducible first | exact HB.out | apply pA' | apply pN' | apply pD' | refine pS' ?_ Gp.out | refine pS' ?_ Gr.out | refine pS' ?_ Gs.out | refine pS' ?_ Kj.out) | exact HB.out))⟩)
                 ·skip
                  rintro v138 w61 ⟨hS_, h0_, h1_, h2_, h3_, h4_, h5_, h6_⟩
                  have n0_ : Aside0 (Kd.R k32 32 w61 w.heap.size (fun k_ => some k_ ≠ (.slice Ao29 Gi.length co29 : Value).ownBlock ∧ some k_ ≠ (.slice Ao32 Gj.length co32 : Value).ownBlock) v138 y137) := ⟨h0_⟩
                  have n1_ : Aside0 (Kd.R k32 32 w61 w.heap.size (fun k_ => some k_ ≠ (v138 : Value).ownBlock ∧ some k_ ≠ (.slice Ao32 Gj.length co32 : Value).ownBlock) (.slice Ao29 Gi.length co29) Gi) := ⟨h1_⟩
                  have n2_ : Aside0 (Kd.R k32 32 w61 w.heap.size (fun k_ => some k_ ≠ (v138 : Value).ownBlock ∧ some k_ ≠ (.slice Ao29 Gi.length co29 : Value).ownBlock) (.slice Ao32 Gj.length co32) Gj) := ⟨h2_⟩
                  have n3_ : Aside0 (w61.heap[Gb]? = some (.cells #[.string Gg, .slice Gm Gh.length Gn] 25 (0, 0))) := ⟨h3_⟩
                  have n4_ : Aside0 (w61.heap[Gc]? = some (.cells #[.string Gt, .slice Ao29 Gi.length co29] 25 (0, 0))) := ⟨h4_⟩
                  have n5_ : Aside0 (w61.heap[Gd]? = some (.cells #[.string Gu, .slice Ao32 Gj.length co32] 25 (0, 0))) := ⟨h5_⟩
                  have n6_ : Aside0 (Below w.heap.size w w61) := ⟨h6_⟩
                  clear Gk
                  clear Gl
                  clear Ga
                  clear Gf
                  clear Ge
                  clear HB
                  clear h0_ h1_ h2_ h3_ h4_ h5_ h6_
                  have HO139 := n0_
                  have Gk := n1_
                  have Gl := n2_
                  have Ga := n3_
                  have Gf := n4_
                  have Ge := n5_
                  have HB := n6_
                  clear n0_ n1_ n2_ n3_ n4_ n5_ n6_
                  have hHeld : w61.cell? ⟨Gb, 0, none⟩ = some (.string Gg) ∧ w61.cell? ⟨Gb, 1, none⟩ = some (.slice Gm Gh.length Gn) ∧ w61.cell? ⟨Gc, 0, none⟩ = some (.string Gt) ∧ w61.cell? ⟨Gc, 1, none⟩ = some (.slice Ao29 Gi.length co29) ∧ w61.cell? ⟨Gd, 0, none⟩ = some (.string Gu) ∧ w61.cell? ⟨Gd, 1, none⟩ = some (.slice Ao32 Gj.length co32) := hS_
                  refine norm_ (a' := ?_) ?_ ?_
                  rotate_left
                  ·simp only [putAll, Act.put, sa', sz', ss']
                   rfl
                  refine two_ (i := 5) (j := 13) (Ni := some 48) (Nj := some 7) #[true, true, true, true, true, true, true, true, false, false, false, false, false, false, false, false] #[true, true, true, true, true, false, true, true, false, false, false, false, false, true, false, false] rfl rfl rfl rfl (two_of HT_.out (by kernel_rfl)) (by decide) (by decide) (fun K hK => ?_) (fun K hK => ?_)
                  ·skip
                   refine Kd.R_append_rows_step k32 (w0 := w) w.heap.size (by rfl) (.tmp 45) (.tmp 47) 22 32 (.agg #[(.string ⟨#[]⟩), (.string ⟨#[]⟩)]) 32 rfl Try.underlying22 info32 rfl (by decide) (by omega) v138 y137 Gi _ _ _ (fun k_ => some k_ ≠ (.slice Ao29 Gi.length co29 : Value).ownBlock ∧ some k_ ≠ (.slice Ao32 Gj.length co32 : Value).ownBlock) (fun _ => False) rfl rfl ?aO ?aR (fun _ _ h => h) (fun _ h => h.elim) ?aF ?aB ?aS ?aL ?_
                   (case aR => repeat (first | exact (Kd.R_reads' Gk.out).2.2 | (with_reducible refine Kd.C_alloc ?_ _) | (with_reducible refine Kd.C_drewN ?_ _) | (with_reducible refine Kd.C_drew ?_)))
                   (case aB => exact (by repeat (first | (with_reducible first | exact HB.out | apply pA' | apply pN' | apply pD' | refine pS' ?_ Gp.out | refine pS' ?_ Gr.out | refine pS' ?_ Gs.out) | exact HB.out)))
                   (case aF => exact (fun k_ hk => ⟨Kd.fresh' (Kd.R_lt (by (with_reducible repeat (first | apply rA' | apply rN' | apply rD')); exact Gk.out)) k_ hk, Kd.fresh' (Kd.R_lt (by (with_reducible repeat (first | apply rA' | apply rN' | apply rD')); exact Gl.out)) k_ hk⟩))
                   (case aO => exact (by (with_reducible repeat (first | apply rA' | apply rN' | apply rD')); exact HO139.out))
                   (case aS => exact (pz' (by repeat (first | (with_reducible first | exact HB.out | apply pA' | apply pN' | apply pD' | refine pS' ?_ Gp.out | refine pS' ?_ Gr.out | refine pS' ?_ Gs.out) | exact HB.out))))
                   (case aL => have := LMc53.out; omega)
                   intro v141 w62 ho hb hg hat
                   rw [← Ny140.out] at ho
                   have n0_ := am' (Kd.R_after (ok := (fun k_ => some k_ ≠ (.slice Ao32 Gj.length co32 : Value).ownBlock)) (by (with_reducible repeat (first | apply rA' | apply rN' | apply rD')); exact rM' Gk.out (fun _ hk => ⟨hk.2, hk.1⟩)) hg hat)
                   have n1_ := am' (Kd.R_after (ok := (fun k_ => some k_ ≠ (.slice Ao29 Gi.length co29 : Value).ownBlock)) (by (with_reducible repeat (first | apply rA' | apply rN' | apply rD')); exact rM' Gl.out (fun _ hk => ⟨hk.2, hk.1⟩)) hg hat)
                   have n2_ := am' (bG' (g := Gb) (o := .cells #[.string Gg, .slice Gm Gh.length Gn] 25 (0, 0)) (by (with_reducible repeat (first | refine bN' ?_ _ | refine bD' ?_ | refine bA' ?_ _)); exact Ga.out) hg (Kd.R_ne HO139.out Ga.out (by decide)))
                   have n3_ := am' (bG' (g := Gc) (o := .cells #[.string Gt, .slice Ao29 Gi.length co29] 25 (0, 0)) (by (with_reducible repeat (first | refine bN' ?_ _ | refine bD' ?_ | refine bA' ?_ _)); exact Gf.out) hg (Kd.R_ne HO139.out Gf.out (by decide)))
                   have n4_ := am' (bG' (g := Gd) (o := .cells #[.string Gu, .slice Ao32 Gj.length co32] 25 (0, 0)) (by (with_reducible repeat (first | refine bN' ?_ _ | refine bD' ?_ | refine bA' ?_ _)); exact Ge.out) hg (Kd.R_ne HO139.out Ge.out (by decide)))
                   have n5_ := am' (hb)
                   have n6_ := am' (ho)
                   clear Gk
                   clear Gl
                   clear Ga
                   clear Gf
                   clear Ge
                   clear HB
                   clear HO139
                   have Gk := n0_
                   have Gl := n1_
                   have Ga := n2_
                   have Gf := n3_
                   have Ge := n4_
                   have HB := n5_
                   have HO142 := n6_
                   clear n0_ n1_ n2_ n3_ n4_ n5_ n6_
                   clear ho hb hg hat
                   refine hK.out _ _ ⟨(bC' Ga.out 0).trans rfl, (bC' Ga.out 1).trans rfl, (bC' Gf.out 0).trans rfl, (bC' Gf.out 1).trans rfl, (bC' Ge.out 0).trans rfl, (bC' Ge.out 1).trans rfl⟩ (fun hHeld => ?_)
                   clear hK K
                   refine norm_ (a' := ?_) ?_ ?_
                   rotate_left
                   ·show Act.put _ (some 48) _ = _
                    simp only [Act.put, sa', sz', ss', i64_w, i32_w]
                    rfl
                   exact norm_ (by first | (simp only [putAll, Act.put, sa', sz', ss']; done) | (simp only [putAll, Act.put, sa', sz', ss']; rfl)) (hJ2_5 (v138, v141) _ ⟨hHeld, (by (with_reducible repeat (first | apply rA' | apply rN' | apply rD')); exact HO142.out), (by (with_reducible repeat (first | apply rA' | apply rN' | apply rD')); exact rM' Gk.out (fun _ hk => ⟨hk.2, hk.1⟩)), (by (with_reducible repeat (first | apply rA' | apply rN' | apply rD')); exact rM' Gl.out (fun _ hk => ⟨hk.2, hk.1⟩)), (by (with_reducible repeat (first | refine bN' ?_ _ | refine bD' ?_ | refine bA' ?_ _)); exact Ga.out), (by (with_reducible repeat (first | refine bN' ?_ _ | refine bD' ?_ | refine bA' ?_ _)); exact Gf.out), (by (with_reducible repeat (first | refine bN' ?_ _ | refine bD' ?_ | refine bA' ?_ _)); exact Ge.out), (by repeat (first | (with_reducible first | exact HB.out | apply pA' | apply pN' | apply pD' | refine pS' ?_ Gp.out | refine pS' ?_ Gr.out | refine pS' ?_ Gs.out) | exact HB.out))⟩)
                  ·skip
                   refine box_step ?hg (N := 7) ?hd (cs := #[.string (⟨#[]⟩ : ByteArray), .slice none 0 0]) (t := 25) ?hr ?_; (case hd => rfl); (case hg => rfl); (case hr => first | (go_simp; done) | (go_simp; rfl))
                   intro Gq hg w62 hbox hb
                   have n0_ := am' (rB' (by (with_reducible repeat (first | apply rA' | apply rN' | apply rD')); exact Gk.out) hb)
                   have n1_ := am' (rB' (by (with_reducible repeat (first | apply rA' | apply rN' | apply rD')); exact Gl.out) hb)
                   have n2_ := am' (rB' (by (with_reducible repeat (first | apply rA' | apply rN' | apply rD')); exact HO139.out) hb)
                   have n3_ := am' (bB' (g := Gb) (o := .cells #[.string Gg, .slice Gm Gh.length Gn] 25 (0, 0)) (by (with_reducible repeat (first | refine bN' ?_ _ | refine bD' ?_ | refine bA' ?_ _)); exact Ga.out) hb)
                   have n4_ := am' (bB' (g := Gc) (o := .cells #[.string Gt, .slice Ao29 Gi.length co29] 25 (0, 0)) (by (with_reducible repeat (first | refine bN' ?_ _ | refine bD' ?_ | refine bA' ?_ _)); exact Gf.out) hb)
                   have n5_ := am' (bB' (g := Gd) (o := .cells #[.string Gu, .slice Ao32 Gj.length co32] 25 (0, 0)) (by (with_reducible repeat (first | refine bN' ?_ _ | refine bD' ?_ | refine bA' ?_ _)); exact Ge.out) hb)
                   have n6_ := am' (below_step (by repeat (first | (with_reducible first | exact HB.out | apply pA' | apply pN' | apply pD' | refine pS' ?_ Gp.out | refine pS' ?_ Gr.out | refine pS' ?_ Gs.out) | exact HB.out)) hb)
                   have n7_ := am' (hbox)
                   have n8_ := am' ((by rw [hg]; exact (pz' (by repeat (first | (with_reducible first | exact HB.out | apply pA' | apply pN' | apply pD' | refine pS' ?_ Gp.out | refine pS' ?_ Gr.out | refine pS' ?_ Gs.out) | exact HB.out))) : w.heap.size ≤ Gq))
                   have n9_ := am' ((by rw [hg]; exact (pz' (by repeat (first | (with_reducible first | exact HB.out | apply pA' | apply pN' | apply pD' | refine pS' ?_ Gp.out | refine pS' ?_ Gr.out | refine pS' ?_ Gs.out) | exact HB.out))) : w.heap.size ≤ Gq))
                   have n10_ := am' ((by rw [hg]; exact Nat.ne_of_lt (bL' (g := Gb) (o := .cells #[.string Gg, .slice Gm Gh.length Gn] 25 (0, 0)) (by (with_reducible repeat (first | refine bN' ?_ _ | refine bD' ?_ | refine bA' ?_ _)); exact Ga.out)) : Gb ≠ Gq))
                   have n11_ := am' ((by rw [hg]; exact Nat.ne_of_gt (bL' (g := Gb) (o := .cells #[.string Gg, .slice Gm Gh.length Gn] 25 (0, 0)) (by (with_reducible repeat (first | refine bN' ?_ _ | refine bD' ?_ | refine bA' ?_ _)); exact Ga.out)) : Gq ≠ Gb))
                   have n12_ := am' ((by rw [hg]; exact Nat.ne_of_lt (bL' (g := Gc) (o := .cells #[.string Gt, .slice Ao29 Gi.length co29] 25 (0, 0)) (by (with_reducible repeat (first | refine bN' ?_ _ | refine bD' ?_ | refine bA' ?_ _)); exact Gf.out)) : Gc ≠ Gq))
                   have n13_ := am' ((by rw [hg]; exact Nat.ne_of_gt (bL' (g := Gc) (o := .cells #[.string Gt, .slice Ao29 Gi.length co29] 25 (0, 0)) (by (with_reducible repeat (first | refine bN' ?_ _ | refine bD' ?_ | refine bA' ?_ _)); exact Gf.out)) : Gq ≠ Gc))
                   have n14_ := am' ((by rw [hg]; exact Nat.ne_of_lt (bL' (g := Gd) (o := .cells #[.string Gu, .slice Ao32 Gj.length co32] 25 (0, 0)) (by (with_reducible repeat (first | refine bN' ?_ _ | refine bD' ?_ | refine bA' ?_ _)); exact Ge.out)) : Gd ≠ Gq))
                   have n15_ := am' ((by rw [hg]; exact Nat.ne_of_gt (bL' (g := Gd) (o := .cells #[.string Gu, .slice Ao32 Gj.length co32] 25 (0, 0)) (by (with_reducible repeat (first | refine bN' ?_ _ | refine bD' ?_ | refine bA' ?_ _)); exact Ge.out)) : Gq ≠ Gd))
                   clear Gk
                   clear Gl
                   clear HO139
                   clear Ga
                   clear Gf
                   clear Ge
                   clear HB
                   have Gk := n0_
                   have Gl := n1_
                   have HO139 := n2_
                   have Ga := n3_
                   have Gf := n4_
                   have Ge := n5_
                   have HB := n6_
                   have Kc := n7_
                   have GW151 := n8_
                   have Kj := n9_
                   have Gy := n10_
                   have Kg := n11_
                   have Ka := n12_
                   have Kh := n13_
                   have Gx := n14_
                   have Ki := n15_
                   clear n0_ n1_ n2_ n3_ n4_ n5_ n6_ n7_ n8_ n9_ n10_ n11_ n12_ n13_ n14_ n15_
                   clear hb hbox hg
                   refine hK.out _ _ ⟨(bC' Ga.out 0).trans rfl, (bC' Ga.out 1).trans rfl, (bC' Gf.out 0).trans rfl, (bC' Gf.out 1).trans rfl, (bC' Ge.out 0).trans rfl, (bC' Ge.out 1).trans rfl⟩ (fun hHeld => ?_)
                   clear hK K
                   refine norm_ (a' := ?_) ?_ ?_
                   rotate_left
                   ·show Act.put _ (some 7) _ = _
                    simp only [Act.put, sa', sz', ss', i64_w, i32_w]
                    rfl
                   exact norm_ (by first | (simp only [putAll, Act.put, sa', sz', ss']; done) | (simp only [putAll, Act.put, sa', sz', ss']; rfl)) (hJ2_13 (v138, Gq) _ ⟨hHeld, (by (with_reducible repeat (first | apply rA' | apply rN' | apply rD')); exact HO139.out), (by (with_reducible repeat (first | apply rA' | apply rN' | apply rD')); exact Gk.out), (by (with_reducible repeat (first | apply rA' | apply rN' | apply rD')); exact Gl.out), (by (with_reducible repeat (first | refine bN' ?_ _ | refine bD' ?_ | refine bA' ?_ _)); exact Ga.out), (by (with_reducible repeat (first | refine bN' ?_ _ | refine bD' ?_ | refine bA' ?_ _)); exact Gf.out), (by (with_reducible repeat (first | refine bN' ?_ _ | refine bD' ?_ | refine bA' ?_ _)); exact Ge.out), (by (with_reducible repeat (first | refine bN' ?_ _ | refine bD' ?_ | refine bA' ?_ _)); exact Kc.out), GW151.out, Kj.out, Gy.out, Kg.out, Ka.out, Kh.out, Gx.out, Ki.out, (by repeat (first | (with_reducible first | exact HB.out | apply pA' | apply pN' | apply pD' | refine pS' ?_ Gp.out | refine pS' ?_ Gr.out | refine pS' ?_ Gs.out | refine pS' ?_ Kj.out) | exact HB.out))⟩)
                ·skip
                 rintro ⟨v138, Gq⟩ w62 ⟨hS_, h0_, h1_, h2_, h3_, h4_, h5_, h6_, h7_, h8_, h9_, h10_, h11_, h12_, h13_, h14_, h15_⟩
                 have n0_ : Aside0 (Kd.R k32 32 w62 w.heap.size (fun k_ => some k_ ≠ (.slice Ao29 Gi.length co29 : Value).ownBlock ∧ some k_ ≠ (.slice Ao32 Gj.length co32 : Value).ownBlock) v138 y137) := ⟨h0_⟩
                 have n1_ : Aside0 (Kd.R k32 32 w62 w.heap.size (fun k_ => some k_ ≠ (v138 : Value).ownBlock ∧ some k_ ≠ (.slice Ao32 Gj.length co32 : Value).ownBlock) (.slice Ao29 Gi.length co29) Gi) := ⟨h1_⟩
                 have n2_ : Aside0 (Kd.R k32 32 w62 w.heap.size (fun k_ => some k_ ≠ (v138 : Value).ownBlock ∧ some k_ ≠ (.slice Ao29 Gi.length co29 : Value).ownBlock) (.slice Ao32 Gj.length co32) Gj) := ⟨h2_⟩
                 have n3_ : Aside0 (w62.heap[Gb]? = some (.cells #[.string Gg, .slice Gm Gh.length Gn] 25 (0, 0))) := ⟨h3_⟩
                 have n4_ : Aside0 (w62.heap[Gc]? = some (.cells #[.string Gt, .slice Ao29 Gi.length co29] 25 (0, 0))) := ⟨h4_⟩
                 have n5_ : Aside0 (w62.heap[Gd]? = some (.cells #[.string Gu, .slice Ao32 Gj.length co32] 25 (0, 0))) := ⟨h5_⟩
                 have n6_ : Aside0 (w62.heap[Gq]? = some (.cells #[.string (⟨#[]⟩ : ByteArray), .slice none 0 0] 25 (0, 0))) := ⟨h6_⟩
                 have n7_ : Aside0 (w.heap.size ≤ Gq) := ⟨h7_⟩
                 have n8_ : Aside0 (w.heap.size ≤ Gq) := ⟨h8_⟩
                 have n9_ : Aside0 (Gb ≠ Gq) := ⟨h9_⟩
                 have n10_ : Aside0 (Gq ≠ Gb) := ⟨h10_⟩
                 have n11_ : Aside0 (Gc ≠ Gq) := ⟨h11_⟩
                 have n12_ : Aside0 (Gq ≠ Gc) := ⟨h12_⟩
                 have n13_ : Aside0 (Gd ≠ Gq) := ⟨h13_⟩
                 have n14_ : Aside0 (Gq ≠ Gd) := ⟨h14_⟩
                 have n15_ : Aside0 (Below w.heap.size w w62) := ⟨h15_⟩
                 clear Gk
                 clear Gl
                 clear Ga
                 clear Gf
                 clear Ge
                 clear HB
                 clear h0_ h1_ h2_ h3_ h4_ h5_ h6_ h7_ h8_ h9_ h10_ h11_ h12_ h13_ h14_ h15_
                 have HO139 := n0_
                 have Gk := n1_
                 have Gl := n2_
                 have Ga := n3_
                 have Gf := n4_
                 have Ge := n5_
                 have Kc := n6_
                 have GW151 := n7_
                 have Kj := n8_
                 have Gy := n9_
                 have Kg := n10_
                 have Ka := n11_
                 have Kh := n12_
                 have Gx := n13_
                 have Ki := n14_
                 have HB := n15_
                 clear n0_ n1_ n2_ n3_ n4_ n5_ n6_ n7_ n8_ n9_ n10_ n11_ n12_ n13_ n14_ n15_
                 have hHeld : w62.cell? ⟨Gb, 0, none⟩ = some (.string Gg) ∧ w62.cell? ⟨Gb, 1, none⟩ = some (.slice Gm Gh.length Gn) ∧ w62.cell? ⟨Gc, 0, none⟩ = some (.string Gt) ∧ w62.cell? ⟨Gc, 1, none⟩ = some (.slice Ao29 Gi.length co29) ∧ w62.cell? ⟨Gd, 0, none⟩ = some (.string Gu) ∧ w62.cell? ⟨Gd, 1, none⟩ = some (.slice Ao32 Gj.length co32) := hS_
                 refine norm_ (a' := ?_) ?_ ?_
                 rotate_left
                 ·simp only [putAll, Act.put, sa', sz', ss']
                  rfl
                 refine one_ (i := 5) (N := some 48) #[true, true, true, true, true, true, true, true, false, false, false, false, false, true, false, false] rfl rfl (one_of HT_.out (by kernel_rfl)) (by decide) (fun K hK => ?_)
                 refine Kd.R_append_rows_step k32 (w0 := w) w.heap.size (by rfl) (.tmp 45) (.tmp 47) 22 32 (.agg #[(.string ⟨#[]⟩), (.string ⟨#[]⟩)]) 32 rfl Try.underlying22 info32 rfl (by decide) (by omega) v138 y137 Gi _ _ _ (fun k_ => some k_ ≠ (.slice Ao29 Gi.length co29 : Value).ownBlock ∧ some k_ ≠ (.slice Ao32 Gj.length co32 : Value).ownBlock) (fun _ => False) rfl rfl ?aO ?aR (fun _ _ h => h) (fun _ h => h.elim) ?aF ?aB ?aS ?aL ?_
                 (case aR => repeat (first | exact (Kd.R_reads' Gk.out).2.2 | (with_reducible refine Kd.C_alloc ?_ _) | (with_reducible refine Kd.C_drewN ?_ _) | (with_reducible refine Kd.C_drew ?_)))
                 (case aB => exact (by repeat (first | (with_reducible first | exact HB.out | apply pA' | apply pN' | apply pD' | refine pS' ?_ Gp.out | refine pS' ?_ Gr.out | refine pS' ?_ Gs.out | refine pS' ?_ Kj.out) | exact HB.out)))
                 (case aF => exact (fun k_ hk => ⟨Kd.fresh' (Kd.R_lt (by (with_reducible repeat (first | apply rA' | apply rN' | apply rD')); exact Gk.out)) k_ hk, Kd.fresh' (Kd.R_lt (by (with_reducible repeat (first | apply rA' | apply rN' | apply rD')); exact Gl.out)) k_ hk⟩))
                 (case aO => exact (by (with_reducible repeat (first | apply rA' | apply rN' | apply rD')); exact HO139.out))
                 (case aS => exact (pz' (by repeat (first | (with_reducible first | exact HB.out | apply pA' | apply pN' | apply pD' | refine pS' ?_ Gp.out | refine pS' ?_ Gr.out | refine pS' ?_ Gs.out | refine pS' ?_ Kj.out) | exact HB.out))))
                 (case aL => have := LMc53.out; omega)
                 intro v141 w63 ho hb hg hat
                 rw [← Ny140.out] at ho
                 have n0_ := am' (Kd.R_after (ok := (fun k_ => some k_ ≠ (.slice Ao32 Gj.length co32 : Value).ownBlock)) (by (with_reducible repeat (first | apply rA' | apply rN' | apply rD')); exact rM' Gk.out (fun _ hk => ⟨hk.2, hk.1⟩)) hg hat)
                 have n1_ := am' (Kd.R_after (ok := (fun k_ => some k_ ≠ (.slice Ao29 Gi.length co29 : Value).ownBlock)) (by (with_reducible repeat (first | apply rA' | apply rN' | apply rD')); exact rM' Gl.out (fun _ hk => ⟨hk.2, hk.1⟩)) hg hat)
                 have n2_ := am' (bG' (g := Gb) (o := .cells #[.string Gg, .slice Gm Gh.length Gn] 25 (0, 0)) (by (with_reducible repeat (first | refine bN' ?_ _ | refine bD' ?_ | refine bA' ?_ _)); exact Ga.out) hg (Kd.R_ne HO139.out Ga.out (by decide)))
                 have n3_ := am' (bG' (g := Gc) (o := .cells #[.string Gt, .slice Ao29 Gi.length co29] 25 (0, 0)) (by (with_reducible repeat (first | refine bN' ?_ _ | refine bD' ?_ | refine bA' ?_ _)); exact Gf.out) hg (Kd.R_ne HO139.out Gf.out (by decide)))
                 have n4_ := am' (bG' (g := Gd) (o := .cells #[.string Gu, .slice Ao32 Gj.length co32] 25 (0, 0)) (by (with_reducible repeat (first | refine bN' ?_ _ | refine bD' ?_ | refine bA' ?_ _)); exact Ge.out) hg (Kd.R_ne HO139.out Ge.out (by decide)))
                 have n5_ := am' (bG' (g := Gq) (o := .cells #[.string (⟨#[]⟩ : ByteArray), .slice none 0 0] 25 (0, 0)) (by (with_reducible repeat (first | refine bN' ?_ _ | refine bD' ?_ | refine bA' ?_ _)); exact Kc.out) hg (Kd.R_ne HO139.out Kc.out (by decide)))
                 have n6_ := am' (hb)
                 have n7_ := am' (ho)
                 clear Gk
                 clear Gl
                 clear Ga
                 clear Gf
                 clear Ge
                 clear Kc
                 clear HB
                 clear HO139
                 have Gk := n0_
                 have Gl := n1_
                 have Ga := n2_
                 have Gf := n3_
                 have Ge := n4_
                 have Kc := n5_
                 have HB := n6_
                 have HO142 := n7_
                 clear n0_ n1_ n2_ n3_ n4_ n5_ n6_ n7_
                 clear ho hb hg hat
                 refine hK.out _ _ ⟨(bC' Ga.out 0).trans rfl, (bC' Ga.out 1).trans rfl, (bC' Gf.out 0).trans rfl, (bC' Gf.out 1).trans rfl, (bC' Ge.out 0).trans rfl, (bC' Ge.out 1).trans rfl⟩ (fun hHeld => ?_)
                 clear hK K
                 refine norm_ (a' := ?_) ?_ ?_
                 rotate_left
                 ·show Act.put _ (some 48) _ = _
                  simp only [Act.put, sa', sz', ss', i64_w, i32_w]
                  rfl
                 exact norm_ (by first | (simp only [putAll, Act.put, sa', sz', ss']; done) | (simp only [putAll, Act.put, sa', sz', ss']; rfl)) (hJ2_5_13 (v138, v141, Gq) _ ⟨hHeld, (by (with_reducible repeat (first | apply rA' | apply rN' | apply rD')); exact HO142.out), (by (with_reducible repeat (first | apply rA' | apply rN' | apply rD')); exact rM' Gk.out (fun _ hk => ⟨hk.2, hk.1⟩)), (by (with_reducible repeat (first | apply rA' | apply rN' | apply rD')); exact rM' Gl.out (fun _ hk => ⟨hk.2, hk.1⟩)), (by (with_reducible repeat (first | refine bN' ?_ _ | refine bD' ?_ | refine bA' ?_ _)); exact Ga.out), (by (with_reducible repeat (first | refine bN' ?_ _ | refine bD' ?_ | refine bA' ?_ _)); exact Gf.out), (by (with_reducible repeat (first | refine bN' ?_ _ | refine bD' ?_ | refine bA' ?_ _)); exact Ge.out), (by (with_reducible repeat (first | refine bN' ?_ _ | refine bD' ?_ | refine bA' ?_ _)); exact Kc.out), GW151.out, Kj.out, Gy.out, Kg.out, Ka.out, Kh.out, Gx.out, Ki.out, (by repeat (first | (with_reducible first | exact HB.out | apply pA' | apply pN' | apply pD' | refine pS' ?_ Gp.out | refine pS' ?_ Gr.out | refine pS' ?_ Gs.out | refine pS' ?_ Kj.out) | exact HB.out))⟩)
               ·skip
                rintro ⟨v138, v141⟩ w62 ⟨hS_, h0_, h1_, h2_, h3_, h4_, h5_, h6_⟩
                have n0_ : Aside0 (Kd.R k32 32 w62 w.heap.size (fun k_ => some k_ ≠ (.slice Ao29 Gi.length co29 : Value).ownBlock ∧ some k_ ≠ (.slice Ao32 Gj.length co32 : Value).ownBlock) v141 y140) := ⟨h0_⟩
                have n1_ : Aside0 (Kd.R k32 32 w62 w.heap.size (fun k_ => some k_ ≠ (v141 : Value).ownBlock ∧ some k_ ≠ (.slice Ao32 Gj.length co32 : Value).ownBlock) (.slice Ao29 Gi.length co29) Gi) := ⟨h1_⟩
                have n2_ : Aside0 (Kd.R k32 32 w62 w.heap.size (fun k_ => some k_ ≠ (v141 : Value).ownBlock ∧ some k_ ≠ (.slice Ao29 Gi.length co29 : Value).ownBlock) (.slice Ao32 Gj.length co32) Gj) := ⟨h2_⟩
                have n3_ : Aside0 (w62.heap[Gb]? = some (.cells #[.string Gg, .slice Gm Gh.length Gn] 25 (0, 0))) := ⟨h3_⟩
                have n4_ : Aside0 (w62.heap[Gc]? = some (.cells #[.string Gt, .slice Ao29 Gi.length co29] 25 (0, 0))) := ⟨h4_⟩
                have n5_ : Aside0 (w62.heap[Gd]? = some (.cells #[.string Gu, .slice Ao32 Gj.length co32] 25 (0, 0))) := ⟨h5_⟩
                have n6_ : Aside0 (Below w.heap.size w w62) := ⟨h6_⟩
                clear Gk
                clear Gl
                clear Ga
                clear Gf
                clear Ge
                clear HB
                clear h0_ h1_ h2_ h3_ h4_ h5_ h6_
                have HO142 := n0_
                have Gk := n1_
                have Gl := n2_
                have Ga := n3_
                have Gf := n4_
                have Ge := n5_
                have HB := n6_
                clear n0_ n1_ n2_ n3_ n4_ n5_ n6_
                have hHeld : w62.cell? ⟨Gb, 0, none⟩ = some (.string Gg) ∧ w62.cell? ⟨Gb, 1, none⟩ = some (.slice Gm Gh.length Gn) ∧ w62.cell? ⟨Gc, 0, none⟩ = some (.string Gt) ∧ w62.cell? ⟨Gc, 1, none⟩ = some (.slice Ao29 Gi.length co29) ∧ w62.cell? ⟨Gd, 0, none⟩ = some (.string Gu) ∧ w62.cell? ⟨Gd, 1, none⟩ = some (.slice Ao32 Gj.length co32) := hS_
                refine norm_ (a' := ?_) ?_ ?_
                rotate_left
                ·simp only [putAll, Act.put, sa', sz', ss']
                 rfl
                refine two_ (i := 8) (j := 13) (Ni := some 51) (Nj := some 7) #[true, true, true, true, true, true, true, true, true, false, false, false, false, false, false, false] #[true, true, true, true, true, true, true, true, false, false, false, false, false, true, false, false] rfl rfl rfl rfl (two_of HT_.out (by kernel_rfl)) (by decide) (by decide) (fun K hK => ?_) (fun K hK => ?_)
                ·skip
                 refine Kd.R_append_rows_step k32 (w0 := w) w.heap.size (by rfl) (.tmp 48) (.tmp 50) 22 32 (.agg #[(.string ⟨#[]⟩), (.string ⟨#[]⟩)]) 32 rfl Try.underlying22 info32 rfl (by decide) (by omega) v141 y140 Gj _ _ _ (fun k_ => some k_ ≠ (.slice Ao29 Gi.length co29 : Value).ownBlock ∧ some k_ ≠ (.slice Ao32 Gj.length co32 : Value).ownBlock) (fun _ => False) rfl rfl ?aO ?aR (fun _ _ h => h) (fun _ h => h.elim) ?aF ?aB ?aS ?aL ?_
                 (case aR => repeat (first | exact (Kd.R_reads' Gl.out).2.2 | (with_reducible refine Kd.C_alloc ?_ _) | (with_reducible refine Kd.C_drewN ?_ _) | (with_reducible refine Kd.C_drew ?_)))
                 (case aB => exact (by repeat (first | (with_reducible first | exact HB.out | apply pA' | apply pN' | apply pD' | refine pS' ?_ Gp.out | refine pS' ?_ Gr.out | refine pS' ?_ Gs.out) | exact HB.out)))
                 (case aF => exact (fun k_ hk => ⟨Kd.fresh' (Kd.R_lt (by (with_reducible repeat (first | apply rA' | apply rN' | apply rD')); exact Gk.out)) k_ hk, Kd.fresh' (Kd.R_lt (by (with_reducible repeat (first | apply rA' | apply rN' | apply rD')); exact Gl.out)) k_ hk⟩))
                 (case aO => exact (by (with_reducible repeat (first | apply rA' | apply rN' | apply rD')); exact HO142.out))
                 (case aS => exact (pz' (by repeat (first | (with_reducible first | exact HB.out | apply pA' | apply pN' | apply pD' | refine pS' ?_ Gp.out | refine pS' ?_ Gr.out | refine pS' ?_ Gs.out) | exact HB.out))))
                 (case aL => have := LMc54.out; omega)
                 intro v144 w63 ho hb hg hat
                 rw [← Ny143.out] at ho
                 have n0_ := am' (Kd.R_after (ok := (fun k_ => some k_ ≠ (.slice Ao32 Gj.length co32 : Value).ownBlock)) (by (with_reducible repeat (first | apply rA' | apply rN' | apply rD')); exact rM' Gk.out (fun _ hk => ⟨hk.2, hk.1⟩)) hg hat)
                 have n1_ := am' (Kd.R_after (ok := (fun k_ => some k_ ≠ (.slice Ao29 Gi.length co29 : Value).ownBlock)) (by (with_reducible repeat (first | apply rA' | apply rN' | apply rD')); exact rM' Gl.out (fun _ hk => ⟨hk.2, hk.1⟩)) hg hat)
                 have n2_ := am' (bG' (g := Gb) (o := .cells #[.string Gg, .slice Gm Gh.length Gn] 25 (0, 0)) (by (with_reducible repeat (first | refine bN' ?_ _ | refine bD' ?_ | refine bA' ?_ _)); exact Ga.out) hg (Kd.R_ne HO142.out Ga.out (by decide)))
                 have n3_ := am' (bG' (g := Gc) (o := .cells #[.string Gt, .slice Ao29 Gi.length co29] 25 (0, 0)) (by (with_reducible repeat (first | refine bN' ?_ _ | refine bD' ?_ | refine bA' ?_ _)); exact Gf.out) hg (Kd.R_ne HO142.out Gf.out (by decide)))
                 have n4_ := am' (bG' (g := Gd) (o := .cells #[.string Gu, .slice Ao32 Gj.length co32] 25 (0, 0)) (by (with_reducible repeat (first | refine bN' ?_ _ | refine bD' ?_ | refine bA' ?_ _)); exact Ge.out) hg (Kd.R_ne HO142.out Ge.out (by decide)))
                 have n5_ := am' (hb)
                 have n6_ := am' (ho)
                 clear Gk
                 clear Gl
                 clear Ga
                 clear Gf
                 clear Ge
                 clear HB
                 clear HO142
                 have Gk := n0_
                 have Gl := n1_
                 have Ga := n2_
                 have Gf := n3_
                 have Ge := n4_
                 have HB := n5_
                 have HO145 := n6_
                 clear n0_ n1_ n2_ n3_ n4_ n5_ n6_
                 clear ho hb hg hat
                 refine hK.out _ _ ⟨(bC' Ga.out 0).trans rfl, (bC' Ga.out 1).trans rfl, (bC' Gf.out 0).trans rfl, (bC' Gf.out 1).trans rfl, (bC' Ge.out 0).trans rfl, (bC' Ge.out 1).trans rfl⟩ (fun hHeld => ?_)
                 clear hK K
                 refine norm_ (a' := ?_) ?_ ?_
                 rotate_left
                 ·show Act.put _ (some 51) _ = _
                  simp only [Act.put, sa', sz', ss', i64_w, i32_w]
                  rfl
                 exact norm_ (by first | (simp only [putAll, Act.put, sa', sz', ss']; done) | (simp only [putAll, Act.put, sa', sz', ss']; rfl)) (hJ2_5_8 (v138, v141, v144) _ ⟨hHeld, (by (with_reducible repeat (first | apply rA' | apply rN' | apply rD')); exact HO145.out), (by (with_reducible repeat (first | apply rA' | apply rN' | apply rD')); exact rM' Gk.out (fun _ hk => ⟨hk.2, hk.1⟩)), (by (with_reducible repeat (first | apply rA' | apply rN' | apply rD')); exact rM' Gl.out (fun _ hk => ⟨hk.2, hk.1⟩)), (by (with_reducible repeat (first | refine bN' ?_ _ | refine bD' ?_ | refine bA' ?_ _)); exact Ga.out), (by (with_reducible repeat (first | refine bN' ?_ _ | refine bD' ?_ | refine bA' ?_ _)); exact Gf.out), (by (with_reducible repeat (first | refine bN' ?_ _ | refine bD' ?_ | refine bA' ?_ _)); exact Ge.out), (by repeat (first | (with_reducible first | exact HB.out | apply pA' | apply pN' | apply pD' | refine pS' ?_ Gp.out | refine pS' ?_ Gr.out | refine pS' ?_ Gs.out) | exact HB.out))⟩)
                ·skip
                 refine box_step ?hg (N := 7) ?hd (cs := #[.string (⟨#[]⟩ : ByteArray), .slice none 0 0]) (t := 25) ?hr ?_; (case hd => rfl); (case hg => rfl); (case hr => first | (go_simp; done) | (go_simp; rfl))
                 intro Gq hg w63 hbox hb
                 have n0_ := am' (rB' (by (with_reducible repeat (first | apply rA' | apply rN' | apply rD')); exact Gk.out) hb)
                 have n1_ := am' (rB' (by (with_reducible repeat (first | apply rA' | apply rN' | apply rD')); exact Gl.out) hb)
                 have n2_ := am' (rB' (by (with_reducible repeat (first | apply rA' | apply rN' | apply rD')); exact HO142.out) hb)
                 have n3_ := am' (bB' (g := Gb) (o := .cells #[.string Gg, .slice Gm Gh.length Gn] 25 (0, 0)) (by (with_reducible repeat (first | refine bN' ?_ _ | refine bD' ?_ | refine bA' ?_ _)); exact Ga.out) hb)
                 have n4_ := am' (bB' (g := Gc) (o := .cells #[.string Gt, .slice Ao29 Gi.length co29] 25 (0, 0)) (by (with_reducible repeat (first | refine bN' ?_ _ | refine bD' ?_ | refine bA' ?_ _)); exact Gf.out) hb)
                 have n5_ := am' (bB' (g := Gd) (o := .cells #[.string Gu, .slice Ao32 Gj.length co32] 25 (0, 0)) (by (with_reducible repeat (first | refine bN' ?_ _ | refine bD' ?_ | refine bA' ?_ _)); exact Ge.out) hb)
                 have n6_ := am' (below_step (by repeat (first | (with_reducible first | exact HB.out | apply pA' | apply pN' | apply pD' | refine pS' ?_ Gp.out | refine pS' ?_ Gr.out | refine pS' ?_ Gs.out) | exact HB.out)) hb)
                 have n7_ := am' (hbox)
                 have n8_ := am' ((by rw [hg]; exact (pz' (by repeat (first | (with_reducible first | exact HB.out | apply pA' | apply pN' | apply pD' | refine pS' ?_ Gp.out | refine pS' ?_ Gr.out | refine pS' ?_ Gs.out) | exact HB.out))) : w.heap.size ≤ Gq))
                 have n9_ := am' ((by rw [hg]; exact (pz' (by repeat (first | (with_reducible first | exact HB.out | apply pA' | apply pN' | apply pD' | refine pS' ?_ Gp.out | refine pS' ?_ Gr.out | refine pS' ?_ Gs.out) | exact HB.out))) : w.heap.size ≤ Gq))
                 have n10_ := am' ((by rw [hg]; exact Nat.ne_of_lt (bL' (g := Gb) (o := .cells #[.string Gg, .slice Gm Gh.length Gn] 25 (0, 0)) (by (with_reducible repeat (first | refine bN' ?_ _ | refine bD' ?_ | refine bA' ?_ _)); exact Ga.out)) : Gb ≠ Gq))
                 have n11_ := am' ((by rw [hg]; exact Nat.ne_of_gt (bL' (g := Gb) (o := .cells #[.string Gg, .slice Gm Gh.length Gn] 25 (0, 0)) (by (with_reducible repeat (first | refine bN' ?_ _ | refine bD' ?_ | refine bA' ?_ _)); exact Ga.out)) : Gq ≠ Gb))
                 have n12_ := am' ((by rw [hg]; exact Nat.ne_of_lt (bL' (g := Gc) (o := .cells #[.string Gt, .slice Ao29 Gi.length co29] 25 (0, 0)) (by (with_reducible repeat (first | refine bN' ?_ _ | refine bD' ?_ | refine bA' ?_ _)); exact Gf.out)) : Gc ≠ Gq))
                 have n13_ := am' ((by rw [hg]; exact Nat.ne_of_gt (bL' (g := Gc) (o := .cells #[.string Gt, .slice Ao29 Gi.length co29] 25 (0, 0)) (by (with_reducible repeat (first | refine bN' ?_ _ | refine bD' ?_ | refine bA' ?_ _)); exact Gf.out)) : Gq ≠ Gc))
                 have n14_ := am' ((by rw [hg]; exact Nat.ne_of_lt (bL' (g := Gd) (o := .cells #[.string Gu, .slice Ao32 Gj.length co32] 25 (0, 0)) (by (with_reducible repeat (first | refine bN' ?_ _ | refine bD' ?_ | refine bA' ?_ _)); exact Ge.out)) : Gd ≠ Gq))
                 have n15_ := am' ((by rw [hg]; exact Nat.ne_of_gt (bL' (g := Gd) (o := .cells #[.string Gu, .slice Ao32 Gj.length co32] 25 (0, 0)) (by (with_reducible repeat (first | refine bN' ?_ _ | refine bD' ?_ | refine bA' ?_ _)); exact Ge.out)) : Gq ≠ Gd))
                 clear Gk
                 clear Gl
                 clear HO142
                 clear Ga
                 clear Gf
                 clear Ge
                 clear HB
                 have Gk := n0_
                 have Gl := n1_
                 have HO142 := n2_
                 have Ga := n3_
                 have Gf := n4_
                 have Ge := n5_
                 have HB := n6_
                 have Kc := n7_
                 have GW151 := n8_
                 have Kj := n9_
                 have Gy := n10_
                 have Kg := n11_
                 have Ka := n12_
                 have Kh := n13_
                 have Gx := n14_
                 have Ki := n15_
                 clear n0_ n1_ n2_ n3_ n4_ n5_ n6_ n7_ n8_ n9_ n10_ n11_ n12_ n13_ n14_ n15_
                 clear hb hbox hg
                 refine hK.out _ _ ⟨(bC' Ga.out 0).trans rfl, (bC' Ga.out 1).trans rfl, (bC' Gf.out 0).trans rfl, (bC' Gf.out 1).trans rfl, (bC' Ge.out 0).trans rfl, (bC' Ge.out 1).trans rfl⟩ (fun hHeld => ?_)
                 clear hK K
                 refine norm_ (a' := ?_) ?_ ?_
                 rotate_left
                 ·show Act.put _ (some 7) _ = _
                  simp only [Act.put, sa', sz', ss', i64_w, i32_w]
                  rfl
                 exact norm_ (by first | (simp only [putAll, Act.put, sa', sz', ss']; done) | (simp only [putAll, Act.put, sa', sz', ss']; rfl)) (hJ2_5_13 (v138, v141, Gq) _ ⟨hHeld, (by (with_reducible repeat (first | apply rA' | apply rN' | apply rD')); exact HO142.out), (by (with_reducible repeat (first | apply rA' | apply rN' | apply rD')); exact Gk.out), (by (with_reducible repeat (first | apply rA' | apply rN' | apply rD')); exact Gl.out), (by (with_reducible repeat (first | refine bN' ?_ _ | refine bD' ?_ | refine bA' ?_ _)); exact Ga.out), (by (with_reducible repeat (first | refine bN' ?_ _ | refine bD' ?_ | refine bA' ?_ _)); exact Gf.out), (by (with_reducible repeat (first | refine bN' ?_ _ | refine bD' ?_ | refine bA' ?_ _)); exact Ge.out), (by (with_reducible repeat (first | refine bN' ?_ _ | refine bD' ?_ | refine bA' ?_ _)); exact Kc.out), GW151.out, Kj.out, Gy.out, Kg.out, Ka.out, Kh.out, Gx.out, Ki.out, (by repeat (first | (with_reducible first | exact HB.out | apply pA' | apply pN' | apply pD' | refine pS' ?_ Gp.out | refine pS' ?_ Gr.out | refine pS' ?_ Gs.out | refine pS' ?_ Kj.out) | exact HB.out))⟩)
              ·skip
               rintro ⟨v138, v141, Gq⟩ w63 ⟨hS_, h0_, h1_, h2_, h3_, h4_, h5_, h6_, h7_, h8_, h9_, h10_, h11_, h12_, h13_, h14_, h15_⟩
               have n0_ : Aside0 (Kd.R k32 32 w63 w.heap.size (fun k_ => some k_ ≠ (.slice Ao29 Gi.length co29 : Value).ownBlock ∧ some k_ ≠ (.slice Ao32 Gj.length co32 : Value).ownBlock) v141 y140) := ⟨h0_⟩
               have n1_ : Aside0 (Kd.R k32 32 w63 w.heap.size (fun k_ => some k_ ≠ (v141 : Value).ownBlock ∧ some k_ ≠ (.slice Ao32 Gj.length co32 : Value).ownBlock) (.slice Ao29 Gi.length co29) Gi) := ⟨h1_⟩
               have n2_ : Aside0 (Kd.R k32 32 w63 w.heap.size (fun k_ => some k_ ≠ (v141 : Value).ownBlock ∧ some k_ ≠ (.slice Ao29 Gi.length co29 : Value).ownBlock) (.slice Ao32 Gj.length co32) Gj) := ⟨h2_⟩
               have n3_ : Aside0 (w63.heap[Gb]? = some (.cells #[.string Gg, .slice Gm Gh.length Gn] 25 (0, 0))) := ⟨h3_⟩
               have n4_ : Aside0 (w63.heap[Gc]? = some (.cells #[.string Gt, .slice Ao29 Gi.length co29] 25 (0, 0))) := ⟨h4_⟩
               have n5_ : Aside0 (w63.heap[Gd]? = some (.cells #[.string Gu, .slice Ao32 Gj.length co32] 25 (0, 0))) := ⟨h5_⟩
               have n6_ : Aside0 (w63.heap[Gq]? = some (.cells #[.string (⟨#[]⟩ : ByteArray), .slice none 0 0] 25 (0, 0))) := ⟨h6_⟩
               have n7_ : Aside0 (w.heap.size ≤ Gq) := ⟨h7_⟩
               have n8_ : Aside0 (w.heap.size ≤ Gq) := ⟨h8_⟩
               have n9_ : Aside0 (Gb ≠ Gq) := ⟨h9_⟩
               have n10_ : Aside0 (Gq ≠ Gb) := ⟨h10_⟩
               have n11_ : Aside0 (Gc ≠ Gq) := ⟨h11_⟩
               have n12_ : Aside0 (Gq ≠ Gc) := ⟨h12_⟩
               have n13_ : Aside0 (Gd ≠ Gq) := ⟨h13_⟩
               have n14_ : Aside0 (Gq ≠ Gd) := ⟨h14_⟩
               have n15_ : Aside0 (Below w.heap.size w w63) := ⟨h15_⟩
               clear Gk
               clear Gl
               clear Ga
               clear Gf
               clear Ge
               clear HB
               clear h0_ h1_ h2_ h3_ h4_ h5_ h6_ h7_ h8_ h9_ h10_ h11_ h12_ h13_ h14_ h15_
               have HO142 := n0_
               have Gk := n1_
               have Gl := n2_
               have Ga := n3_
               have Gf := n4_
               have Ge := n5_
               have Kc := n6_
               have GW151 := n7_
               have Kj := n8_
               have Gy := n9_
               have Kg := n10_
               have Ka := n11_
               have Kh := n12_
               have Gx := n13_
               have Ki := n14_
               have HB := n15_
               clear n0_ n1_ n2_ n3_ n4_ n5_ n6_ n7_ n8_ n9_ n10_ n11_ n12_ n13_ n14_ n15_
               have hHeld : w63.cell? ⟨Gb, 0, none⟩ = some (.string Gg) ∧ w63.cell? ⟨Gb, 1, none⟩ = some (.slice Gm Gh.length Gn) ∧ w63.cell? ⟨Gc, 0, none⟩ = some (.string Gt) ∧ w63.cell? ⟨Gc, 1, none⟩ = some (.slice Ao29 Gi.length co29) ∧ w63.cell? ⟨Gd, 0, none⟩ = some (.string Gu) ∧ w63.cell? ⟨Gd, 1, none⟩ = some (.slice Ao32 Gj.length co32) := hS_
               refine norm_ (a' := ?_) ?_ ?_
               rotate_left
               ·simp only [putAll, Act.put, sa', sz', ss']
                rfl
               refine one_ (i := 8) (N := some 51) #[true, true, true, true, true, true, true, true, true, false, false, false, false, true, false, false] rfl rfl (one_of HT_.out (by kernel_rfl)) (by decide) (fun K hK => ?_)
               refine Kd.R_append_rows_step k32 (w0 := w) w.heap.size (by rfl) (.tmp 48) (.tmp 50) 22 32 (.agg #[(.string ⟨#[]⟩), (.string ⟨#[]⟩)]) 32 rfl Try.underlying22 info32 rfl (by decide) (by omega) v141 y140 Gj _ _ _ (fun k_ => some k_ ≠ (.slice Ao29 Gi.length co29 : Value).ownBlock ∧ some k_ ≠ (.slice Ao32 Gj.length co32 : Value).ownBlock) (fun _ => False) rfl rfl ?aO ?aR (fun _ _ h => h) (fun _ h => h.elim) ?aF ?aB ?aS ?aL ?_
               (case aR => repeat (first | exact (Kd.R_reads' Gl.out).2.2 | (with_reducible refine Kd.C_alloc ?_ _) | (with_reducible refine Kd.C_drewN ?_ _) | (with_reducible refine Kd.C_drew ?_)))
               (case aB => exact (by repeat (first | (with_reducible first | exact HB.out | apply pA' | apply pN' | apply pD' | refine pS' ?_ Gp.out | refine pS' ?_ Gr.out | refine pS' ?_ Gs.out | refine pS' ?_ Kj.out) | exact HB.out)))
               (case aF => exact (fun k_ hk => ⟨Kd.fresh' (Kd.R_lt (by (with_reducible repeat (first | apply rA' | apply rN' | apply rD')); exact Gk.out)) k_ hk, Kd.fresh' (Kd.R_lt (by (with_reducible repeat (first | apply rA' | apply rN' | apply rD')); exact Gl.out)) k_ hk⟩))
               (case aO => exact (by (with_reducible repeat (first | apply rA' | apply rN' | apply rD')); exact HO142.out))
               (case aS => exact (pz' (by repeat (first | (with_reducible first | exact HB.out | apply pA' | apply pN' | apply pD' | refine pS' ?_ Gp.out | refine pS' ?_ Gr.out | refine pS' ?_ Gs.out | refine pS' ?_ Kj.out) | exact HB.out))))
               (case aL => have := LMc54.out; omega)
               intro v144 w64 ho hb hg hat
               rw [← Ny143.out] at ho
               have n0_ := am' (Kd.R_after (ok := (fun k_ => some k_ ≠ (.slice Ao32 Gj.length co32 : Value).ownBlock)) (by (with_reducible repeat (first | apply rA' | apply rN' | apply rD')); exact rM' Gk.out (fun _ hk => ⟨hk.2, hk.1⟩)) hg hat)
               have n1_ := am' (Kd.R_after (ok := (fun k_ => some k_ ≠ (.slice Ao29 Gi.length co29 : Value).ownBlock)) (by (with_reducible repeat (first | apply rA' | apply rN' | apply rD')); exact rM' Gl.out (fun _ hk => ⟨hk.2, hk.1⟩)) hg hat)
               have n2_ := am' (bG' (g := Gb) (o := .cells #[.string Gg, .slice Gm Gh.length Gn] 25 (0, 0)) (by (with_reducible repeat (first | refine bN' ?_ _ | refine bD' ?_ | refine bA' ?_ _)); exact Ga.out) hg (Kd.R_ne HO142.out Ga.out (by decide)))
               have n3_ := am' (bG' (g := Gc) (o := .cells #[.string Gt, .slice Ao29 Gi.length co29] 25 (0, 0)) (by (with_reducible repeat (first | refine bN' ?_ _ | refine bD' ?_ | refine bA' ?_ _)); exact Gf.out) hg (Kd.R_ne HO142.out Gf.out (by decide)))
               have n4_ := am' (bG' (g := Gd) (o := .cells #[.string Gu, .slice Ao32 Gj.length co32] 25 (0, 0)) (by (with_reducible repeat (first | refine bN' ?_ _ | refine bD' ?_ | refine bA' ?_ _)); exact Ge.out) hg (Kd.R_ne HO142.out Ge.out (by decide)))
               have n5_ := am' (bG' (g := Gq) (o := .cells #[.string (⟨#[]⟩ : ByteArray), .slice none 0 0] 25 (0, 0)) (by (with_reducible repeat (first | refine bN' ?_ _ | refine bD' ?_ | refine bA' ?_ _)); exact Kc.out) hg (Kd.R_ne HO142.out Kc.out (by decide)))
               have n6_ := am' (hb)
               have n7_ := am' (ho)
               clear Gk
               clear Gl
               clear Ga
               clear Gf
               clear Ge
               clear Kc
               clear HB
               clear HO142
               have Gk := n0_
               have Gl := n1_
               have Ga := n2_
               have Gf := n3_
               have Ge := n4_
               have Kc := n5_
               have HB := n6_
               have HO145 := n7_
               clear n0_ n1_ n2_ n3_ n4_ n5_ n6_ n7_
               clear ho hb hg hat
               refine hK.out _ _ ⟨(bC' Ga.out 0).trans rfl, (bC' Ga.out 1).trans rfl, (bC' Gf.out 0).trans rfl, (bC' Gf.out 1).trans rfl, (bC' Ge.out 0).trans rfl, (bC' Ge.out 1).trans rfl⟩ (fun hHeld => ?_)
               clear hK K
               refine norm_ (a' := ?_) ?_ ?_
               rotate_left
               ·show Act.put _ (some 51) _ = _
                simp only [Act.put, sa', sz', ss', i64_w, i32_w]
                rfl
               exact norm_ (by first | (simp only [putAll, Act.put, sa', sz', ss']; done) | (simp only [putAll, Act.put, sa', sz', ss']; rfl)) (hJ2_5_8_13 (v138, v141, _, Gq) _ ⟨hHeld, (by (with_reducible repeat (first | apply rA' | apply rN' | apply rD')); exact HO145.out), (by (with_reducible repeat (first | apply rA' | apply rN' | apply rD')); exact rM' Gk.out (fun _ hk => ⟨hk.2, hk.1⟩)), (by (with_reducible repeat (first | apply rA' | apply rN' | apply rD')); exact rM' Gl.out (fun _ hk => ⟨hk.2, hk.1⟩)), (by (with_reducible repeat (first | refine bN' ?_ _ | refine bD' ?_ | refine bA' ?_ _)); exact Ga.out), (by (with_reducible repeat (first | refine bN' ?_ _ | refine bD' ?_ | refine bA' ?_ _)); exact Gf.out), (by (with_reducible repeat (first | refine bN' ?_ _ | refine bD' ?_ | refine bA' ?_ _)); exact Ge.out), (by (with_reducible repeat (first | refine bN' ?_ _ | refine bD' ?_ | refine bA' ?_ _)); exact Kc.out), GW151.out, Kj.out, Gy.out, Kg.out, Ka.out, Kh.out, Gx.out, Ki.out, (by repeat (first | (with_reducible first | exact HB.out | apply pA' | apply pN' | apply pD' | refine pS' ?_ Gp.out | refine pS' ?_ Gr.out | refine pS' ?_ Gs.out | refine pS' ?_ Kj.out) | exact HB.out))⟩)
             ·skip
              rintro ⟨v138, v141, v144⟩ w63 ⟨hS_, h0_, h1_, h2_, h3_, h4_, h5_, h6_⟩
              have n0_ : Aside0 (Kd.R k32 32 w63 w.heap.size (fun k_ => some k_ ≠ (.slice Ao29 Gi.length co29 : Value).ownBlock ∧ some k_ ≠ (.slice Ao32 Gj.length co32 : Value).ownBlock) v144 y143) := ⟨h0_⟩
              have n1_ : Aside0 (Kd.R k32 32 w63 w.heap.size (fun k_ => some k_ ≠ (v144 : Value).ownBlock ∧ some k_ ≠ (.slice Ao32 Gj.length co32 : Value).ownBlock) (.slice Ao29 Gi.length co29) Gi) := ⟨h1_⟩
              have n2_ : Aside0 (Kd.R k32 32 w63 w.heap.size (fun k_ => some k_ ≠ (v144 : Value).ownBlock ∧ some k_ ≠ (.slice Ao29 Gi.length co29 : Value).ownBlock) (.slice Ao32 Gj.length co32) Gj) := ⟨h2_⟩
              have n3_ : Aside0 (w63.heap[Gb]? = some (.cells #[.string Gg, .slice Gm Gh.length Gn] 25 (0, 0))) := ⟨h3_⟩
              have n4_ : Aside0 (w63.heap[Gc]? = some (.cells #[.string Gt, .slice Ao29 Gi.length co29] 25 (0, 0))) := ⟨h4_⟩
              have n5_ : Aside0 (w63.heap[Gd]? = some (.cells #[.string Gu, .slice Ao32 Gj.length co32] 25 (0, 0))) := ⟨h5_⟩
              have n6_ : Aside0 (Below w.heap.size w w63) := ⟨h6_⟩
              clear Gk
              clear Gl
              clear Ga
              clear Gf
              clear Ge
              clear HB
              clear h0_ h1_ h2_ h3_ h4_ h5_ h6_
              have HO145 := n0_
              have Gk := n1_
              have Gl := n2_
              have Ga := n3_
              have Gf := n4_
              have Ge := n5_
              have HB := n6_
              clear n0_ n1_ n2_ n3_ n4_ n5_ n6_
              have hHeld : w63.cell? ⟨Gb, 0, none⟩ = some (.string Gg) ∧ w63.cell? ⟨Gb, 1, none⟩ = some (.slice Gm Gh.length Gn) ∧ w63.cell? ⟨Gc, 0, none⟩ = some (.string Gt) ∧ w63.cell? ⟨Gc, 1, none⟩ = some (.slice Ao29 Gi.length co29) ∧ w63.cell? ⟨Gd, 0, none⟩ = some (.string Gu) ∧ w63.cell? ⟨Gd, 1, none⟩ = some (.slice Ao32 Gj.length co32) := hS_
              obtain ⟨Ao64, co64, eo64⟩ := Kd.R_slice HO145.out
              (first | subst eo64 | (injection eo64 with f1_ f2_ f3_; have f4_ := f1_.symm; have f5_ := f3_.symm; clear f1_ f2_ f3_; subst f4_; subst f5_))
              refine norm_ (a' := ?_) ?_ ?_
              rotate_left
              ·simp only [putAll, Act.put, sa', sz', ss']
               rfl
              refine two_ (i := 9) (j := 13) (Ni := some 52) (Nj := some 7) #[true, true, true, true, true, true, true, true, true, true, false, false, false, false, false, false] #[true, true, true, true, true, true, true, true, true, false, false, false, false, true, false, false] rfl rfl rfl rfl (two_of HT_.out (by kernel_rfl)) (by decide) (by decide) (fun K hK => ?_) (fun K hK => ?_)
              ·skip
               refine goes_ Try.func6 (by kernel_rfl) rfl #[.string Gg, .slice Ao64 y143.length co64] (by rfl) rfl rfl (by (try simp only [List.map_toArray, List.map_cons, List.map_nil]); first | done | rfl | (simp only [List.length_drop, List.length_take]; rfl)) ?_
               with_reducible refine (tag_Make.calls Gg _ _ y143 Kk Ko Kp _ ?side1 ?side2 A55.out).mono ?_
               (case side1 => repeat (first | exact (Kd.R_reads' HO145.out).2.2 | (with_reducible refine Kd.C_alloc ?_ _) | (with_reducible refine Kd.C_drewN ?_ _) | (with_reducible refine Kd.C_drew ?_)))
               (case side2 => exact (Kd.R_reads' HO145.out).2.1)
               rintro e w65 ⟨v148, rfl, ho0, hb⟩
               refine ⟨_, rfl, ?_⟩
               have n0_ := am' (Kd.R_elder' (by (with_reducible repeat (first | apply rA' | apply rN' | apply rD')); exact Gk.out) (Kd.R_base ho0) hb)
               have n1_ := am' (Kd.R_elder' (by (with_reducible repeat (first | apply rA' | apply rN' | apply rD')); exact Gl.out) (Kd.R_base ho0) hb)
               have n2_ := am' (Kd.R_elder' (by (with_reducible repeat (first | apply rA' | apply rN' | apply rD')); exact HO145.out) (Kd.R_base ho0) hb)
               have n3_ := am' (Kd.R_lower (Kd.R_new' (Kd.R_new' (Kd.R_new' ho0 (Kd.R_lt (by (with_reducible repeat (first | apply rA' | apply rN' | apply rD')); exact Gk.out))) (Kd.R_lt (by (with_reducible repeat (first | apply rA' | apply rN' | apply rD')); exact Gl.out))) (Kd.R_lt (by (with_reducible repeat (first | apply rA' | apply rN' | apply rD')); exact HO145.out))) (pz' (by repeat (first | (with_reducible first | exact HB.out | apply pA' | apply pN' | apply pD' | refine pS' ?_ Gp.out | refine pS' ?_ Gr.out | refine pS' ?_ Gs.out) | exact HB.out))))
               have n4_ := am' (bB' (g := Gb) (o := .cells #[.string Gg, .slice Gm Gh.length Gn] 25 (0, 0)) (by (with_reducible repeat (first | refine bN' ?_ _ | refine bD' ?_ | refine bA' ?_ _)); exact Ga.out) hb)
               have n5_ := am' (bB' (g := Gc) (o := .cells #[.string Gt, .slice Ao29 Gi.length co29] 25 (0, 0)) (by (with_reducible repeat (first | refine bN' ?_ _ | refine bD' ?_ | refine bA' ?_ _)); exact Gf.out) hb)
               have n6_ := am' (bB' (g := Gd) (o := .cells #[.string Gu, .slice Ao32 Gj.length co32] 25 (0, 0)) (by (with_reducible repeat (first | refine bN' ?_ _ | refine bD' ?_ | refine bA' ?_ _)); exact Ge.out) hb)
               have n7_ := am' (below_step (by repeat (first | (with_reducible first | exact HB.out | apply pA' | apply pN' | apply pD' | refine pS' ?_ Gp.out | refine pS' ?_ Gr.out | refine pS' ?_ Gs.out) | exact HB.out)) hb)
               clear Gk
               clear Gl
               clear HO145
               clear Ga
               clear Gf
               clear Ge
               clear HB
               have Gk := n0_
               have Gl := n1_
               have HO145 := n2_
               have HO149 := n3_
               have Ga := n4_
               have Gf := n5_
               have Ge := n6_
               have HB := n7_
               clear n0_ n1_ n2_ n3_ n4_ n5_ n6_ n7_
               (try clear hb)
               (try clear hb2)
               (try clear hk)
               (try clear hi)
               (try clear ho0)
               refine hK.out _ _ ⟨(bC' Ga.out 0).trans rfl, (bC' Ga.out 1).trans rfl, (bC' Gf.out 0).trans rfl, (bC' Gf.out 1).trans rfl, (bC' Ge.out 0).trans rfl, (bC' Ge.out 1).trans rfl⟩ (fun hHeld => ?_)
               clear hK K
               refine norm_ (a' := ?_) ?_ ?_
               rotate_left
               ·show Act.put _ (some 52) _ = _
                simp only [Act.put, sa', sz', ss', i64_w, i32_w]
                rfl
               refine pure_ (i := 10) (N := some 42) (v := ?_) (a' := ?_) #[true, true, true, true, true, true, true, true, true, true, true, false, false, false, false, false] rfl rfl (any_of HT_.out (by kernel_rfl)) (fun _ _ _ h => h) (Or.inl ⟨by rfl, ?_⟩) ?_ ?_
               rotate_left
               ·intro w'
                go_simp
                with_reducible rfl
               rotate_left
               ·simp only [Act.put, sa', sz', ss', i64_w, i32_w]
                rfl
               refine pure_ (i := 11) (N := some 53) (v := ?_) (a' := ?_) #[true, true, true, true, true, true, true, true, true, true, true, true, false, false, false, false] rfl rfl (any_of HT_.out (by kernel_rfl)) (fun _ _ _ h => h) (Or.inl ⟨by rfl, ?_⟩) ?_ ?_
               rotate_left
               ·intro w'
                go_simp
                with_reducible rfl
               rotate_left
               ·simp only [Act.put, sa', sz', ss', i64_w, i32_w]
                rfl
               refine pure_ (i := 12) (N := some 54) (v := ?_) (a' := ?_) #[true, true, true, true, true, true, true, true, true, true, true, true, true, false, false, false] rfl rfl (any_of HT_.out (by kernel_rfl)) (fun _ _ _ h => h) (Or.inl ⟨by rfl, ?_⟩) ?_ ?_
               rotate_left
               ·intro w'
                go_simp
                with_reducible rfl
               rotate_left
               ·simp only [Act.put, sa', sz', ss', i64_w, i32_w]
                rfl
               exact norm_ (by first | (simp only [putAll, Act.put, sa', sz', ss']; done) | (simp only [putAll, Act.put, sa', sz', ss']; rfl)) (hJ2_5_8_9 (v138, v141, .slice Ao64 y143.length co64, v148) _ ⟨hHeld, (by (with_reducible repeat (first | apply rA' | apply rN' | apply rD')); exact rM' HO145.out (fun _ hk => ⟨hk.2, ⟨hk.1.1, hk.1.2⟩⟩)), (by (with_reducible repeat (first | apply rA' | apply rN' | apply rD')); exact rM' HO149.out (fun _ hk => ⟨hk.2, ⟨hk.1.1.2, hk.1.2⟩⟩)), (by (with_reducible repeat (first | apply rA' | apply rN' | apply rD')); exact rM' Gk.out (fun _ hk => ⟨hk.1.1, ⟨hk.2, hk.1.2⟩⟩)), (by (with_reducible repeat (first | apply rA' | apply rN' | apply rD')); exact rM' Gl.out (fun _ hk => ⟨hk.1.1, ⟨hk.2, hk.1.2⟩⟩)), (by (with_reducible repeat (first | refine bN' ?_ _ | refine bD' ?_ | refine bA' ?_ _)); exact Ga.out), (by (with_reducible repeat (first | refine bN' ?_ _ | refine bD' ?_ | refine bA' ?_ _)); exact Gf.out), (by (with_reducible repeat (first | refine bN' ?_ _ | refine bD' ?_ | refine bA' ?_ _)); exact Ge.out), (by repeat (first | (with_reducible first | exact HB.out | apply pA' | apply pN' | apply pD' | refine pS' ?_ Gp.out | refine pS' ?_ Gr.out | refine pS' ?_ Gs.out) | exact HB.out))⟩)
              ·skip
               refine box_step ?hg (N := 7) ?hd (cs := #[.string (⟨#[]⟩ : ByteArray), .slice none 0 0]) (t := 25) ?hr ?_; (case hd => rfl); (case hg => rfl); (case hr => first | (go_simp; done) | (go_simp; rfl))
               intro Gq hg w64 hbox hb
               have n0_ := am' (rB' (by (with_reducible repeat (first | apply rA' | apply rN' | apply rD')); exact Gk.out) hb)
               have n1_ := am' (rB' (by (with_reducible repeat (first | apply rA' | apply rN' | apply rD')); exact Gl.out) hb)
               have n2_ := am' (rB' (by (with_reducible repeat (first | apply rA' | apply rN' | apply rD')); exact HO145.out) hb)
               have n3_ := am' (bB' (g := Gb) (o := .cells #[.string Gg, .slice Gm Gh.length Gn] 25 (0, 0)) (by (with_reducible repeat (first | refine bN' ?_ _ | refine bD' ?_ | refine bA' ?_ _)); exact Ga.out) hb)
               have n4_ := am' (bB' (g := Gc) (o := .cells #[.string Gt, .slice Ao29 Gi.length co29] 25 (0, 0)) (by (with_reducible repeat (first | refine bN' ?_ _ | refine bD' ?_ | refine bA' ?_ _)); exact Gf.out) hb)
               have n5_ := am' (bB' (g := Gd) (o := .cells #[.string Gu, .slice Ao32 Gj.length co32] 25 (0, 0)) (by (with_reducible repeat (first | refine bN' ?_ _ | refine bD' ?_ | refine bA' ?_ _)); exact Ge.out) hb)
               have n6_ := am' (below_step (by repeat (first | (with_reducible first | exact HB.out | apply pA' | apply pN' | apply pD' | refine pS' ?_ Gp.out | refine pS' ?_ Gr.out | refine pS' ?_ Gs.out) | exact HB.out)) hb)
               have n7_ := am' (hbox)
               have n8_ := am' ((by rw [hg]; exact (pz' (by repeat (first | (with_reducible first | exact HB.out | apply pA' | apply pN' | apply pD' | refine pS' ?_ Gp.out | refine pS' ?_ Gr.out | refine pS' ?_ Gs.out) | exact HB.out))) : w.heap.size ≤ Gq))
               have n9_ := am' ((by rw [hg]; exact (pz' (by repeat (first | (with_reducible first | exact HB.out | apply pA' | apply pN' | apply pD' | refine pS' ?_ Gp.out | refine pS' ?_ Gr.out | refine pS' ?_ Gs.out) | exact HB.out))) : w.heap.size ≤ Gq))
               have n10_ := am' ((by rw [hg]; exact Nat.ne_of_lt (bL' (g := Gb) (o := .cells #[.string Gg, .slice Gm Gh.length Gn] 25 (0, 0)) (by (with_reducible repeat (first | refine bN' ?_ _ | refine bD' ?_ | refine bA' ?_ _)); exact Ga.out)) : Gb ≠ Gq))
               have n11_ := am' ((by rw [hg]; exact Nat.ne_of_gt (bL' (g := Gb) (o := .cells #[.string Gg, .slice Gm Gh.length Gn] 25 (0, 0)) (by (with_reducible repeat (first | refine bN' ?_ _ | refine bD' ?_ | refine bA' ?_ _)); exact Ga.out)) : Gq ≠ Gb))
               have n12_ := am' ((by rw [hg]; exact Nat.ne_of_lt (bL' (g := Gc) (o := .cells #[.string Gt, .slice Ao29 Gi.length co29] 25 (0, 0)) (by (with_reducible repeat (first | refine bN' ?_ _ | refine bD' ?_ | refine bA' ?_ _)); exact Gf.out)) : Gc ≠ Gq))
               have n13_ := am' ((by rw [hg]; exact Nat.ne_of_gt (bL' (g := Gc) (o := .cells #[.string Gt, .slice Ao29 Gi.length co29] 25 (0, 0)) (by (with_reducible repeat (first | refine bN' ?_ _ | refine bD' ?_ | refine bA' ?_ _)); exact Gf.out)) : Gq ≠ Gc))
               have n14_ := am' ((by rw [hg]; exact Nat.ne_of_lt (bL' (g := Gd) (o := .cells #[.string Gu, .slice Ao32 Gj.length co32] 25 (0, 0)) (by (with_reducible repeat (first | refine bN' ?_ _ | refine bD' ?_ | refine bA' ?_ _)); exact Ge.out)) : Gd ≠ Gq))
               have n15_ := am' ((by rw [hg]; exact Nat.ne_of_gt (bL' (g := Gd) (o := .cells #[.string Gu, .slice Ao32 Gj.length co32] 25 (0, 0)) (by (with_reducible repeat (first | refine bN' ?_ _ | refine bD' ?_ | refine bA' ?_ _)); exact Ge.out)) : Gq ≠ Gd))
               clear Gk
               clear Gl
               clear HO145
               clear Ga
               clear Gf
               clear Ge
               clear HB
               have Gk := n0_
               have Gl := n1_
               have HO145 := n2_
               have Ga := n3_
               have Gf := n4_
               have Ge := n5_
               have HB := n6_
               have Kc := n7_
               have GW151 := n8_
               have Kj := n9_
               have Gy := n10_
               have Kg := n11_
               have Ka := n12_
               have Kh := n13_
               have Gx := n14_
               have Ki := n15_
               clear n0_ n1_ n2_ n3_ n4_ n5_ n6_ n7_ n8_ n9_ n10_ n11_ n12_ n13_ n14_ n15_
               clear hb hbox hg
               refine hK.out _ _ ⟨(bC' Ga.out 0).trans rfl, (bC' Ga.out 1).trans rfl, (bC' Gf.out 0).trans rfl, (bC' Gf.out 1).trans rfl, (bC' Ge.out 0).trans rfl, (bC' Ge.out 1).trans rfl⟩ (fun hHeld => ?_)
               clear hK K
               refine norm_ (a' := ?_) ?_ ?_
               rotate_left
               ·show Act.put _ (some 7) _ = _
                simp only [Act.put, sa', sz', ss', i64_w, i32_w]
                rfl
               exact norm_ (by first | (simp only [putAll, Act.put, sa', sz', ss']; done) | (simp only [putAll, Act.put, sa', sz', ss']; rfl)) (hJ2_5_8_13 (v138, v141, _, Gq) _ ⟨hHeld, (by (with_reducible repeat (first | apply rA' | apply rN' | apply rD')); exact HO145.out), (by (with_reducible repeat (first | apply rA' | apply rN' | apply rD')); exact Gk.out), (by (with_reducible repeat (first | apply rA' | apply rN' | apply rD')); exact Gl.out), (by (with_reducible repeat (first | refine bN' ?_ _ | refine bD' ?_ | refine bA' ?_ _)); exact Ga.out), (by (with_reducible repeat (first | refine bN' ?_ _ | refine bD' ?_ | refine bA' ?_ _)); exact Gf.out), (by (with_reducible repeat (first | refine bN' ?_ _ | refine bD' ?_ | refine bA' ?_ _)); exact Ge.out), (by (with_reducible repeat (first | refine bN' ?_ _ | refine bD' ?_ | refine bA' ?_ _)); exact Kc.out), GW151.out, Kj.out, Gy.out, Kg.out, Ka.out, Kh.out, Gx.out, Ki.out, (by repeat (first | (with_reducible first | exact HB.out | apply pA' | apply pN' | apply pD' | refine pS' ?_ Gp.out | refine pS' ?_ Gr.out | refine pS' ?_ Gs.out | refine pS' ?_ Kj.out) | exact HB.out))⟩)
            ·skip
             rintro ⟨v138, v141, v144, Gq⟩ w64 ⟨hS_, h0_, h1_, h2_, h3_, h4_, h5_, h6_, h7_, h8_, h9_, h10_, h11_, h12_, h13_, h14_, h15_⟩
             have n0_ : Aside0 (Kd.R k32 32 w64 w.heap.size (fun k_ => some k_ ≠ (.slice Ao29 Gi.length co29 : Value).ownBlock ∧ some k_ ≠ (.slice Ao32 Gj.length co32 : Value).ownBlock) v144 y143) := ⟨h0_⟩
             have n1_ : Aside0 (Kd.R k32 32 w64 w.heap.size (fun k_ => some k_ ≠ (v144 : Value).ownBlock ∧ some k_ ≠ (.slice Ao32 Gj.length co32 : Value).ownBlock) (.slice Ao29 Gi.length co29) Gi) := ⟨h1_⟩
             have n2_ : Aside0 (Kd.R k32 32 w64 w.heap.size (fun k_ => some k_ ≠ (v144 : Value).ownBlock ∧ some k_ ≠ (.slice Ao29 Gi.length co29 : Value).ownBlock) (.slice Ao32 Gj.length co32) Gj) := ⟨h2_⟩
             have n3_ : Aside0 (w64.heap[Gb]? = some (.cells #[.string Gg, .slice Gm Gh.length Gn] 25 (0, 0))) := ⟨h3_⟩
             have n4_ : Aside0 (w64.heap[Gc]? = some (.cells #[.string Gt, .slice Ao29 Gi.length co29] 25 (0, 0))) := ⟨h4_⟩
             have n5_ : Aside0 (w64.heap[Gd]? = some (.cells #[.string Gu, .slice Ao32 Gj.length co32] 25 (0, 0))) := ⟨h5_⟩
             have n6_ : Aside0 (w64.heap[Gq]? = some (.cells #[.string (⟨#[]⟩ : ByteArray), .slice none 0 0] 25 (0, 0))) := ⟨h6_⟩
             have n7_ : Aside0 (w.heap.size ≤ Gq) := ⟨h7_⟩
             have n8_ : Aside0 (w.heap.size ≤ Gq) := ⟨h8_⟩
             have n9_ : Aside0 (Gb ≠ Gq) := ⟨h9_⟩
             have n10_ : Aside0 (Gq ≠ Gb) := ⟨h10_⟩
             have n11_ : Aside0 (Gc ≠ Gq) := ⟨h11_⟩
             have n12_ : Aside0 (Gq ≠ Gc) := ⟨h12_⟩
             have n13_ : Aside0 (Gd ≠ Gq) := ⟨h13_⟩
             have n14_ : Aside0 (Gq ≠ Gd) := ⟨h14_⟩
             have n15_ : Aside0 (Below w.heap.size w w64) := ⟨h15_⟩
             clear Gk
             clear Gl
             clear Ga
             clear Gf
             clear Ge
             clear HB
             clear h0_ h1_ h2_ h3_ h4_ h5_ h6_ h7_ h8_ h9_ h10_ h11_ h12_ h13_ h14_ h15_
             have HO145 := n0_
             have Gk := n1_
             have Gl := n2_
             have Ga := n3_
             have Gf := n4_
             have Ge := n5_
             have Kc := n6_
             have GW151 := n7_
             have Kj := n8_
             have Gy := n9_
             have Kg := n10_
             have Ka := n11_
             have Kh := n12_
             have Gx := n13_
             have Ki := n14_
             have HB := n15_
             clear n0_ n1_ n2_ n3_ n4_ n5_ n6_ n7_ n8_ n9_ n10_ n11_ n12_ n13_ n14_ n15_
             have hHeld : w64.cell? ⟨Gb, 0, none⟩ = some (.string Gg) ∧ w64.cell? ⟨Gb, 1, none⟩ = some (.slice Gm Gh.length Gn) ∧ w64.cell? ⟨Gc, 0, none⟩ = some (.string Gt) ∧ w64.cell? ⟨Gc, 1, none⟩ = some (.slice Ao29 Gi.length co29) ∧ w64.cell? ⟨Gd, 0, none⟩ = some (.string Gu) ∧ w64.cell? ⟨Gd, 1, none⟩ = some (.slice Ao32 Gj.length co32) := hS_
             obtain ⟨Ao65, co65, eo65⟩ := Kd.R_slice HO145.out
             (first | subst eo65 | (injection eo65 with f1_ f2_ f3_; have f4_ := f1_.symm; have f5_ := f3_.symm; clear f1_ f2_ f3_; subst f4_; subst f5_))
             refine norm_ (a' := ?_) ?_ ?_
             rotate_left
             ·simp only [putAll, Act.put, sa', sz', ss']
              rfl
             refine one_ (i := 9) (N := some 52) #[true, true, true, true, true, true, true, true, true, true, false, false, false, true, false, false] rfl rfl (one_of HT_.out (by kernel_rfl)) (by decide) (fun K hK => ?_)
             refine goes_ Try.func6 (by kernel_rfl) rfl #[.string Gg, .slice Ao65 y143.length co65] (by rfl) rfl rfl (by (try simp only [List.map_toArray, List.map_cons, List.map_nil]); first | done | rfl | (simp only [List.length_drop, List.length_take]; rfl)) ?_
             with_reducible refine (tag_Make.calls Gg _ _ y143 Kk Ko Kp _ ?side1 ?side2 A55.out).mono ?_
             (case side1 => repeat (first | exact (Kd.R_reads' HO145.out).2.2 | (with_reducible refine Kd.C_alloc ?_ _) | (with_reducible refine Kd.C_drewN ?_ _) | (with_reducible refine Kd.C_drew ?_)))
             (case side2 => exact (Kd.R_reads' HO145.out).2.1)
             rintro e w66 ⟨v148, rfl, ho0, hb⟩
             refine ⟨_, rfl, ?_⟩
             have n0_ := am' (Kd.R_elder' (by (with_reducible repeat (first | apply rA' | apply rN' | apply rD')); exact Gk.out) (Kd.R_base ho0) hb)
             have n1_ := am' (Kd.R_elder' (by (with_reducible repeat (first | apply rA' | apply rN' | apply rD')); exact Gl.out) (Kd.R_base ho0) hb)
             have n2_ := am' (Kd.R_elder' (by (with_reducible repeat (first | apply rA' | apply rN' | apply rD')); exact HO145.out) (Kd.R_base ho0) hb)
             have n3_ := am' (Kd.R_lower (Kd.R_new' (Kd.R_new' (Kd.R_new' ho0 (Kd.R_lt (by (with_reducible repeat (first | apply rA' | apply rN' | apply rD')); exact Gk.out))) (Kd.R_lt (by (with_reducible repeat (first | apply rA' | apply rN' | apply rD')); exact Gl.out))) (Kd.R_lt (by (with_reducible repeat (first | apply rA' | apply rN' | apply rD')); exact HO145.out))) (pz' (by repeat (first | (with_reducible first | exact HB.out | apply pA' | apply pN' | apply pD' | refine pS' ?_ Gp.out | refine pS' ?_ Gr.out | refine pS' ?_ Gs.out | refine pS' ?_ Kj.out) | exact HB.out))))
             have n4_ := am' (bB' (g := Gb) (o := .cells #[.string Gg, .slice Gm Gh.length Gn] 25 (0, 0)) (by (with_reducible repeat (first | refine bN' ?_ _ | refine bD' ?_ | refine bA' ?_ _)); exact Ga.out) hb)
             have n5_ := am' (bB' (g := Gc) (o := .cells #[.string Gt, .slice Ao29 Gi.length co29] 25 (0, 0)) (by (with_reducible repeat (first | refine bN' ?_ _ | refine bD' ?_ | refine bA' ?_ _)); exact Gf.out) hb)
             have n6_ := am' (bB' (g := Gd) (o := .cells #[.string Gu, .slice Ao32 Gj.length co32] 25 (0, 0)) (by (with_reducible repeat (first | refine bN' ?_ _ | refine bD' ?_ | refine bA' ?_ _)); exact Ge.out) hb)
             have n7_ := am' (bB' (g := Gq) (o := .cells #[.string (⟨#[]⟩ : ByteArray), .slice none 0 0] 25 (0, 0)) (by (with_reducible repeat (first | refine bN' ?_ _ | refine bD' ?_ | refine bA' ?_ _)); exact Kc.out) hb)
             have n8_ := am' (below_step (by repeat (first | (with_reducible first | exact HB.out | apply pA' | apply pN' | apply pD' | refine pS' ?_ Gp.out | refine pS' ?_ Gr.out | refine pS' ?_ Gs.out | refine pS' ?_ Kj.out) | exact HB.out)) hb)
             clear Gk
             clear Gl
             clear HO145
             clear Ga
             clear Gf
             clear Ge
             clear Kc
             clear HB
             have Gk := n0_
             have Gl := n1_
             have HO145 := n2_
             have HO149 := n3_
             have Ga := n4_
             have Gf := n5_
             have Ge := n6_
             have Kc := n7_
             have HB := n8_
             clear n0_ n1_ n2_ n3_ n4_ n5_ n6_ n7_ n8_
             (try clear hb)
             (try clear hb2)
             (try clear hk)
             (try clear hi)
             (try clear ho0)
             refine hK.out _ _ ⟨(bC' Ga.out 0).trans rfl, (bC' Ga.out 1).trans rfl, (bC' Gf.out 0).trans rfl, (bC' Gf.out 1).trans rfl, (bC' Ge.out 0).trans rfl, (bC' Ge.out 1).trans rfl⟩ (fun hHeld => ?_)
             clear hK K
             refine norm_ (a' := ?_) ?_ ?_
             rotate_left
             ·show Act.put _ (some 52) _ = _
              simp only [Act.put, sa', sz', ss', i64_w, i32_w]
              rfl
             refine pure_ (i := 10) (N := some 42) (v := ?_) (a' := ?_) #[true, true, true, true, true, true, true, true, true, true, true, false, false, true, false, false] rfl rfl (any_of HT_.out (by kernel_rfl)) (fun _ _ _ h => h) (Or.inl ⟨by rfl, ?_⟩) ?_ ?_
             rotate_left
             ·intro w'
              go_simp
              with_reducible rfl
             rotate_left
             ·simp only [Act.put, sa', sz', ss', i64_w, i32_w]
              rfl
             refine pure_ (i := 11) (N := some 53) (v := ?_) (a' := ?_) #[true, true, true, true, true, true, true, true, true, true, true, true, false, true, false, false] rfl rfl (any_of HT_.out (by kernel_rfl)) (fun _ _ _ h => h) (Or.inl ⟨by rfl, ?_⟩) ?_ ?_
             rotate_left
             ·intro w'
              go_simp
              with_reducible rfl
             rotate_left
             ·simp only [Act.put, sa', sz', ss', i64_w, i32_w]
              rfl
             refine pure_ (i := 12) (N := some 54) (v := ?_) (a' := ?_) #[true, true, true, true, true, true, true, true, true, true, true, true, true, true, false, false] rfl rfl (any_of HT_.out (by kernel_rfl)) (fun _ _ _ h => h) (Or.inl ⟨by rfl, ?_⟩) ?_ ?_
             rotate_left
             ·intro w'
              go_simp
              with_reducible rfl
             rotate_left
             ·simp only [Act.put, sa', sz', ss', i64_w, i32_w]
              rfl
             exact norm_ (by first | (simp only [putAll, Act.put, sa', sz', ss']; done) | (simp only [putAll, Act.put, sa', sz', ss']; rfl)) (hJ2_5_8_9_13 (v138, v141, .slice Ao65 y143.length co65, v148, Gq) _ ⟨hHeld, (by (with_reducible repeat (first | apply rA' | apply rN' | apply rD')); exact rM' HO145.out (fun _ hk => ⟨hk.2, ⟨hk.1.1, hk.1.2⟩⟩)), (by (with_reducible repeat (first | apply rA' | apply rN' | apply rD')); exact rM' HO149.out (fun _ hk => ⟨hk.2, ⟨hk.1.1.2, hk.1.2⟩⟩)), (by (with_reducible repeat (first | apply rA' | apply rN' | apply rD')); exact rM' Gk.out (fun _ hk => ⟨hk.1.1, ⟨hk.2, hk.1.2⟩⟩)), (by (with_reducible repeat (first | apply rA' | apply rN' | apply rD')); exact rM' Gl.out (fun _ hk => ⟨hk.1.1, ⟨hk.2, hk.1.2⟩⟩)), (by (with_reducible repeat (first | refine bN' ?_ _ | refine bD' ?_ | refine bA' ?_ _)); exact Ga.out), (by (with_reducible repeat (first | refine bN' ?_ _ | refine bD' ?_ | refine bA' ?_ _)); exact Gf.out), (by (with_reducible repeat (first | refine bN' ?_ _ | refine bD' ?_ | refine bA' ?_ _)); exact Ge.out), (by (with_reducible repeat (first | refine bN' ?_ _ | refine bD' ?_ | refine bA' ?_ _)); exact Kc.out), GW151.out, Kj.out, Gy.out, Kg.out, Ka.out, Kh.out, Gx.out, Ki.out, (by repeat (first | (with_reducible first | exact HB.out | apply pA' | apply pN' | apply pD' | refine pS' ?_ Gp.out | refine pS' ?_ Gr.out | refine pS' ?_ Gs.out | refine pS' ?_ Kj.out) | exact HB.out))⟩)
           ·skip
            rintro ⟨v138, v141, v144, v148⟩ w65 ⟨hS_, h0_, h1_, h2_, h3_, h4_, h5_, h6_, h7_⟩
            have n0_ : Aside0 (Kd.R k32 32 w65 w.heap.size (fun k_ => some k_ ≠ (v148 : Value).ownBlock ∧ some k_ ≠ (.slice Ao29 Gi.length co29 : Value).ownBlock ∧ some k_ ≠ (.slice Ao32 Gj.length co32 : Value).ownBlock) v144 y143) := ⟨h0_⟩
            have n1_ : Aside0 (Kd.R k32 32 w65 w.heap.size (fun k_ => some k_ ≠ (v144 : Value).ownBlock ∧ some k_ ≠ (.slice Ao29 Gi.length co29 : Value).ownBlock ∧ some k_ ≠ (.slice Ao32 Gj.length co32 : Value).ownBlock) v148 Ko) := ⟨h1_⟩
            have n2_ : Aside0 (Kd.R k32 32 w65 w.heap.size (fun k_ => some k_ ≠ (v144 : Value).ownBlock ∧ some k_ ≠ (v148 : Value).ownBlock ∧ some k_ ≠ (.slice Ao32 Gj.length co32 : Value).ownBlock) (.slice Ao29 Gi.length co29) Gi) := ⟨h2_⟩
            have n3_ : Aside0 (Kd.R k32 32 w65 w.heap.size (fun k_ => some k_ ≠ (v144 : Value).ownBlock ∧ some k_ ≠ (v148 : Value).ownBlock ∧ some k_ ≠ (.slice Ao29 Gi.length co29 : Value).ownBlock) (.slice Ao32 Gj.length co32) Gj) := ⟨h3_⟩
            have n4_ : Aside0 (w65.heap[Gb]? = some (.cells #[.string Gg, .slice Gm Gh.length Gn] 25 (0, 0))) := ⟨h4_⟩
            have n5_ : Aside0 (w65.heap[Gc]? = some (.cells #[.string Gt, .slice Ao29 Gi.length co29] 25 (0, 0))) := ⟨h5_⟩
            have n6_ : Aside0 (w65.heap[Gd]? = some (.cells #[.string Gu, .slice Ao32 Gj.length co32] 25 (0, 0))) := ⟨h6_⟩
            have n7_ : Aside0 (Below w.heap.size w w65) := ⟨h7_⟩
            clear Gk
            clear Gl
            clear Ga
            clear Gf
            clear Ge
            clear HB
            clear h0_ h1_ h2_ h3_ h4_ h5_ h6_ h7_
            have HO145 := n0_
            have HO149 := n1_
            have Gk := n2_
            have Gl := n3_
            have Ga := n4_
            have Gf := n5_
            have Ge := n6_
            have HB := n7_
            clear n0_ n1_ n2_ n3_ n4_ n5_ n6_ n7_
            have hHeld : w65.cell? ⟨Gb, 0, none⟩ = some (.string Gg) ∧ w65.cell? ⟨Gb, 1, none⟩ = some (.slice Gm Gh.length Gn) ∧ w65.cell? ⟨Gc, 0, none⟩ = some (.string Gt) ∧ w65.cell? ⟨Gc, 1, none⟩ = some (.slice Ao29 Gi.length co29) ∧ w65.cell? ⟨Gd, 0, none⟩ = some (.string Gu) ∧ w65.cell? ⟨Gd, 1, none⟩ = some (.slice Ao32 Gj.length co32) := hS_
            refine norm_ (a' := ?_) ?_ ?_
            rotate_left
            ·simp only [putAll, Act.put, sa', sz', ss']
             rfl
            refine one_ (i := 13) (N := some 7) #[true, true, true, true, true, true, true, true, true, true, true, true, true, true, false, false] rfl rfl (one_of HT_.out (by kernel_rfl)) (by decide) (fun K hK => ?_)
            refine box_step ?hg (N := 7) ?hd (cs := #[.string (⟨#[]⟩ : ByteArray), .slice none 0 0]) (t := 25) ?hr ?_; (case hd => rfl); (case hg => rfl); (case hr => first | (go_simp; done) | (go_simp; rfl))
            intro Gq hg w66 hbox hb
            have n0_ := am' (rB' (by (with_reducible repeat (first | apply rA' | apply rN' | apply rD')); exact Gk.out) hb)
            have n1_ := am' (rB' (by (with_reducible repeat (first | apply rA' | apply rN' | apply rD')); exact Gl.out) hb)
            have n2_ := am' (rB' (by (with_reducible repeat (first | apply rA' | apply rN' | apply rD')); exact HO145.out) hb)
            have n3_ := am' (rB' (by (with_reducible repeat (first | apply rA' | apply rN' | apply rD')); exact HO149.out) hb)
            have n4_ := am' (bB' (g := Gb) (o := .cells #[.string Gg, .slice Gm Gh.length Gn] 25 (0, 0)) (by (with_reducible repeat (first | refine bN' ?_ _ | refine bD' ?_ | refine bA' ?_ _)); exact Ga.out) hb)
            have n5_ := am' (bB' (g := Gc) (o := .cells #[.string Gt, .slice Ao29 Gi.length co29] 25 (0, 0)) (by (with_reducible repeat (first | refine bN' ?_ _ | refine bD' ?_ | refine bA' ?_ _)); exact Gf.out) hb)
            have n6_ := am' (bB' (g := Gd) (o := .cells #[.string Gu, .slice Ao32 Gj.length co32] 25 (0, 0)) (by (with_reducible repeat (first | refine bN' ?_ _ | refine bD' ?_ | refine bA' ?_ _)); exact Ge.out) hb)
            have n7_ := am' (below_step (by repeat (first | (with_reducible first | exact HB.out | apply pA' | apply pN' | apply pD' | refine pS' ?_ Gp.out | refine pS' ?_ Gr.out | refine pS' ?_ Gs.out) | exact HB.out)) hb)
            have n8_ := am' (hbox)
            have n9_ := am' ((by rw [hg]; exact (pz' (by repeat (first | (with_reducible first | exact HB.out | apply pA' | apply pN' | apply pD' | refine pS' ?_ Gp.out | refine pS' ?_ Gr.out | refine pS' ?_ Gs.out) | exact HB.out))) : w.heap.size ≤ Gq))
            have n10_ := am' ((by rw [hg]; exact (pz' (by repeat (first | (with_reducible first | exact HB.out | apply pA' | apply pN' | apply pD' | refine pS' ?_ Gp.out | refine pS' ?_ Gr.out | refine pS' ?_ Gs.out) | exact HB.out))) : w.heap.size ≤ Gq))
            have n11_ := am' ((by rw [hg]; exact Nat.ne_of_lt (bL' (g := Gb) (o := .cells #[.string Gg, .slice Gm Gh.length Gn] 25 (0, 0)) (by (with_reducible repeat (first | refine bN' ?_ _ | refine bD' ?_ | refine bA' ?_ _)); exact Ga.out)) : Gb ≠ Gq))
            have n12_ := am' ((by rw [hg]; exact Nat.ne_of_gt (bL' (g := Gb) (o := .cells #[.string Gg, .slice Gm Gh.length Gn] 25 (0, 0)) (by (with_reducible repeat (first | refine bN' ?_ _ | refine bD' ?_ | refine bA' ?_ _)); exact Ga.out)) : Gq ≠ Gb))
            have n13_ := am' ((by rw [hg]; exact Nat.ne_of_lt (bL' (g := Gc) (o := .cells #[.string Gt, .slice Ao29 Gi.length co29] 25 (0, 0)) (by (with_reducible repeat (first | refine bN' ?_ _ | refine bD' ?_ | refine bA' ?_ _)); exact Gf.out)) : Gc ≠ Gq))
            have n14_ := am' ((by rw [hg]; exact Nat.ne_of_gt (bL' (g := Gc) (o := .cells #[.string Gt, .slice Ao29 Gi.length co29] 25 (0, 0)) (by (with_reducible repeat (first | refine bN' ?_ _ | refine bD' ?_ | refine bA' ?_ _)); exact Gf.out)) : Gq ≠ Gc))
            have n15_ := am' ((by rw [hg]; exact Nat.ne_of_lt (bL' (g := Gd) (o := .cells #[.string Gu, .slice Ao32 Gj.length co32] 25 (0, 0)) (by (with_reducible repeat (first | refine bN' ?_ _ | refine bD' ?_ | refine bA' ?_ _)); exact Ge.out)) : Gd ≠ Gq))
            have n16_ := am' ((by rw [hg]; exact Nat.ne_of_gt (bL' (g := Gd) (o := .cells #[.string Gu, .slice Ao32 Gj.length co32] 25 (0, 0)) (by (with_reducible repeat (first | refine bN' ?_ _ | refine bD' ?_ | refine bA' ?_ _)); exact Ge.out)) : Gq ≠ Gd))
            clear Gk
            clear Gl
            clear HO145
            clear HO149
            clear Ga
            clear Gf
            clear Ge
            clear HB
            have Gk := n0_
            have Gl := n1_
            have HO145 := n2_
            have HO149 := n3_
            have Ga := n4_
            have Gf := n5_
            have Ge := n6_
            have HB := n7_
            have Kc := n8_
            have GW151 := n9_
            have Kj := n10_
            have Gy := n11_
            have Kg := n12_
            have Ka := n13_
            have Kh := n14_
            have Gx := n15_
            have Ki := n16_
            clear n0_ n1_ n2_ n3_ n4_ n5_ n6_ n7_ n8_ n9_ n10_ n11_ n12_ n13_ n14_ n15_ n16_
            clear hb hbox hg
            refine hK.out _ _ ⟨(bC' Ga.out 0).trans rfl, (bC' Ga.out 1).trans rfl, (bC' Gf.out 0).trans rfl, (bC' Gf.out 1).trans rfl, (bC' Ge.out 0).trans rfl, (bC' Ge.out 1).trans rfl⟩ (fun hHeld => ?_)
            clear hK K
            refine norm_ (a' := ?_) ?_ ?_
            rotate_left
            ·show Act.put _ (some 7) _ = _
             simp only [Act.put, sa', sz', ss', i64_w, i32_w]
             rfl
            exact norm_ (by first | (simp only [putAll, Act.put, sa', sz', ss']; done) | (simp only [putAll, Act.put, sa', sz', ss']; rfl)) (hJ2_5_8_9_13 (v138, v141, v144, v148, Gq) _ ⟨hHeld, (by (with_reducible repeat (first | apply rA' | apply rN' | apply rD')); exact HO145.out), (by (with_reducible repeat (first | apply rA' | apply rN' | apply rD')); exact HO149.out), (by (with_reducible repeat (first | apply rA' | apply rN' | apply rD')); exact Gk.out), (by (with_reducible repeat (first | apply rA' | apply rN' | apply rD')); exact Gl.out), (by (with_reducible repeat (first | refine bN' ?_ _ | refine bD' ?_ | refine bA' ?_ _)); exact Ga.out), (by (with_reducible repeat (first | refine bN' ?_ _ | refine bD' ?_ | refine bA' ?_ _)); exact Gf.out), (by (with_reducible repeat (first | refine bN' ?_ _ | refine bD' ?_ | refine bA' ?_ _)); exact Ge.out), (by (with_reducible repeat (first | refine bN' ?_ _ | refine bD' ?_ | refine bA' ?_ _)); exact Kc.out), GW151.out, Kj.out, Gy.out, Kg.out, Ka.out, Kh.out, Gx.out, Ki.out, (by repeat (first | (with_reducible first | exact HB.out | apply pA' | apply pN' | apply pD' | refine pS' ?_ Gp.out | refine pS' ?_ Gr.out | refine pS' ?_ Gs.out | refine pS' ?_ Kj.out) | exact HB.out))⟩)
          rintro ⟨v138, v141, v144, v148, Gq⟩ w66 ⟨hS_, h0_, h1_, h2_, h3_, h4_, h5_, h6_, h7_, h8_, h9_, h10_, h11_, h12_, h13_, h14_, h15_, h16_⟩
          have n0_ : Aside0 (Kd.R k32 32 w66 w.heap.size (fun k_ => some k_ ≠ (v148 : Value).ownBlock ∧ some k_ ≠ (.slice Ao29 Gi.length co29 : Value).ownBlock ∧ some k_ ≠ (.slice Ao32 Gj.length co32 : Value).ownBlock) v144 y143) := ⟨h0_⟩
          have n1_ : Aside0 (Kd.R k32 32 w66 w.heap.size (fun k_ => some k_ ≠ (v144 : Value).ownBlock ∧ some k_ ≠ (.slice Ao29 Gi.length co29 : Value).ownBlock ∧ some k_ ≠ (.slice Ao32 Gj.length co32 : Value).ownBlock) v148 Ko) := ⟨h1_⟩
          have n2_ : Aside0 (Kd.R k32 32 w66 w.heap.size (fun k_ => some k_ ≠ (v144 : Value).ownBlock ∧ some k_ ≠ (v148 : Value).ownBlock ∧ some k_ ≠ (.slice Ao32 Gj.length co32 : Value).ownBlock) (.slice Ao29 Gi.length co29) Gi) := ⟨h2_⟩
          have n3_ : Aside0 (Kd.R k32 32 w66 w.heap.size (fun k_ => some k_ ≠ (v144 : Value).ownBlock ∧ some k_ ≠ (v148 : Value).ownBlock ∧ some k_ ≠ (.slice Ao29 Gi.length co29 : Value).ownBlock) (.slice Ao32 Gj.length co32) Gj) := ⟨h3_⟩
          have n4_ : Aside0 (w66.heap[Gb]? = some (.cells #[.string Gg, .slice Gm Gh.length Gn] 25 (0, 0))) := ⟨h4_⟩
          have n5_ : Aside0 (w66.heap[Gc]? = some (.cells #[.string Gt, .slice Ao29 Gi.length co29] 25 (0, 0))) := ⟨h5_⟩
          have n6_ : Aside0 (w66.heap[Gd]? = some (.cells #[.string Gu, .slice Ao32 Gj.length co32] 25 (0, 0))) := ⟨h6_⟩
          have n7_ : Aside0 (w66.heap[Gq]? = some (.cells #[.string (⟨#[]⟩ : ByteArray), .slice none 0 0] 25 (0, 0))) := ⟨h7_⟩
          have n8_ : Aside0 (w.heap.size ≤ Gq) := ⟨h8_⟩
          have n9_ : Aside0 (w.heap.size ≤ Gq) := ⟨h9_⟩
          have n10_ : Aside0 (Gb ≠ Gq) := ⟨h10_⟩
          have n11_ : Aside0 (Gq ≠ Gb) := ⟨h11_⟩
          have n12_ : Aside0 (Gc ≠ Gq) := ⟨h12_⟩
          have n13_ : Aside0 (Gq ≠ Gc) := ⟨h13_⟩
          have n14_ : Aside0 (Gd ≠ Gq) := ⟨h14_⟩
          have n15_ : Aside0 (Gq ≠ Gd) := ⟨h15_⟩
          have n16_ : Aside0 (Below w.heap.size w w66) := ⟨h16_⟩
          clear Gk
          clear Gl
          clear Ga
          clear Gf
          clear Ge
          clear HB
          clear h0_ h1_ h2_ h3_ h4_ h5_ h6_ h7_ h8_ h9_ h10_ h11_ h12_ h13_ h14_ h15_ h16_
          have HO145 := n0_
          have HO149 := n1_
          have Gk := n2_
          have Gl := n3_
          have Ga := n4_
          have Gf := n5_
          have Ge := n6_
          have Kc := n7_
          have GW151 := n8_
          have Kj := n9_
          have Gy := n10_
          have Kg := n11_
          have Ka := n12_
          have Kh := n13_
          have Gx := n14_
          have Ki := n15_
          have HB := n16_
          clear n0_ n1_ n2_ n3_ n4_ n5_ n6_ n7_ n8_ n9_ n10_ n11_ n12_ n13_ n14_ n15_ n16_
          have hHeld : w66.cell? ⟨Gb, 0, none⟩ = some (.string Gg) ∧ w66.cell? ⟨Gb, 1, none⟩ = some (.slice Gm Gh.length Gn) ∧ w66.cell? ⟨Gc, 0, none⟩ = some (.string Gt) ∧ w66.cell? ⟨Gc, 1, none⟩ = some (.slice Ao29 Gi.length co29) ∧ w66.cell? ⟨Gd, 0, none⟩ = some (.string Gu) ∧ w66.cell? ⟨Gd, 1, none⟩ = some (.slice Ao32 Gj.length co32) := hS_
          obtain ⟨Ao68, co68, eo68⟩ := Kd.R_slice HO149.out
          (first | subst eo68 | (injection eo68 with f1_ f2_ f3_; have f4_ := f1_.symm; have f5_ := f3_.symm; clear f1_ f2_ f3_; subst f4_; subst f5_))
          refine norm_ (a' := ?_) ?_ ?_
          rotate_left
          ·simp only [putAll, Act.put, sa', sz', ss']
           rfl
          refine one_ (i := 14) (N := none) #[true, true, true, true, true, true, true, true, true, true, true, true, true, true, true, false] rfl rfl (one_of HT_.out (by kernel_rfl)) (by decide) (fun K hK => ?_)
          have hs67 : w66.cell? ⟨Gq, 0, none⟩ = some (.string (⟨#[]⟩ : ByteArray)) := (bC' Kc.out 0).trans rfl
          have hfs67 := blk_frozen Kc.out 0
          have hns67_0 := Gy.out
          have hns67_1 := Ka.out
          have hns67_2 := Gx.out
          have hms67_0 := Kg.out
          have hms67_1 := Kh.out
          have hms67_2 := Ki.out
          have hs69 : w66.cell? ⟨Gq, 1, none⟩ = some (.slice none 0 0) := (bC' Kc.out 1).trans rfl
          have hfs69 := blk_frozen Kc.out 1
          have hns69_0 := Gy.out
          have hns69_1 := Ka.out
          have hns69_2 := Gx.out
          have hms69_0 := Kg.out
          have hms69_1 := Kh.out
          have hms69_2 := Ki.out
          refine skip_ (w1 := ?_) (by rfl) rfl ?_ ?_
          rotate_left
          ·go_simp
           rfl
          refine hK.out _ _ ⟨((cell_far (p := ⟨Gq, _, none⟩) Gy.out _).trans (((cell_far (p := ⟨Gq, _, none⟩) Gy.out _).trans (hHeld.1)))), ((cell_far (p := ⟨Gq, _, none⟩) Gy.out _).trans (((cell_far (p := ⟨Gq, _, none⟩) Gy.out _).trans (hHeld.2.1)))), ((cell_far (p := ⟨Gq, _, none⟩) Ka.out _).trans (((cell_far (p := ⟨Gq, _, none⟩) Ka.out _).trans (hHeld.2.2.1)))), ((cell_far (p := ⟨Gq, _, none⟩) Ka.out _).trans (((cell_far (p := ⟨Gq, _, none⟩) Ka.out _).trans (hHeld.2.2.2.1)))), ((cell_far (p := ⟨Gq, _, none⟩) Gx.out _).trans (((cell_far (p := ⟨Gq, _, none⟩) Gx.out _).trans (hHeld.2.2.2.2.1)))), ((cell_far (p := ⟨Gq, _, none⟩) Gx.out _).trans (((cell_far (p := ⟨Gq, _, none⟩) Gx.out _).trans (hHeld.2.2.2.2.2))))⟩ (fun hHeld => ?_)
          clear hK K
          refine pure_ (i := 15) (N := some 8) (v := ?_) (a' := ?_) #[true, true, true, true, true, true, true, true, true, true, true, true, true, true, true, true] rfl rfl (any_of HT_.out (by kernel_rfl)) (fun _ _ _ h => h) (Or.inl ⟨by rfl, ?_⟩) ?_ ?_
          rotate_left
          ·intro w'
           go_simp
           with_reducible rfl
          rotate_left
          ·simp only [Act.put, sa', sz', ss', i64_w, i32_w]
           rfl
          refine done_ (done_of HT_.out (by kernel_rfl)) ?_
          have hnb70 := Kg.out
          have hnc70 := Gy.out
          have hnb71 := Kh.out
          have hnc71 := Ka.out
          have hnb72 := Ki.out
          have hnc72 := Gx.out
          have hcz73_0 : w66.cell? ⟨Gq, 0, none⟩ = some (.string (⟨#[]⟩ : ByteArray)) := (bC' Kc.out 0).trans rfl
          have hcz73_1 : w66.cell? ⟨Gq, 1, none⟩ = some (.slice none 0 0) := (bC' Kc.out 1).trans rfl
          have hfz73_0 := blk_frozen Kc.out 0
          have hfz73_1 := blk_frozen Kc.out 1
          have hnb74 := Gv.out
          have hnc74 := Kb.out
          have hnb75 := Gw.out
          have hnc75 := Gz.out
          have hcz76_0 : w66.cell? ⟨Gb, 0, none⟩ = some (.string Gg) := (bC' Ga.out 0).trans rfl
          have hcz76_1 : w66.cell? ⟨Gb, 1, none⟩ = some (.slice Gm Gh.length Gn) := (bC' Ga.out 1).trans rfl
          have hfz76_0 := blk_frozen Ga.out 0
          have hfz76_1 := blk_frozen Ga.out 1
          try go_wp2_with (first | (go_at_call 8; (with_reducible refine (tidemillref02_Same.calls kj20 Kk _ _ Ko Gg _ _ Gh Kq _ ?side1 ?side2 ?side3 ?side4 A57.out).mono ?_); (case side1 => refine (Kd.R_reads' (e := 32) (base := w.heap.size) (ok := fun k_ => (some k_ ≠ (v144 : Value).ownBlock ∧ (some k_ ≠ (.slice Ao29 Gi.length co29 : Value).ownBlock ∧ some k_ ≠ (.slice Ao32 Gj.length co32 : Value).ownBlock))) (n := Ko.length) (c := co68) ?_).2.2; exact (by (with_reducible repeat (first | apply rA' | apply rN' | apply rD')); exact (rM' (rF' (p := ⟨Gq, 1, none⟩) (rF' (p := ⟨Gq, 0, none⟩) (rT' HO149.out Kc.out (by decide)) (fun _ hk => hk.2) (.string Kk)) (fun _ hk => hk.2) (.slice Ao68 Ko.length co68)) (fun _ h_ => h_.1)))); (case side2 => exact (Kd.R_reads' HO149.out).2.1); (case side3 => exact Kd.C_below Km.out (by repeat (first | (with_reducible first | exact HB.out | apply pA' | apply pN' | apply pD' | refine pS' ?_ Gp.out | refine pS' ?_ Gr.out | refine pS' ?_ Gs.out | refine pS' ?_ Kj.out) | exact HB.out))); (case side4 => exact Kn.out); rintro e w77 ⟨rfl, hb⟩; have n0_ := am' (rB' (by (with_reducible repeat (first | apply rA' | apply rN' | apply rD')); exact (rM' (rF' (p := ⟨Gq, 1, none⟩) (rF' (p := ⟨Gq, 0, none⟩) (rT' Gk.out Kc.out (by decide)) (fun _ hk => hk.2) (.string Kk)) (fun _ hk => hk.2) (.slice Ao68 Ko.length co68)) (fun _ h_ => h_.1))) hb); have n1_ := am' (rB' (by (with_reducible repeat (first | apply rA' | apply rN' | apply rD')); exact (rM' (rF' (p := ⟨Gq, 1, none⟩) (rF' (p := ⟨Gq, 0, none⟩) (rT' Gl.out Kc.out (by decide)) (fun _ hk => hk.2) (.string Kk)) (fun _ hk => hk.2) (.slice Ao68 Ko.length co68)) (fun _ h_ => h_.1))) hb); have n2_ := am' (rB' (by (with_reducible repeat (first | apply rA' | apply rN' | apply rD')); exact (rM' (rF' (p := ⟨Gq, 1, none⟩) (rF' (p := ⟨Gq, 0, none⟩) (rT' HO145.out Kc.out (by decide)) (fun _ hk => hk.2) (.string Kk)) (fun _ hk => hk.2) (.slice Ao68 Ko.length co68)) (fun _ h_ => h_.1))) hb); have n3_ := am' (rB' (by (with_reducible repeat (first | apply rA' | apply rN' | apply rD')); exact (rM' (rF' (p := ⟨Gq, 1, none⟩) (rF' (p := ⟨Gq, 0, none⟩) (rT' HO149.out Kc.out (by decide)) (fun _ hk => hk.2) (.string Kk)) (fun _ hk => hk.2) (.slice Ao68 Ko.length co68)) (fun _ h_ => h_.1))) hb); have n4_ := am' (bB' (g := Gb) (o := .cells #[.string Gg, .slice Gm Gh.length Gn] 25 (0, 0)) (by (with_reducible repeat (first | refine bN' ?_ _ | refine bD' ?_ | refine bA' ?_ _)); refine blk_far ?_ Gy.out _; (with_reducible repeat (first | refine bN' ?_ _ | refine bD' ?_ | refine bA' ?_ _)); refine blk_far ?_ Gy.out _; (with_reducible repeat (first | refine bN' ?_ _ | refine bD' ?_ | refine bA' ?_ _)); exact Ga.out) hb); have n5_ := am' (bB' (g := Gc) (o := .cells #[.string Gt, .slice Ao29 Gi.length co29] 25 (0, 0)) (by (with_reducible repeat (first | refine bN' ?_ _ | refine bD' ?_ | refine bA' ?_ _)); refine blk_far ?_ Ka.out _; (with_reducible repeat (first | refine bN' ?_ _ | refine bD' ?_ | refine bA' ?_ _)); refine blk_far ?_ Ka.out _; (with_reducible repeat (first | refine bN' ?_ _ | refine bD' ?_ | refine bA' ?_ _)); exact Gf.out) hb); have n6_ := am' (bB' (g := Gd) (o := .cells #[.string Gu, .slice Ao32 Gj.length co32] 25 (0, 0)) (by (with_reducible repeat (first | refine bN' ?_ _ | refine bD' ?_ | refine bA' ?_ _)); refine blk_far ?_ Gx.out _; (with_reducible repeat (first | refine bN' ?_ _ | refine bD' ?_ | refine bA' ?_ _)); refine blk_far ?_ Gx.out _; (with_reducible repeat (first | refine bN' ?_ _ | refine bD' ?_ | refine bA' ?_ _)); exact Ge.out) hb); have n7_ := am' (bB' (g := Gq) (o := .cells #[.string Kk, .slice Ao68 Ko.length co68] 25 (0, 0)) (by (with_reducible repeat (first | refine bN' ?_ _ | refine bD' ?_ | refine bA' ?_ _)); refine blk_put (cs := #[.string Kk, .slice none 0 0]) ?_ 1 _ rfl; (with_reducible repeat (first | refine bN' ?_ _ | refine bD' ?_ | refine bA' ?_ _)); refine blk_put (cs := #[.string (⟨#[]⟩ : ByteArray), .slice none 0 0]) ?_ 0 _ rfl; (with_reducible repeat (first | refine bN' ?_ _ | refine bD' ?_ | refine bA' ?_ _)); exact Kc.out) hb); have n8_ := am' (below_step (by repeat (first | (with_reducible first | exact HB.out | apply pA' | apply pN' | apply pD' | refine pS' ?_ Gp.out | refine pS' ?_ Gr.out | refine pS' ?_ Gs.out | refine pS' ?_ Kj.out) | exact HB.out)) hb); clear Gk; clear Gl; clear HO145; clear HO149; clear Ga; clear Gf; clear Ge; clear Kc; clear HB; have Gk := n0_; have Gl := n1_; have HO145 := n2_; have HO149 := n3_; have Ga := n4_; have Gf := n5_; have Ge := n6_; have Kc := n7_; have HB := n8_; clear n0_ n1_ n2_ n3_ n4_ n5_ n6_ n7_ n8_; (try clear hb); (try clear hb2); (try clear hk); (try clear hi)))
          go_ret
          exact ⟨by first | rfl | (simp [errW_none, errW_some] <;> rfl) | (simp [*, errW_none, errW_some] <;> rfl), by repeat (first | (with_reducible first | exact HB.out | apply pA' | apply pN' | apply pD' | refine pS' ?_ Gp.out | refine pS' ?_ Gr.out | refine pS' ?_ Gs.out | refine pS' ?_ Kj.out) | exact HB.out)⟩
         ·rw [if_neg c56] at H
          exact absurd ((Option.some.inj H).trans HR_.out) (by decide)
        ·rw [if_neg c54] at H
         exact absurd H (by simp)
       ·rw [if_neg c53] at H
        exact absurd H (by simp)

end Go.Proofs.Ytiddemgeehcjpaa.PS
