/- A part of the proof: words, contracts and walks that the other texts of this folder use. -/
-- laid by wip/xprint.py (a program of this session) over the kit's print; Lean checks it
import Derived.Test.YtiddemgeehcjpaaPMx0
namespace Go.Proofs.Ytiddemgeehcjpaa.PM
open Go.RowKit Go.Proofs.Ytiddemgeehcjpaa.PA Go.Proofs.Ytiddemgeehcjpaa.H Go.Proofs.YtiddemgeehcjpaaW.PrintWords Go.Proofs.YtiddemgeehcjpaaW.PrintLast Go.Proofs.YtiddemgeehcjpaaW.PrintMore
attribute [local go_sem] max2_int min2_int max_two min_two max_three min_three max_four min_four   -- for this text's walks alone
set_option linter.unusedVariables false
set_option linter.unusedSimpArgs false

/-! ### tidemillref02_Make: function 7 -/
mutual
def tidemillref02_Make.l0 : Nat → ByteArray → List (S32) → Int → Int → Option (ByteArray × (List (S32)) × Int)
  | 0, _, _, _, _ => none
  | k + 1, x0, x1, x15, x16 => if x16 < x15 then (if 0 ≤ x16 then (if x16 < (x1.length : Int) then ((tidemillref02_Word.f k ((rd_T32 x1 x16).f0)).bind fun t104 => (if t104 = true then ((tidemillref02_Value.f k ((rd_T32 x1 x16).f1)).bind fun t106 => (if t106 = true then (tidemillref02_Make.l0 k x0 x1 x15 (wrap64 (x16 + 1))) else (some ((⟨#[]⟩ : ByteArray), ([] : List (S32)), 10)))) else (some ((⟨#[]⟩ : ByteArray), ([] : List (S32)), 10)))) else (none)) else (none)) else (tidemillref02_Make.l1 k x0 x1 ([] : List (S32)) (x1.length : Int) 0)
def tidemillref02_Make.l1 : Nat → ByteArray → List (S32) → List (S32) → Int → Int → Option (ByteArray × (List (S32)) × Int)
  | 0, _, _, _, _, _ => none
  | k + 1, x0, x1, x7, x38, x39 => if x39 < x38 then (tidemillref02_Make.l2 k x0 x1 x7 x39 0 x38 x39) else (if (x7.length : Int) > 6 then (some ((⟨#[]⟩ : ByteArray), ([] : List (S32)), 3)) else (some (x0, x7, 0)))
def tidemillref02_Make.l2 : Nat → ByteArray → List (S32) → List (S32) → Int → Int → Int → Int → Option (ByteArray × (List (S32)) × Int)
  | 0, _, _, _, _, _, _, _ => none
  | k + 1, x0, x1, x7, x8, x9, x38, x39 => if x9 < (x7.length : Int) then (if 0 ≤ x9 then (if 0 ≤ x8 then (if x8 < (x1.length : Int) then ((tidemillref01_Texts.f k ((rd_T32 x7 x9).f0) ((rd_T32 x1 x8).f0)).bind fun t109 => (if t109 < 0 then (tidemillref02_Make.l2 k x0 x1 x7 x8 (wrap64 (x9 + 1)) x38 x39) else (if ((rd_T32 x7 x9).f0).toList = ((rd_T32 x1 x8).f0).toList then (some ((⟨#[]⟩ : ByteArray), ([] : List (S32)), 6)) else ((some (([] : List (S32)) : List (S32))).bind fun y112 => (if x9 ≤ (x7.length : Int) then ((some (x7.take (x9 : Int).toNat : List (S32))).bind fun y115 => (if y112.length + y115.length < 4398046511104 then ((some (y112 ++ y115 : List (S32))).bind fun y119 => ((some (([(⟨(rd_T32 x1 x8).f0, (rd_T32 x1 x8).f1⟩ : S32)] : List (S32)) : List (S32))).bind fun y123 => (if y119.length + y123.length < 4398046511104 then ((some (y119 ++ y123 : List (S32))).bind fun y126 => ((some (x7.drop (x9 : Int).toNat : List (S32))).bind fun y129 => (if y126.length + y129.length < 4398046511104 then (tidemillref02_Make.l1 k x0 x1 (y126 ++ y129) x38 (wrap64 (x39 + 1))) else (none)))) else (none)))) else (none))) else (none)))))) else (none)) else (none)) else (none)) else ((some (([] : List (S32)) : List (S32))).bind fun y136 => (if 0 ≤ x9 then (if x9 ≤ (x7.length : Int) then ((some (x7.take (x9 : Int).toNat : List (S32))).bind fun y139 => (if y136.length + y139.length < 4398046511104 then ((some (y136 ++ y139 : List (S32))).bind fun y143 => (if 0 ≤ x8 then (if x8 < (x1.length : Int) then ((some (([(⟨(rd_T32 x1 x8).f0, (rd_T32 x1 x8).f1⟩ : S32)] : List (S32)) : List (S32))).bind fun y147 => (if y143.length + y147.length < 4398046511104 then ((some (y143 ++ y147 : List (S32))).bind fun y150 => ((some (x7.drop (x9 : Int).toNat : List (S32))).bind fun y153 => (if y150.length + y153.length < 4398046511104 then (tidemillref02_Make.l1 k x0 x1 (y150 ++ y153) x38 (wrap64 (x39 + 1))) else (none)))) else (none))) else (none)) else (none))) else (none))) else (none)) else (none)))
end
def tidemillref02_Make.f (k : Nat) (a0 : ByteArray) (l1 : List (S32)) : Option (ByteArray × (List (S32)) × Int) := (tidemillref02_Name.f k a0).bind fun t102 => (if t102 = true then (tidemillref02_Make.l0 k a0 l1 (l1.length : Int) 0) else (some ((⟨#[]⟩ : ByteArray), ([] : List (S32)), 7)))
def tidemillref02_Make.T14 : Bool × List (List Nat × List Nat) := (true, [([], []), ([], []), ([1], [1]), ([0, 2], [0, 2]), ([3], [3]), ([4], [4]), ([4], [4]), ([5, 6, 4], [4, 5, 6]), ([7, 4], [4, 7]), ([8, 4], [4, 8]), ([4], [4]), ([4], [4]), ([10, 11, 4], [4, 10, 11]), ([12, 4], [4, 12]), ([13, 4], [4, 13]), ([9, 14, 4, 4], [4, 9, 14]), ([15, 4], [4, 15]), ([4, 16], [4, 16])])
def tidemillref02_Make.B14 : List Nat := [0, 0, 2, 7, 15, 31, 31, 127, 255, 511, 31, 31, 3103, 7199, 15391, 32767, 65535, 131071]
theorem tidemillref02_Make.tab14 : rtab .any (opsOf Try.f7 14) = tidemillref02_Make.T14 := by kernel_rfl
theorem tidemillref02_Make.bits14 : waitsOk tidemillref02_Make.T14.2 tidemillref02_Make.B14 = true := by kernel_rfl
def tidemillref02_Make.T16 : Bool × List (List Nat × List Nat) := (true, [([], []), ([], []), ([1], [1]), ([0, 2], [0, 2]), ([3], [3]), ([4], [4]), ([4], [4]), ([5, 6, 4], [4, 5, 6]), ([7, 4], [4, 7]), ([8, 4], [4, 8]), ([4], [4]), ([4], [4]), ([10, 11, 4], [4, 10, 11]), ([12, 4], [4, 12]), ([13, 4], [4, 13]), ([9, 14, 4], [4, 9, 14]), ([4, 15], [4, 15])])
def tidemillref02_Make.B16 : List Nat := [0, 0, 2, 7, 15, 31, 31, 127, 255, 511, 31, 31, 3103, 7199, 15391, 32767, 65535]
theorem tidemillref02_Make.tab16 : rtab .any (opsOf Try.f7 16) = tidemillref02_Make.T16 := by kernel_rfl
theorem tidemillref02_Make.bits16 : waitsOk tidemillref02_Make.T16.2 tidemillref02_Make.B16 = true := by kernel_rfl
def tidemillref02_Make.T18 : Bool × List (List Nat × List Nat) := (true, [([], []), ([], []), ([], []), ([1, 2], [1, 2]), ([0, 3], [0, 3]), ([], []), ([], []), ([5, 6], [5, 6]), ([7], [7]), ([8], [8]), ([4, 9, 4], [4, 9]), ([], []), ([], []), ([11, 12], [11, 12]), ([10, 13, 10], [10, 13]), ([14, 14, 0, 1, 2, 3, 4, 5, 6, 7, 8, 9, 10, 11, 12, 13, 14], [1, 11, 14])])
def tidemillref02_Make.B18 : List Nat := [0, 0, 0, 6, 15, 0, 0, 96, 224, 480, 1023, 0, 0, 6144, 16383, 32767]
theorem tidemillref02_Make.tab18 : rtab .any (opsOf Try.f7 18) = tidemillref02_Make.T18 := by kernel_rfl
theorem tidemillref02_Make.bits18 : waitsOk tidemillref02_Make.T18.2 tidemillref02_Make.B18 = true := by kernel_rfl
theorem bN' : type_of% @blk_drewN := @blk_drewN
theorem bD' : type_of% @blk_drew := @blk_drew
theorem bA' : type_of% @blk_alloc := @blk_alloc
theorem rA' : type_of% @Kd.R_alloc := @Kd.R_alloc
theorem rN' : type_of% @Kd.R_drewN := @Kd.R_drewN
theorem rD' : type_of% @Kd.R_drew := @Kd.R_drew
theorem pN' : type_of% @pw_below_drewN := @pw_below_drewN
theorem pA' : type_of% @below_alloc := @below_alloc
theorem pD' : type_of% @below_drew1 := @below_drew1
theorem pS' : type_of% @below_set := @below_set
theorem am' : type_of% @Aside0.mk := @Aside0.mk
theorem sa' : type_of% @List.setIfInBounds_toArray := @List.setIfInBounds_toArray
theorem sz' : type_of% @List.set_cons_zero := @List.set_cons_zero
theorem ss' : type_of% @List.set_cons_succ := @List.set_cons_succ
theorem pz' : type_of% @below_size := @below_size
theorem bB' : type_of% @blk_below := @blk_below
theorem bG' : type_of% @blk_grown := @blk_grown
theorem bC' : type_of% @blk_cell := @blk_cell
theorem rM' : type_of% @Kd.R_mono := @Kd.R_mono
theorem rF' : type_of% @Kd.R_far := @Kd.R_far
theorem rT' : type_of% @Kd.R_types := @Kd.R_types
set_option maxHeartbeats 8000000 in
set_option maxRecDepth 100000 in
theorem tidemillref02_Make.calls (k : Nat) (a0 : ByteArray) (A1 : Option Addr) (c1 : Nat) (l1 : List (S32)) (r1 : ByteArray) (r2 : List (S32)) (r3 : Int) (w : World) (hr1 : Kd.C k32 w A1 l1.length l1) (hc1 : l1.length ≤ c1) (h : tidemillref02_Make.f k a0 l1 = some (r1, r2, r3)) :
  Calls Try.prog 7 #[.string a0, .slice A1 l1.length c1] w fun e w' => ∃ v1_ : Value, e = .returned (.tuple #[.agg #[.string r1, v1_], .int .i64 r3]) ∧ Kd.R k32 32 w' w.heap.size (fun _ => True) v1_ r2 ∧ Below w.heap.size w w' := by
 have hu25 := Try.underlying25
 have hu32 := Try.underlying32
 have HR1 := am' hr1
 have HC1 := am' hc1
 clear hr1 hc1
 have HB := am' (Below.refl w.heap.size w)
 have H : ((tidemillref02_Name.f k a0).bind fun Gg => (if Gg = true then (tidemillref02_Make.l0 k a0 l1 (l1.length : Int) 0) else (some ((⟨#[]⟩ : ByteArray), ([] : List (S32)), 7)))) = some (r1, r2, r3) := h
 clear h
 replace H := Option.bind_eq_some_iff.mp H
 obtain ⟨Gg, A30, H⟩ := H
 replace H : (if Gg = true then (tidemillref02_Make.l0 k a0 l1 (l1.length : Int) 0) else (some ((⟨#[]⟩ : ByteArray), ([] : List (S32)), 7))) = some (r1, r2, r3) := H
 have A3 := am' A30
 clear A30
 by_cases c4 : Gg = true
 ·subst c4
  have H1 : (tidemillref02_Make.l0 k a0 l1 (l1.length : Int) 0) = some (r1, r2, r3) := by rw [if_pos rfl] at H; exact H
  clear H
  have H := H1
  clear H1
  have H' := am' H
  clear H
  go_enter Try.func7, Try.ntmps7
  go_wp2_with (first | ((with_reducible refine gate_dst (N := 4) rfl ?_); refine box_event ?hg (N := 4) ?hd (cs := #[.string (⟨#[]⟩ : ByteArray), .slice none 0 0]) (t := 25) ?hr ?_; (case hd => rfl); (case hg => rfl); (case hr => first | (go_simp; done) | (go_simp; rfl)); intro Gd hg w5 hbox hb; have n0_ := am' (below_step (by repeat (first | (with_reducible first | exact HB.out | apply pA' | apply pN' | apply pD') | exact HB.out)) hb); have n1_ := am' (hbox); have n2_ := am' ((by rw [hg]; exact (pz' (by repeat (first | (with_reducible first | exact HB.out | apply pA' | apply pN' | apply pD') | exact HB.out))) : w.heap.size ≤ Gd)); have n3_ := am' ((by rw [hg]; exact (pz' (by repeat (first | (with_reducible first | exact HB.out | apply pA' | apply pN' | apply pD') | exact HB.out))) : w.heap.size ≤ Gd)); clear HB; have HB := n0_; have Ga := n1_; have GW101 := n2_; have Gc := n3_; clear n0_ n1_ n2_ n3_; clear hb hbox hg) | ((with_reducible refine gate_callee (f := 21) rfl ?_); refine goesL_ (some 11) rfl rfl Try.func21 (by kernel_rfl) rfl #[.string a0] rfl (by (try simp only [List.map_toArray, List.map_cons, List.map_nil]); first | done | rfl | (simp only [List.length_drop, List.length_take]; rfl)) ?_; (with_reducible refine (tidemillref02_Name.calls k a0 true _ A3.out).mono ?_); rintro e w' ⟨rfl, ⟨nd, rfl⟩⟩; refine ⟨_, rfl, ?_⟩))
  go_loopg [16] k (fun kq v16 w' => ∃ (x16_1 : Int) (x102000_1 : ByteArray), v16 = .int .i64 x16_1 ∧ Aside0 (tidemillref02_Make.l0 kq a0 l1 (l1.length : Int) x16_1 = some (r1, r2, r3)) ∧ Aside0 (kq ≤ k) ∧ Aside0 (w'.heap[Gd]? = some (.cells #[.string x102000_1, (.slice none 0 0)] 25 (0, 0))) ∧ Aside0 (Below w.heap.size w w'))
  case atStart => exact ⟨(0), ((⟨#[]⟩ : ByteArray)), (by first | rfl | (simp; done) | (simp [*]; done)), H', ⟨Nat.le_refl _⟩, ⟨by (with_reducible repeat (first | refine bN' ?_ _ | refine bD' ?_ | refine bA' ?_ _)); exact Ga.out⟩, ⟨by repeat (first | (with_reducible first | exact HB.out | apply pA' | apply pN' | apply pD' | refine pS' ?_ Gc.out) | exact HB.out)⟩⟩
  case round =>
   clear H'
   try clear c1
   try clear c2
   try clear p2
   try clear c4
   obtain ⟨x16_1, x102000_1, rfl, HA, HK1, Ga, HB⟩ := hrel
   cases gk with
   | zero => exact absurd HA.out (by simp [tidemillref02_Make.l0])
   | succ k1 =>
    have H := HA.out
    clear HA
    simp only [tidemillref02_Make.l0] at H
    by_cases c6 : x16_1 < (l1.length : Int)
    ·rw [if_pos c6] at H
     have c6b0 : decide (x16_1 < (l1.length : Int)) = true := decide_eq_true c6
     clear c6
     by_cases c7 : 0 ≤ x16_1
     ·rw [if_pos c7] at H
      have c7b0 : decide (0 ≤ x16_1) = true := decide_eq_true c7
      clear c7
      by_cases c8 : x16_1 < (l1.length : Int)
      ·rw [if_pos c8] at H
       have c8b0 : decide (x16_1 < (l1.length : Int)) = true := decide_eq_true c8
       clear c8
       replace H := Option.bind_eq_some_iff.mp H
       obtain ⟨Gh, A90, H⟩ := H
       replace H : (if Gh = true then ((tidemillref02_Value.f k1 ((rd_T32 l1 x16_1).f1)).bind fun Gf => (if Gf = true then (tidemillref02_Make.l0 k1 a0 l1 (l1.length : Int) (wrap64 (x16_1 + 1))) else (some ((⟨#[]⟩ : ByteArray), ([] : List (S32)), 10)))) else (some ((⟨#[]⟩ : ByteArray), ([] : List (S32)), 10))) = some (r1, r2, r3) := H
       have A9 := am' A90
       clear A90
       by_cases c10 : Gh = true
       ·subst c10
        have H1 : ((tidemillref02_Value.f k1 ((rd_T32 l1 x16_1).f1)).bind fun Gf => (if Gf = true then (tidemillref02_Make.l0 k1 a0 l1 (l1.length : Int) (wrap64 (x16_1 + 1))) else (some ((⟨#[]⟩ : ByteArray), ([] : List (S32)), 10)))) = some (r1, r2, r3) := by rw [if_pos rfl] at H; exact H
        clear H
        have H := H1
        clear H1
        replace H := Option.bind_eq_some_iff.mp H
        obtain ⟨Gf, A110, H⟩ := H
        replace H : (if Gf = true then (tidemillref02_Make.l0 k1 a0 l1 (l1.length : Int) (wrap64 (x16_1 + 1))) else (some ((⟨#[]⟩ : ByteArray), ([] : List (S32)), 10))) = some (r1, r2, r3) := H
        have A11 := am' A110
        clear A110
        by_cases c12 : Gf = true
        ·subst c12
         have H1 : (tidemillref02_Make.l0 k1 a0 l1 (l1.length : Int) (wrap64 (x16_1 + 1))) = some (r1, r2, r3) := by rw [if_pos rfl] at H; exact H
         clear H
         have H := H1
         clear H1
         have H' := am' H
         clear H
         have p103 : 0 ≤ (x16_1 : Int) := of_decide_eq_true (by first | (with_reducible assumption) | assumption)
         have q103 : x16_1 < (l1.length : Int) := of_decide_eq_true (by first | (with_reducible assumption) | assumption)
         obtain ⟨ad103, e103, hx103_0, hx103_1⟩ := at_T32 HR1.out x16_1 p103 q103
         cases e103
         replace hx103_0 := (HB.out.cell (World.block_lt_of_cell? w _ hx103_0)).trans hx103_0
         replace hx103_1 := (HB.out.cell (World.block_lt_of_cell? w _ hx103_1)).trans hx103_1
         replace p103 := eq_true p103
         replace q103 := eq_true q103
         go_wp2_with (first | ((with_reducible refine gate_callee (f := 22) rfl ?_); refine goesL_ (some 24) rfl rfl Try.func22 (by kernel_rfl) rfl #[.string ((rd_T32 l1 x16_1).f0)] rfl (by (try simp only [List.map_toArray, List.map_cons, List.map_nil]); first | done | rfl | (simp only [List.length_drop, List.length_take]; rfl)) ?_; (with_reducible refine (tidemillref02_Word.calls k1 ((rd_T32 l1 x16_1).f0) true _ A9.out).mono ?_); rintro e w' ⟨rfl, ⟨nd, rfl⟩⟩; refine ⟨_, rfl, ?_⟩; have p105 : 0 ≤ (x16_1 : Int) := of_decide_eq_true (by first | (with_reducible assumption) | assumption); have q105 : x16_1 < (l1.length : Int) := of_decide_eq_true (by first | (with_reducible assumption) | assumption); obtain ⟨ad105, e105, hx105_0, hx105_1⟩ := at_T32 HR1.out x16_1 p105 q105; obtain rfl : ad103 = ad105 := (by injection e105); replace hx105_0 := (HB.out.cell (World.block_lt_of_cell? w _ hx105_0)).trans hx105_0; replace hx105_1 := (HB.out.cell (World.block_lt_of_cell? w _ hx105_1)).trans hx105_1; replace p105 := eq_true p105; replace q105 := eq_true q105) | (go_at_call 23; (with_reducible refine (tidemillref02_Value.calls k1 ((rd_T32 l1 x16_1).f1) true _ A11.out).mono ?_); rintro e w' ⟨rfl, ⟨nd, rfl⟩⟩))
         go_roundg k1
         case measure => have := HK1.out; omega
         case rel => exact ⟨(wrap64 (x16_1 + 1)), (x102000_1), (by first | rfl | (simp; done) | (simp [*]; done)), H', ⟨by have := HK1.out; omega⟩, ⟨by (with_reducible repeat (first | refine bN' ?_ _ | refine bD' ?_ | refine bA' ?_ _)); exact Ga.out⟩, ⟨by repeat (first | (with_reducible first | exact HB.out | apply pA' | apply pN' | apply pD' | refine pS' ?_ Gc.out) | exact HB.out)⟩⟩
        ·replace c12 := Bool.eq_false_iff.mpr c12
         subst c12
         have H1 : (some ((⟨#[]⟩ : ByteArray), ([] : List (S32)), 10)) = some (r1, r2, r3) := by rw [if_neg (show ¬ (false = true) by decide)] at H; exact H
         clear H
         have H := H1
         clear H1
         simp only [Option.some.injEq, Prod.mk.injEq] at H
         obtain ⟨rfl, rfl, rfl⟩ := H
         have p103 : 0 ≤ (x16_1 : Int) := of_decide_eq_true (by first | (with_reducible assumption) | assumption)
         have q103 : x16_1 < (l1.length : Int) := of_decide_eq_true (by first | (with_reducible assumption) | assumption)
         obtain ⟨ad103, e103, hx103_0, hx103_1⟩ := at_T32 HR1.out x16_1 p103 q103
         cases e103
         replace hx103_0 := (HB.out.cell (World.block_lt_of_cell? w _ hx103_0)).trans hx103_0
         replace hx103_1 := (HB.out.cell (World.block_lt_of_cell? w _ hx103_1)).trans hx103_1
         replace p103 := eq_true p103
         replace q103 := eq_true q103
         go_wp2_with (first | ((with_reducible refine gate_callee (f := 22) rfl ?_); refine goesL_ (some 24) rfl rfl Try.func22 (by kernel_rfl) rfl #[.string ((rd_T32 l1 x16_1).f0)] rfl (by (try simp only [List.map_toArray, List.map_cons, List.map_nil]); first | done | rfl | (simp only [List.length_drop, List.length_take]; rfl)) ?_; (with_reducible refine (tidemillref02_Word.calls k1 ((rd_T32 l1 x16_1).f0) true _ A9.out).mono ?_); rintro e w' ⟨rfl, ⟨nd, rfl⟩⟩; refine ⟨_, rfl, ?_⟩; (try (rw [drewN_self wr]; generalize hq_ : World.drewN wr _ = wr; have n0_ : Aside0 (wr.heap[Gd]? = some (.cells #[.string x102000_1, .slice none 0 0] 25 (0, 0))) := ⟨by rw [← hq_]; exact (by (with_reducible repeat (first | refine bN' ?_ _ | refine bD' ?_ | refine bA' ?_ _)); exact Ga.out)⟩; have n1_ : Aside0 (Below w.heap.size w wr) := ⟨by rw [← hq_]; exact (by repeat (first | (with_reducible first | exact HB.out | apply pA' | apply pN' | apply pD' | refine pS' ?_ Gc.out) | exact HB.out))⟩; clear Ga HB hq_; have Ga := n0_; have HB := n1_; clear n0_ n1_)); have p105 : 0 ≤ (x16_1 : Int) := of_decide_eq_true (by first | (with_reducible assumption) | assumption); have q105 : x16_1 < (l1.length : Int) := of_decide_eq_true (by first | (with_reducible assumption) | assumption); obtain ⟨ad105, e105, hx105_0, hx105_1⟩ := at_T32 HR1.out x16_1 p105 q105; obtain rfl : ad103 = ad105 := (by injection e105); replace hx105_0 := (HB.out.cell (World.block_lt_of_cell? w _ hx105_0)).trans hx105_0; replace hx105_1 := (HB.out.cell (World.block_lt_of_cell? w _ hx105_1)).trans hx105_1; replace p105 := eq_true p105; replace q105 := eq_true q105) | (go_at_call 23; (with_reducible refine (tidemillref02_Value.calls k1 ((rd_T32 l1 x16_1).f1) false _ A11.out).mono ?_); rintro e w' ⟨rfl, ⟨nd, rfl⟩⟩; (try (rw [drewN_self wr]; generalize hq_ : World.drewN wr _ = wr; have n0_ : Aside0 (wr.heap[Gd]? = some (.cells #[.string x102000_1, .slice none 0 0] 25 (0, 0))) := ⟨by rw [← hq_]; exact (by (with_reducible repeat (first | refine bN' ?_ _ | refine bD' ?_ | refine bA' ?_ _)); exact Ga.out)⟩; have n1_ : Aside0 (Below w.heap.size w wr) := ⟨by rw [← hq_]; exact (by repeat (first | (with_reducible first | exact HB.out | apply pA' | apply pN' | apply pD' | refine pS' ?_ Gc.out) | exact HB.out))⟩; clear Ga HB hq_; have Ga := n0_; have HB := n1_; clear n0_ n1_)); have hcz13_0 : wr.cell? ⟨Gd, 0, none⟩ = some (.string x102000_1) := (bC' Ga.out 0).trans rfl; have hcz13_1 : wr.cell? ⟨Gd, 1, none⟩ = some (.slice none 0 0) := (bC' Ga.out 1).trans rfl; have hfz13_0 := blk_frozen Ga.out 0; have hfz13_1 := blk_frozen Ga.out 1))
         refine bodyPost_ret (results_ct rfl _ _ Gd 25 #[.string (⟨#[]⟩ : ByteArray), .slice none 0 0] (0, 0) _ rfl (by (with_reducible repeat (first | refine bN' ?_ _ | refine bD' ?_ | refine bA' ?_ _)); refine blk_put (cs := #[.string (⟨#[]⟩ : ByteArray), .slice none 0 0]) ?_ 1 _ rfl; (with_reducible repeat (first | refine bN' ?_ _ | refine bD' ?_ | refine bA' ?_ _)); refine blk_put (cs := #[.string x102000_1, .slice none 0 0]) ?_ 0 _ rfl; (with_reducible repeat (first | refine bN' ?_ _ | refine bD' ?_ | refine bA' ?_ _)); exact Ga.out) Try.underlying25 rfl (by kernel_rfl)) rfl ?_
         exact ⟨_, by first | rfl | (simp [errW_none, errW_some] <;> rfl) | (simp [*, errW_none, errW_some] <;> rfl), by first | exact Kd.R_nil _ _ _ _ _ | exact Kd.N_nil _ _ _ _ _ | exact Kd.V_nil _ _ _ _ _ | exact Kd.Q_nil _ _ _ _ _ | exact Kd.S_nil _ _ _ _ _, by repeat (first | (with_reducible first | exact HB.out | apply pA' | apply pN' | apply pD' | refine pS' ?_ Gc.out) | exact HB.out)⟩
       ·replace c10 := Bool.eq_false_iff.mpr c10
        subst c10
        have H1 : (some ((⟨#[]⟩ : ByteArray), ([] : List (S32)), 10)) = some (r1, r2, r3) := by rw [if_neg (show ¬ (false = true) by decide)] at H; exact H
        clear H
        have H := H1
        clear H1
        simp only [Option.some.injEq, Prod.mk.injEq] at H
        obtain ⟨rfl, rfl, rfl⟩ := H
        have p103 : 0 ≤ (x16_1 : Int) := of_decide_eq_true (by first | (with_reducible assumption) | assumption)
        have q103 : x16_1 < (l1.length : Int) := of_decide_eq_true (by first | (with_reducible assumption) | assumption)
        obtain ⟨ad103, e103, hx103_0, hx103_1⟩ := at_T32 HR1.out x16_1 p103 q103
        cases e103
        replace hx103_0 := (HB.out.cell (World.block_lt_of_cell? w _ hx103_0)).trans hx103_0
        replace hx103_1 := (HB.out.cell (World.block_lt_of_cell? w _ hx103_1)).trans hx103_1
        replace p103 := eq_true p103
        replace q103 := eq_true q103
        go_wp2_with (first | ((with_reducible refine gate_callee (f := 22) rfl ?_); refine goesL_ (some 24) rfl rfl Try.func22 (by kernel_rfl) rfl #[.string ((rd_T32 l1 x16_1).f0)] rfl (by (try simp only [List.map_toArray, List.map_cons, List.map_nil]); first | done | rfl | (simp only [List.length_drop, List.length_take]; rfl)) ?_; (with_reducible refine (tidemillref02_Word.calls k1 ((rd_T32 l1 x16_1).f0) false _ A9.out).mono ?_); rintro e w' ⟨rfl, ⟨nd, rfl⟩⟩; refine ⟨_, rfl, ?_⟩; (try (rw [drewN_self wr]; generalize hq_ : World.drewN wr _ = wr; have n0_ : Aside0 (wr.heap[Gd]? = some (.cells #[.string x102000_1, .slice none 0 0] 25 (0, 0))) := ⟨by rw [← hq_]; exact (by (with_reducible repeat (first | refine bN' ?_ _ | refine bD' ?_ | refine bA' ?_ _)); exact Ga.out)⟩; have n1_ : Aside0 (Below w.heap.size w wr) := ⟨by rw [← hq_]; exact (by repeat (first | (with_reducible first | exact HB.out | apply pA' | apply pN' | apply pD' | refine pS' ?_ Gc.out) | exact HB.out))⟩; clear Ga HB hq_; have Ga := n0_; have HB := n1_; clear n0_ n1_)); have hcz14_0 : wr.cell? ⟨Gd, 0, none⟩ = some (.string x102000_1) := (bC' Ga.out 0).trans rfl; have hcz14_1 : wr.cell? ⟨Gd, 1, none⟩ = some (.slice none 0 0) := (bC' Ga.out 1).trans rfl; have hfz14_0 := blk_frozen Ga.out 0; have hfz14_1 := blk_frozen Ga.out 1))
        refine bodyPost_ret (results_ct rfl _ _ Gd 25 #[.string (⟨#[]⟩ : ByteArray), .slice none 0 0] (0, 0) _ rfl (by (with_reducible repeat (first | refine bN' ?_ _ | refine bD' ?_ | refine bA' ?_ _)); refine blk_put (cs := #[.string (⟨#[]⟩ : ByteArray), .slice none 0 0]) ?_ 1 _ rfl; (with_reducible repeat (first | refine bN' ?_ _ | refine bD' ?_ | refine bA' ?_ _)); refine blk_put (cs := #[.string x102000_1, .slice none 0 0]) ?_ 0 _ rfl; (with_reducible repeat (first | refine bN' ?_ _ | refine bD' ?_ | refine bA' ?_ _)); exact Ga.out) Try.underlying25 rfl (by kernel_rfl)) rfl ?_
        exact ⟨_, by first | rfl | (simp [errW_none, errW_some] <;> rfl) | (simp [*, errW_none, errW_some] <;> rfl), by first | exact Kd.R_nil _ _ _ _ _ | exact Kd.N_nil _ _ _ _ _ | exact Kd.V_nil _ _ _ _ _ | exact Kd.Q_nil _ _ _ _ _ | exact Kd.S_nil _ _ _ _ _, by repeat (first | (with_reducible first | exact HB.out | apply pA' | apply pN' | apply pD' | refine pS' ?_ Gc.out) | exact HB.out)⟩
      ·rw [if_neg c8] at H
       exact absurd H (by simp)
     ·rw [if_neg c7] at H
      exact absurd H (by simp)
    ·rw [if_neg c6] at H
     have c6b0 : decide (x16_1 < (l1.length : Int)) = false := decide_eq_false c6
     clear c6
     have H' := am' H
     clear H
     go_wp2
     go_loopg [7, 39] k1 (fun kq v7 v39 w' => ∃ (x7_2 : List (S32)) (x39_2 : Int) (x102000_2 : ByteArray), v39 = .int .i64 x39_2 ∧ Aside0 (tidemillref02_Make.l1 kq a0 l1 x7_2 (l1.length : Int) x39_2 = some (r1, r2, r3)) ∧ Aside0 (kq ≤ k1) ∧ Aside0 (Kd.R k32 32 w' w.heap.size (fun _ => True) v7 x7_2) ∧ Aside0 (w'.heap[Gd]? = some (.cells #[.string x102000_2, (.slice none 0 0)] 25 (0, 0))) ∧ Aside0 (Below w.heap.size w w'))
     case atStart => exact ⟨(([] : List (S32))), (0), (x102000_1), (by first | rfl | (simp; done) | (simp [*]; done)), H', ⟨Nat.le_refl _⟩, ⟨by first | exact Kd.R_nil _ _ _ _ _ | exact Kd.N_nil _ _ _ _ _ | exact Kd.V_nil _ _ _ _ _ | exact Kd.Q_nil _ _ _ _ _ | exact Kd.S_nil _ _ _ _ _⟩, ⟨by (with_reducible repeat (first | refine bN' ?_ _ | refine bD' ?_ | refine bA' ?_ _)); exact Ga.out⟩, ⟨by repeat (first | (with_reducible first | exact HB.out | apply pA' | apply pN' | apply pD' | refine pS' ?_ Gc.out) | exact HB.out)⟩⟩
     case round =>
      clear H'
      try clear c1
      try clear p1
      try clear q1
      try clear hx1
      try clear c2
      try clear p2
      try clear c4
      try clear c6
      try clear c6b0
      try clear p6
      try clear c7
      try clear c7b0
      try clear c8
      try clear c8b0
      try clear c10
      try clear p10
      try clear q10
      try clear hx10
      try clear c12
      try clear hcz13_0
      try clear hcz13_1
      try clear hcz14_0
      try clear hcz14_1
      try clear hfz13_0
      try clear hfz13_1
      try clear hfz14_0
      try clear hfz14_1
      try clear hx103_0
      try clear hx103_1
      try clear hx105_0
      try clear hx105_1
      try clear p103
      try clear p105
      try clear p2
      try clear q103
      try clear q105
      obtain ⟨x7_2, x39_2, x102000_2, rfl, HA, HK2, Gb, Ga, HB⟩ := hrel
      cases gk with
      | zero => exact absurd HA.out (by simp [tidemillref02_Make.l1])
      | succ k2 =>
       have H := HA.out
       clear HA
       simp only [tidemillref02_Make.l1] at H
       by_cases c15 : x39_2 < (l1.length : Int)
       ·rw [if_pos c15] at H
        have c15b0 : decide (x39_2 < (l1.length : Int)) = true := decide_eq_true c15
        clear c15
        have H' := am' H
        clear H
        go_wp2
        go_loopg [9] k2 (fun kq v9 w' => ∃ (x9_3 : Int), v9 = .int .i64 x9_3 ∧ Aside0 (tidemillref02_Make.l2 kq a0 l1 x7_2 x39_2 x9_3 (l1.length : Int) x39_2 = some (r1, r2, r3)) ∧ Aside0 (kq ≤ k2) ∧ Aside0 (Kd.R k32 32 w' w.heap.size (fun _ => True) u7 x7_2) ∧ Aside0 (w'.heap[Gd]? = some (.cells #[.string x102000_2, (.slice none 0 0)] 25 (0, 0))) ∧ Aside0 (Below w.heap.size w w'))
        case atStart => exact ⟨(0), (by first | rfl | (simp; done) | (simp [*]; done)), H', ⟨Nat.le_refl _⟩, ⟨by (with_reducible repeat (first | apply rA' | apply rN' | apply rD')); exact Gb.out⟩, ⟨by (with_reducible repeat (first | refine bN' ?_ _ | refine bD' ?_ | refine bA' ?_ _)); exact Ga.out⟩, ⟨by repeat (first | (with_reducible first | exact HB.out | apply pA' | apply pN' | apply pD' | refine pS' ?_ Gc.out) | exact HB.out)⟩⟩
        case round =>
         clear H'
         try clear c1
         try clear p1
         try clear q1
         try clear hx1
         try clear c2
         try clear p2
         try clear c4
         try clear c6
         try clear c6b0
         try clear p6
         try clear c7
         try clear c7b0
         try clear c8
         try clear c8b0
         try clear c10
         try clear p10
         try clear q10
         try clear hx10
         try clear c12
         try clear c15
         try clear c15b0
         try clear hcz13_0
         try clear hcz13_1
         try clear hcz14_0
         try clear hcz14_1
         try clear hfz13_0
         try clear hfz13_1
         try clear hfz14_0
         try clear hfz14_1
         try clear hx103_0
         try clear hx103_1
         try clear hx105_0
         try clear hx105_1
         try clear p1
         try clear p10
         try clear p103
         try clear p105
         try clear p2
         try clear p6
         try clear q1
         try clear q10
         try clear q103
         try clear q105
         obtain ⟨x9_3, rfl, HA, HK3, Gb, Ga, HB⟩ := hrel
         cases gk with
         | zero => exact absurd HA.out (by simp [tidemillref02_Make.l2])
         | succ k3 =>
          have H := HA.out
          clear HA
          simp only [tidemillref02_Make.l2] at H
          by_cases c16 : x9_3 < (x7_2.length : Int)
          ·rw [if_pos c16] at H
           have c16b0 : decide (x9_3 < (x7_2.length : Int)) = true := decide_eq_true c16
           clear c16
           by_cases c17 : 0 ≤ x9_3
           ·rw [if_pos c17] at H
            have c17b0 : decide (0 ≤ x9_3) = true := decide_eq_true c17
            clear c17
            by_cases c18 : 0 ≤ x39_2
            ·rw [if_pos c18] at H
             have c18b0 : decide (0 ≤ x39_2) = true := decide_eq_true c18
             clear c18
             by_cases c19 : x39_2 < (l1.length : Int)
             ·rw [if_pos c19] at H
              have c19b0 : decide (x39_2 < (l1.length : Int)) = true := decide_eq_true c19
              clear c19
              replace H := Option.bind_eq_some_iff.mp H
              obtain ⟨Ge, A200, H⟩ := H
              replace H : (if Ge < 0 then (tidemillref02_Make.l2 k3 a0 l1 x7_2 x39_2 (wrap64 (x9_3 + 1)) (l1.length : Int) x39_2) else (if ((rd_T32 x7_2 x9_3).f0).toList = ((rd_T32 l1 x39_2).f0).toList then (some ((⟨#[]⟩ : ByteArray), ([] : List (S32)), 6)) else ((some (([] : List (S32)) : List (S32))).bind fun y112 => (if x9_3 ≤ (x7_2.length : Int) then ((some (x7_2.take (x9_3 : Int).toNat : List (S32))).bind fun y115 => (if y112.length + y115.length < 4398046511104 then ((some (y112 ++ y115 : List (S32))).bind fun y119 => ((some (([(⟨(rd_T32 l1 x39_2).f0, (rd_T32 l1 x39_2).f1⟩ : S32)] : List (S32)) : List (S32))).bind fun y123 => (if y119.length + y123.length < 4398046511104 then ((some (y119 ++ y123 : List (S32))).bind fun y126 => ((some (x7_2.drop (x9_3 : Int).toNat : List (S32))).bind fun y129 => (if y126.length + y129.length < 4398046511104 then (tidemillref02_Make.l1 k3 a0 l1 (y126 ++ y129) (l1.length : Int) (wrap64 (x39_2 + 1))) else (none)))) else (none)))) else (none))) else (none))))) = some (r1, r2, r3) := H
              have A20 := am' A200
              clear A200
              by_cases c21 : Ge < 0
              ·rw [if_pos c21] at H
               have c21b0 : decide (Ge < 0) = true := decide_eq_true c21
               clear c21
               have H' := am' H
               clear H
               try go_wp2
               have n0_ := am' (rD' Gb.out)
               have n1_ := am' (bD' Ga.out)
               have n2_ := am' (pD' HB.out)
               clear Gb
               clear Ga
               clear HB
               have Gb := n0_
               have Ga := n1_
               have HB := n2_
               clear n0_ n1_ n2_
               obtain ⟨Ao23, co23, eo23⟩ := Kd.R_slice Gb.out
               (first | subst eo23 | (injection eo23 with f1_ f2_ f3_; have f4_ := f1_.symm; have f5_ := f3_.symm; clear f1_ f2_ f3_; subst f4_; subst f5_))
               have p107 : 0 ≤ (x9_3 : Int) := of_decide_eq_true (by first | (with_reducible assumption) | assumption)
               have q107 : x9_3 < (x7_2.length : Int) := of_decide_eq_true (by first | (with_reducible assumption) | assumption)
               obtain ⟨ad107, e107, hx107_0, hx107_1⟩ := at_T32 (Kd.R_reads' Gb.out).2.2 x9_3 p107 q107
               cases e107
               replace p107 := eq_true p107
               replace q107 := eq_true q107
               have p108 : 0 ≤ (x39_2 : Int) := of_decide_eq_true (by first | (with_reducible assumption) | assumption)
               have q108 : x39_2 < (l1.length : Int) := of_decide_eq_true (by first | (with_reducible assumption) | assumption)
               obtain ⟨ad108, e108, hx108_0, hx108_1⟩ := at_T32 HR1.out x39_2 p108 q108
               have hw108_1 := hx108_1
               have hw108_0 := hx108_0
               cases e108
               replace hx108_0 := (HB.out.cell (World.block_lt_of_cell? w _ hx108_0)).trans hx108_0
               replace hx108_1 := (HB.out.cell (World.block_lt_of_cell? w _ hx108_1)).trans hx108_1
               replace p108 := eq_true p108
               replace q108 := eq_true q108
               refine start_ (n := 18) (S := fun w' => w'.cell? (ad107.add ((x9_3).toNat * 2)) = some (.string ((rd_T32 x7_2 x9_3).f0)) ∧ w'.cell? ⟨(ad107.add ((x9_3).toNat * 2)).block, (ad107.add ((x9_3).toNat * 2)).off + 1, none⟩ = some (.string ((rd_T32 x7_2 x9_3).f1)) ∧ w'.cell? (ad108.add ((x39_2).toNat * 2)) = some (.string ((rd_T32 l1 x39_2).f0)) ∧ w'.cell? ⟨(ad108.add ((x39_2).toNat * 2)).block, (ad108.add ((x39_2).toNat * 2)).off + 1, none⟩ = some (.string ((rd_T32 l1 x39_2).f1))) (ds := []) #[false, false, false, false, false, false, false, false, false, false, false, false, false, false, false, false, false, false] (by kernel_rfl) rfl rfl ⟨hx107_0, hx107_1, ((HB.out.cell (World.block_lt_of_cell? w _ hw108_0)).trans hw108_0), ((HB.out.cell (World.block_lt_of_cell? w _ hw108_1)).trans hw108_1)⟩ (fun hHeld => ?_); refine with_tabW tidemillref02_Make.tab14 tidemillref02_Make.bits14 (fun HT_ HW_ => ?_)
               generalize wr.drew = w22 at Gb Ga HB hx107_0 hx107_1 hx108_0 hx108_1 hHeld ⊢
               refine pure_ (i := 0) (N := some 42) (v := ?_) (a' := ?_) #[true, false, false, false, false, false, false, false, false, false, false, false, false, false, false, false, false, false] rfl rfl (any_of HT_.out (by kernel_rfl)) (fun _ _ _ h => h) (Or.inl ⟨by rfl, ?_⟩) ?_ ?_
               rotate_left
               ·intro w'
                go_simp
                with_reducible rfl
               rotate_left
               ·simp only [Act.put, sa', sz', ss', i64_w, i32_w]
                rfl
               refine pure_ (i := 1) (N := some 43) (v := ?_) (a' := ?_) #[true, true, false, false, false, false, false, false, false, false, false, false, false, false, false, false, false, false] rfl rfl (any_of HT_.out (by kernel_rfl)) (fun _ _ _ h => h) (Or.inl ⟨by rfl, ?_⟩) ?_ ?_
               rotate_left
               ·intro w'
                go_simp
                with_reducible rfl
               rotate_left
               ·simp only [Act.put, sa', sz', ss', i64_w, i32_w]
                rfl
               refine pure_ (i := 2) (N := some 44) (v := ?_) (a' := ?_) #[true, true, true, false, false, false, false, false, false, false, false, false, false, false, false, false, false, false] rfl rfl (any_of HT_.out (by kernel_rfl)) (fun _ _ _ h => h) (Or.inl ⟨by rfl, ?_⟩) ?_ ?_
               rotate_left
               ·intro w'
                go_simp
                with_reducible rfl
               rotate_left
               ·simp only [Act.put, sa', sz', ss', i64_w, i32_w]
                rfl
               refine pure_ (i := 3) (N := some 45) (v := ?_) (a' := ?_) #[true, true, true, true, false, false, false, false, false, false, false, false, false, false, false, false, false, false] rfl rfl (any_of HT_.out (by kernel_rfl)) (fun _ _ _ h => h) (Or.inl ⟨by rfl, ?_⟩) ?_ ?_
               rotate_left
               ·intro w'
                go_simp
                with_reducible rfl
               rotate_left
               ·simp only [Act.put, sa', sz', ss', i64_w, i32_w]
                rfl
               refine pure_ (i := 4) (N := some 46) (v := ?_) (a' := ?_) #[true, true, true, true, true, false, false, false, false, false, false, false, false, false, false, false, false, false] rfl rfl (any_of HT_.out (by kernel_rfl)) (fun _ _ _ h => h) (Or.inl ⟨by rfl, ?_⟩) ?_ ?_
               rotate_left
               ·intro w'
                go_simp
                with_reducible rfl
               rotate_left
               ·simp only [Act.put, sa', sz', ss', i64_w, i32_w]
                rfl
               refine pure_ (i := 5) (N := some 47) (v := ?_) (a' := ?_) #[true, true, true, true, true, true, false, false, false, false, false, false, false, false, false, false, false, false] rfl rfl (any_of HT_.out (by kernel_rfl)) (fun _ _ _ h => h) (Or.inl ⟨by rfl, ?_⟩) ?_ ?_
               rotate_left
               ·intro w'
                go_simp
                with_reducible rfl
               rotate_left
               ·simp only [Act.put, sa', sz', ss', i64_w, i32_w]
                rfl
               refine pure_ (i := 6) (N := some 48) (v := ?_) (a' := ?_) #[true, true, true, true, true, true, true, false, false, false, false, false, false, false, false, false, false, false] rfl rfl (any_of HT_.out (by kernel_rfl)) (fun _ _ _ h => h) (Or.inl ⟨by rfl, ?_⟩) ?_ ?_
               rotate_left
               ·intro w'
                go_simp
                with_reducible rfl
               rotate_left
               ·simp only [Act.put, sa', sz', ss', i64_w, i32_w]
                rfl
               refine pure_ (i := 7) (N := some 49) (v := ?_) (a' := ?_) #[true, true, true, true, true, true, true, true, false, false, false, false, false, false, false, false, false, false] rfl rfl (any_of HT_.out (by kernel_rfl)) (fun _ _ _ h => h) (Or.inl ⟨by rfl, ?_⟩) ?_ ?_
               rotate_left
               ·intro w'
                go_simp
                with_reducible rfl
               rotate_left
               ·simp only [Act.put, sa', sz', ss', i64_w, i32_w]
                rfl
               refine pure_ (i := 8) (N := some 50) (v := ?_) (a' := ?_) #[true, true, true, true, true, true, true, true, true, false, false, false, false, false, false, false, false, false] rfl rfl (any_of HT_.out (by kernel_rfl)) (fun _ _ _ h => h) (Or.inl ⟨by rfl, ?_⟩) ?_ ?_
               rotate_left
               ·intro w'
                go_simp
                with_reducible rfl
               rotate_left
               ·simp only [Act.put, sa', sz', ss', i64_w, i32_w]
                rfl
               refine pure_ (i := 10) (N := some 52) (v := ?_) (a' := ?_) #[true, true, true, true, true, true, true, true, true, false, true, false, false, false, false, false, false, false] rfl rfl (any_of HT_.out (by kernel_rfl)) (fun _ _ _ h => h) (Or.inl ⟨by rfl, ?_⟩) ?_ ?_
               rotate_left
               ·intro w'
                go_simp
                with_reducible rfl
               rotate_left
               ·simp only [Act.put, sa', sz', ss', i64_w, i32_w]
                rfl
               refine pure_ (i := 11) (N := some 53) (v := ?_) (a' := ?_) #[true, true, true, true, true, true, true, true, true, false, true, true, false, false, false, false, false, false] rfl rfl (any_of HT_.out (by kernel_rfl)) (fun _ _ _ h => h) (Or.inl ⟨by rfl, ?_⟩) ?_ ?_
               rotate_left
               ·intro w'
                go_simp
                with_reducible rfl
               rotate_left
               ·simp only [Act.put, sa', sz', ss', i64_w, i32_w]
                rfl
               refine pure_ (i := 12) (N := some 54) (v := ?_) (a' := ?_) #[true, true, true, true, true, true, true, true, true, false, true, true, true, false, false, false, false, false] rfl rfl (any_of HT_.out (by kernel_rfl)) (fun _ _ _ h => h) (Or.inl ⟨by rfl, ?_⟩) ?_ ?_
               rotate_left
               ·intro w'
                go_simp
                with_reducible rfl
               rotate_left
               ·simp only [Act.put, sa', sz', ss', i64_w, i32_w]
                rfl
               refine pure_ (i := 13) (N := some 55) (v := ?_) (a' := ?_) #[true, true, true, true, true, true, true, true, true, false, true, true, true, true, false, false, false, false] rfl rfl (any_of HT_.out (by kernel_rfl)) (fun _ _ _ h => h) (Or.inl ⟨by rfl, ?_⟩) ?_ ?_
               rotate_left
               ·intro w'
                go_simp
                with_reducible rfl
               rotate_left
               ·simp only [Act.put, sa', sz', ss', i64_w, i32_w]
                rfl
               refine take_ (i := 9) (N := some 51) (v := ?_) (a' := ?_) #[true, true, true, true, true, true, true, true, true, true, true, true, true, true, false, false, false, false] rfl rfl (take_ofW HT_.out HW_.out (by kernel_rfl)) (fun _ _ _ h => h) (Or.inl ⟨by rfl, ?_⟩) hHeld ?_ ?_
               rotate_left
               ·rintro w' ⟨s0, s1, s2, s3⟩
                go_simp
                with_reducible rfl
               rotate_left
               ·simp only [Act.put, sa', sz', ss', i64_w, i32_w]
                rfl
               refine take_ (i := 14) (N := some 56) (v := ?_) (a' := ?_) #[true, true, true, true, true, true, true, true, true, true, true, true, true, true, true, false, false, false] rfl rfl (take_ofW HT_.out HW_.out (by kernel_rfl)) (fun _ _ _ h => h) (Or.inl ⟨by rfl, ?_⟩) hHeld ?_ ?_
               rotate_left
               ·rintro w' ⟨s0, s1, s2, s3⟩
                go_simp
                with_reducible rfl
               rotate_left
               ·simp only [Act.put, sa', sz', ss', i64_w, i32_w]
                rfl
               refine one_ (i := 15) (N := some 57) #[true, true, true, true, true, true, true, true, true, true, true, true, true, true, true, true, false, false] rfl rfl (one_of HT_.out (by kernel_rfl)) (by decide) (fun K hK => ?_)
               refine goes_ Try.func24 (by kernel_rfl) rfl #[.string ((rd_T32 x7_2 x9_3).f0), .string ((rd_T32 l1 x39_2).f0)] (by rfl) rfl rfl (by (try simp only [List.map_toArray, List.map_cons, List.map_nil]); first | done | rfl | (simp only [List.length_drop, List.length_take]; rfl)) ?_
               with_reducible refine (tidemillref01_Texts.calls k3 ((rd_T32 x7_2 x9_3).f0) ((rd_T32 l1 x39_2).f0) Ge _ A20.out).mono ?_
               rintro e w' ⟨rfl, ⟨nd, rfl⟩⟩
               refine ⟨_, rfl, ?_⟩
               refine hK.out _ _ ⟨hHeld.1, hHeld.2.1, ((HB.out.cell (World.block_lt_of_cell? w _ hw108_0)).trans hw108_0), ((HB.out.cell (World.block_lt_of_cell? w _ hw108_1)).trans hw108_1)⟩ (fun hHeld => ?_)
               clear hK K
               refine norm_ (a' := ?_) ?_ ?_
               rotate_left
               ·show Act.put _ (some 57) _ = _
                simp only [Act.put, sa', sz', ss', i64_w, i32_w]
                rfl
               refine pure_ (i := 16) (N := some 58) (v := ?_) (a' := ?_) #[true, true, true, true, true, true, true, true, true, true, true, true, true, true, true, true, true, false] rfl rfl (any_of HT_.out (by kernel_rfl)) (fun _ _ _ h => h) (Or.inl ⟨by rfl, ?_⟩) ?_ ?_
               rotate_left
               ·intro w'
                go_simp
                with_reducible rfl
               rotate_left
               ·simp only [Act.put, sa', sz', ss', i64_w, i32_w]
                rfl
               refine pure_ (i := 17) (N := some 59) (v := ?_) (a' := ?_) #[true, true, true, true, true, true, true, true, true, true, true, true, true, true, true, true, true, true] rfl rfl (any_of HT_.out (by kernel_rfl)) (fun _ _ _ h => h) (Or.inl ⟨by rfl, ?_⟩) ?_ ?_
               rotate_left
               ·intro w'
                go_simp
                with_reducible rfl
               rotate_left
               ·simp only [Act.put, sa', sz', ss', i64_w, i32_w]
                rfl
               refine done_ (done_of HT_.out (by kernel_rfl)) ?_
               try go_wp2
               go_roundg k3
               case measure => have := HK1.out; have := HK2.out; have := HK3.out; omega
               case rel => exact ⟨(wrap64 (x9_3 + 1)), (by first | rfl | (simp; done) | (simp [*]; done)), H', ⟨by have := HK1.out; have := HK2.out; have := HK3.out; omega⟩, ⟨by (with_reducible repeat (first | apply rA' | apply rN' | apply rD')); exact Gb.out⟩, ⟨by (with_reducible repeat (first | refine bN' ?_ _ | refine bD' ?_ | refine bA' ?_ _)); exact Ga.out⟩, ⟨by repeat (first | (with_reducible first | exact HB.out | apply pA' | apply pN' | apply pD' | refine pS' ?_ Gc.out) | exact HB.out)⟩⟩
              ·rw [if_neg c21] at H
               have c21b0 : decide (Ge < 0) = false := decide_eq_false c21
               clear c21
               by_cases c24 : ((rd_T32 x7_2 x9_3).f0).toList = ((rd_T32 l1 x39_2).f0).toList
               ·rw [if_pos c24] at H
                have c24b0 : (((rd_T32 x7_2 x9_3).f0).toList == ((rd_T32 l1 x39_2).f0).toList) = true := beq_iff_eq.mpr c24
                have c24b1 : (((rd_T32 x7_2 x9_3).f0).toList != ((rd_T32 l1 x39_2).f0).toList) = false := bne_eq_false_iff_eq.mpr c24
                clear c24
                simp only [Option.some.injEq, Prod.mk.injEq] at H
                obtain ⟨rfl, rfl, rfl⟩ := H
                try go_wp2
                have n0_ := am' (rD' Gb.out)
                have n1_ := am' (bD' Ga.out)
                have n2_ := am' (pD' HB.out)
                clear Gb
                clear Ga
                clear HB
                have Gb := n0_
                have Ga := n1_
                have HB := n2_
                clear n0_ n1_ n2_
                obtain ⟨Ao26, co26, eo26⟩ := Kd.R_slice Gb.out
                (first | subst eo26 | (injection eo26 with f1_ f2_ f3_; have f4_ := f1_.symm; have f5_ := f3_.symm; clear f1_ f2_ f3_; subst f4_; subst f5_))
                have p107 : 0 ≤ (x9_3 : Int) := of_decide_eq_true (by first | (with_reducible assumption) | assumption)
                have q107 : x9_3 < (x7_2.length : Int) := of_decide_eq_true (by first | (with_reducible assumption) | assumption)
                obtain ⟨ad107, e107, hx107_0, hx107_1⟩ := at_T32 (Kd.R_reads' Gb.out).2.2 x9_3 p107 q107
                cases e107
                replace p107 := eq_true p107
                replace q107 := eq_true q107
                have p108 : 0 ≤ (x39_2 : Int) := of_decide_eq_true (by first | (with_reducible assumption) | assumption)
                have q108 : x39_2 < (l1.length : Int) := of_decide_eq_true (by first | (with_reducible assumption) | assumption)
                obtain ⟨ad108, e108, hx108_0, hx108_1⟩ := at_T32 HR1.out x39_2 p108 q108
                have hw108_1 := hx108_1
                have hw108_0 := hx108_0
                cases e108
                replace hx108_0 := (HB.out.cell (World.block_lt_of_cell? w _ hx108_0)).trans hx108_0
                replace hx108_1 := (HB.out.cell (World.block_lt_of_cell? w _ hx108_1)).trans hx108_1
                replace p108 := eq_true p108
                replace q108 := eq_true q108
                refine start_ (n := 18) (S := fun w' => w'.cell? (ad107.add ((x9_3).toNat * 2)) = some (.string ((rd_T32 x7_2 x9_3).f0)) ∧ w'.cell? ⟨(ad107.add ((x9_3).toNat * 2)).block, (ad107.add ((x9_3).toNat * 2)).off + 1, none⟩ = some (.string ((rd_T32 x7_2 x9_3).f1)) ∧ w'.cell? (ad108.add ((x39_2).toNat * 2)) = some (.string ((rd_T32 l1 x39_2).f0)) ∧ w'.cell? ⟨(ad108.add ((x39_2).toNat * 2)).block, (ad108.add ((x39_2).toNat * 2)).off + 1, none⟩ = some (.string ((rd_T32 l1 x39_2).f1))) (ds := []) #[false, false, false, false, false, false, false, false, false, false, false, false, false, false, false, false, false, false] (by kernel_rfl) rfl rfl ⟨hx107_0, hx107_1, ((HB.out.cell (World.block_lt_of_cell? w _ hw108_0)).trans hw108_0), ((HB.out.cell (World.block_lt_of_cell? w _ hw108_1)).trans hw108_1)⟩ (fun hHeld => ?_); refine with_tabW tidemillref02_Make.tab14 tidemillref02_Make.bits14 (fun HT_ HW_ => ?_)
                generalize wr.drew = w25 at Gb Ga HB hx107_0 hx107_1 hx108_0 hx108_1 hHeld ⊢
                refine pure_ (i := 0) (N := some 42) (v := ?_) (a' := ?_) #[true, false, false, false, false, false, false, false, false, false, false, false, false, false, false, false, false, false] rfl rfl (any_of HT_.out (by kernel_rfl)) (fun _ _ _ h => h) (Or.inl ⟨by rfl, ?_⟩) ?_ ?_
                rotate_left
                ·intro w'
                 go_simp
                 with_reducible rfl
                rotate_left
                ·simp only [Act.put, sa', sz', ss', i64_w, i32_w]
                 rfl
                refine pure_ (i := 1) (N := some 43) (v := ?_) (a' := ?_) #[true, true, false, false, false, false, false, false, false, false, false, false, false, false, false, false, false, false] rfl rfl (any_of HT_.out (by kernel_rfl)) (fun _ _ _ h => h) (Or.inl ⟨by rfl, ?_⟩) ?_ ?_
                rotate_left
                ·intro w'
                 go_simp
                 with_reducible rfl
                rotate_left
                ·simp only [Act.put, sa', sz', ss', i64_w, i32_w]
                 rfl
                refine pure_ (i := 2) (N := some 44) (v := ?_) (a' := ?_) #[true, true, true, false, false, false, false, false, false, false, false, false, false, false, false, false, false, false] rfl rfl (any_of HT_.out (by kernel_rfl)) (fun _ _ _ h => h) (Or.inl ⟨by rfl, ?_⟩) ?_ ?_
                rotate_left
                ·intro w'
                 go_simp
                 with_reducible rfl
                rotate_left
                ·simp only [Act.put, sa', sz', ss', i64_w, i32_w]
                 rfl
                refine pure_ (i := 3) (N := some 45) (v := ?_) (a' := ?_) #[true, true, true, true, false, false, false, false, false, false, false, false, false, false, false, false, false, false] rfl rfl (any_of HT_.out (by kernel_rfl)) (fun _ _ _ h => h) (Or.inl ⟨by rfl, ?_⟩) ?_ ?_
                rotate_left
                ·intro w'
                 go_simp
                 with_reducible rfl
                rotate_left
                ·simp only [Act.put, sa', sz', ss', i64_w, i32_w]
                 rfl
                refine pure_ (i := 4) (N := some 46) (v := ?_) (a' := ?_) #[true, true, true, true, true, false, false, false, false, false, false, false, false, false, false, false, false, false] rfl rfl (any_of HT_.out (by kernel_rfl)) (fun _ _ _ h => h) (Or.inl ⟨by rfl, ?_⟩) ?_ ?_
                rotate_left
                ·intro w'
                 go_simp
                 with_reducible rfl
                rotate_left
                ·simp only [Act.put, sa', sz', ss', i64_w, i32_w]
                 rfl
                refine pure_ (i := 5) (N := some 47) (v := ?_) (a' := ?_) #[true, true, true, true, true, true, false, false, false, false, false, false, false, false, false, false, false, false] rfl rfl (any_of HT_.out (by kernel_rfl)) (fun _ _ _ h => h) (Or.inl ⟨by rfl, ?_⟩) ?_ ?_
                rotate_left
                ·intro w'
                 go_simp
                 with_reducible rfl
                rotate_left
                ·simp only [Act.put, sa', sz', ss', i64_w, i32_w]
                 rfl
                refine pure_ (i := 6) (N := some 48) (v := ?_) (a' := ?_) #[true, true, true, true, true, true, true, false, false, false, false, false, false, false, false, false, false, false] rfl rfl (any_of HT_.out (by kernel_rfl)) (fun _ _ _ h => h) (Or.inl ⟨by rfl, ?_⟩) ?_ ?_
                rotate_left
                ·intro w'
                 go_simp
                 with_reducible rfl
                rotate_left
                ·simp only [Act.put, sa', sz', ss', i64_w, i32_w]
                 rfl
                refine pure_ (i := 7) (N := some 49) (v := ?_) (a' := ?_) #[true, true, true, true, true, true, true, true, false, false, false, false, false, false, false, false, false, false] rfl rfl (any_of HT_.out (by kernel_rfl)) (fun _ _ _ h => h) (Or.inl ⟨by rfl, ?_⟩) ?_ ?_
                rotate_left
                ·intro w'
                 go_simp
                 with_reducible rfl
                rotate_left
                ·simp only [Act.put, sa', sz', ss', i64_w, i32_w]
                 rfl
                refine pure_ (i := 8) (N := some 50) (v := ?_) (a' := ?_) #[true, true, true, true, true, true, true, true, true, false, false, false, false, false, false, false, false, false] rfl rfl (any_of HT_.out (by kernel_rfl)) (fun _ _ _ h => h) (Or.inl ⟨by rfl, ?_⟩) ?_ ?_
                rotate_left
                ·intro w'
                 go_simp
                 with_reducible rfl
                rotate_left
                ·simp only [Act.put, sa', sz', ss', i64_w, i32_w]
                 rfl
                refine pure_ (i := 10) (N := some 52) (v := ?_) (a' := ?_) #[true, true, true, true, true, true, true, true, true, false, true, false, false, false, false, false, false, false] rfl rfl (any_of HT_.out (by kernel_rfl)) (fun _ _ _ h => h) (Or.inl ⟨by rfl, ?_⟩) ?_ ?_
                rotate_left
                ·intro w'
                 go_simp
                 with_reducible rfl
                rotate_left
                ·simp only [Act.put, sa', sz', ss', i64_w, i32_w]
                 rfl
                refine pure_ (i := 11) (N := some 53) (v := ?_) (a' := ?_) #[true, true, true, true, true, true, true, true, true, false, true, true, false, false, false, false, false, false] rfl rfl (any_of HT_.out (by kernel_rfl)) (fun _ _ _ h => h) (Or.inl ⟨by rfl, ?_⟩) ?_ ?_
                rotate_left
                ·intro w'
                 go_simp
                 with_reducible rfl
                rotate_left
                ·simp only [Act.put, sa', sz', ss', i64_w, i32_w]
                 rfl
                refine pure_ (i := 12) (N := some 54) (v := ?_) (a' := ?_) #[true, true, true, true, true, true, true, true, true, false, true, true, true, false, false, false, false, false] rfl rfl (any_of HT_.out (by kernel_rfl)) (fun _ _ _ h => h) (Or.inl ⟨by rfl, ?_⟩) ?_ ?_
                rotate_left
                ·intro w'
                 go_simp
                 with_reducible rfl
                rotate_left
                ·simp only [Act.put, sa', sz', ss', i64_w, i32_w]
                 rfl
                refine pure_ (i := 13) (N := some 55) (v := ?_) (a' := ?_) #[true, true, true, true, true, true, true, true, true, false, true, true, true, true, false, false, false, false] rfl rfl (any_of HT_.out (by kernel_rfl)) (fun _ _ _ h => h) (Or.inl ⟨by rfl, ?_⟩) ?_ ?_
                rotate_left
                ·intro w'
                 go_simp
                 with_reducible rfl
                rotate_left
                ·simp only [Act.put, sa', sz', ss', i64_w, i32_w]
                 rfl
                refine take_ (i := 9) (N := some 51) (v := ?_) (a' := ?_) #[true, true, true, true, true, true, true, true, true, true, true, true, true, true, false, false, false, false] rfl rfl (take_ofW HT_.out HW_.out (by kernel_rfl)) (fun _ _ _ h => h) (Or.inl ⟨by rfl, ?_⟩) hHeld ?_ ?_
                rotate_left
                ·rintro w' ⟨s0, s1, s2, s3⟩
                 go_simp
                 with_reducible rfl
                rotate_left
                ·simp only [Act.put, sa', sz', ss', i64_w, i32_w]
                 rfl
                refine take_ (i := 14) (N := some 56) (v := ?_) (a' := ?_) #[true, true, true, true, true, true, true, true, true, true, true, true, true, true, true, false, false, false] rfl rfl (take_ofW HT_.out HW_.out (by kernel_rfl)) (fun _ _ _ h => h) (Or.inl ⟨by rfl, ?_⟩) hHeld ?_ ?_
                rotate_left
                ·rintro w' ⟨s0, s1, s2, s3⟩
                 go_simp
                 with_reducible rfl
                rotate_left
                ·simp only [Act.put, sa', sz', ss', i64_w, i32_w]
                 rfl
                refine one_ (i := 15) (N := some 57) #[true, true, true, true, true, true, true, true, true, true, true, true, true, true, true, true, false, false] rfl rfl (one_of HT_.out (by kernel_rfl)) (by decide) (fun K hK => ?_)
                refine goes_ Try.func24 (by kernel_rfl) rfl #[.string ((rd_T32 x7_2 x9_3).f0), .string ((rd_T32 l1 x39_2).f0)] (by rfl) rfl rfl (by (try simp only [List.map_toArray, List.map_cons, List.map_nil]); first | done | rfl | (simp only [List.length_drop, List.length_take]; rfl)) ?_
                with_reducible refine (tidemillref01_Texts.calls k3 ((rd_T32 x7_2 x9_3).f0) ((rd_T32 l1 x39_2).f0) Ge _ A20.out).mono ?_
                rintro e w' ⟨rfl, ⟨nd, rfl⟩⟩
                refine ⟨_, rfl, ?_⟩
                refine hK.out _ _ ⟨hHeld.1, hHeld.2.1, ((HB.out.cell (World.block_lt_of_cell? w _ hw108_0)).trans hw108_0), ((HB.out.cell (World.block_lt_of_cell? w _ hw108_1)).trans hw108_1)⟩ (fun hHeld => ?_)
                clear hK K
                refine norm_ (a' := ?_) ?_ ?_
                rotate_left
                ·show Act.put _ (some 57) _ = _
                 simp only [Act.put, sa', sz', ss', i64_w, i32_w]
                 rfl
                refine pure_ (i := 16) (N := some 58) (v := ?_) (a' := ?_) #[true, true, true, true, true, true, true, true, true, true, true, true, true, true, true, true, true, false] rfl rfl (any_of HT_.out (by kernel_rfl)) (fun _ _ _ h => h) (Or.inl ⟨by rfl, ?_⟩) ?_ ?_
                rotate_left
                ·intro w'
                 go_simp
                 with_reducible rfl
                rotate_left
                ·simp only [Act.put, sa', sz', ss', i64_w, i32_w]
                 rfl
                refine pure_ (i := 17) (N := some 59) (v := ?_) (a' := ?_) #[true, true, true, true, true, true, true, true, true, true, true, true, true, true, true, true, true, true] rfl rfl (any_of HT_.out (by kernel_rfl)) (fun _ _ _ h => h) (Or.inl ⟨by rfl, ?_⟩) ?_ ?_
                rotate_left
                ·intro w'
                 go_simp
                 with_reducible rfl
                rotate_left
                ·simp only [Act.put, sa', sz', ss', i64_w, i32_w]
                 rfl
                refine done_ (done_of HT_.out (by kernel_rfl)) ?_
                try go_wp2
                (try (rw [drewN_self w25]; generalize hq_ : World.drewN w25 _ = w25; have n0_ : Aside0 (Kd.R k32 32 w25 w.heap.size (fun _ => True) (.slice (some ad107) x7_2.length co26) x7_2) := ⟨by rw [← hq_]; exact (by (with_reducible repeat (first | apply rA' | apply rN' | apply rD')); exact Gb.out)⟩; have n1_ : Aside0 (w25.heap[Gd]? = some (.cells #[.string x102000_2, .slice none 0 0] 25 (0, 0))) := ⟨by rw [← hq_]; exact (by (with_reducible repeat (first | refine bN' ?_ _ | refine bD' ?_ | refine bA' ?_ _)); exact Ga.out)⟩; have n2_ : Aside0 (Below w.heap.size w w25) := ⟨by rw [← hq_]; exact (by repeat (first | (with_reducible first | exact HB.out | apply pA' | apply pN' | apply pD' | refine pS' ?_ Gc.out) | exact HB.out))⟩; clear Gb Ga HB hq_; have Gb := n0_; have Ga := n1_; have HB := n2_; clear n0_ n1_ n2_))
                have n0_ := am' (rD' Gb.out)
                have n1_ := am' (bD' Ga.out)
                have n2_ := am' (pD' HB.out)
                clear Gb
                clear Ga
                clear HB
                have Gb := n0_
                have Ga := n1_
                have HB := n2_
                clear n0_ n1_ n2_
                have p110 : 0 ≤ (x9_3 : Int) := of_decide_eq_true (by first | (with_reducible assumption) | assumption)
                have q110 : x9_3 < (x7_2.length : Int) := of_decide_eq_true (by first | (with_reducible assumption) | assumption)
                obtain ⟨ad110, e110, hx110_0, hx110_1⟩ := at_T32 (Kd.R_reads' Gb.out).2.2 x9_3 p110 q110
                obtain rfl : ad107 = ad110 := (by injection e110)
                replace p110 := eq_true p110
                replace q110 := eq_true q110
                have p111 : 0 ≤ (x39_2 : Int) := of_decide_eq_true (by first | (with_reducible assumption) | assumption)
                have q111 : x39_2 < (l1.length : Int) := of_decide_eq_true (by first | (with_reducible assumption) | assumption)
                obtain ⟨ad111, e111, hx111_0, hx111_1⟩ := at_T32 HR1.out x39_2 p111 q111
                have hw111_1 := hx111_1
                have hw111_0 := hx111_0
                obtain rfl : ad108 = ad111 := (by injection e111)
                replace hx111_0 := (HB.out.cell (World.block_lt_of_cell? w _ hx111_0)).trans hx111_0
                replace hx111_1 := (HB.out.cell (World.block_lt_of_cell? w _ hx111_1)).trans hx111_1
                replace p111 := eq_true p111
                replace q111 := eq_true q111
                refine start_ (n := 17) (S := fun w' => w'.cell? (ad107.add ((x9_3).toNat * 2)) = some (.string ((rd_T32 x7_2 x9_3).f0)) ∧ w'.cell? ⟨(ad107.add ((x9_3).toNat * 2)).block, (ad107.add ((x9_3).toNat * 2)).off + 1, none⟩ = some (.string ((rd_T32 x7_2 x9_3).f1)) ∧ w'.cell? (ad108.add ((x39_2).toNat * 2)) = some (.string ((rd_T32 l1 x39_2).f0)) ∧ w'.cell? ⟨(ad108.add ((x39_2).toNat * 2)).block, (ad108.add ((x39_2).toNat * 2)).off + 1, none⟩ = some (.string ((rd_T32 l1 x39_2).f1))) (ds := []) #[false, false, false, false, false, false, false, false, false, false, false, false, false, false, false, false, false] (by kernel_rfl) rfl rfl ⟨hx110_0, hx110_1, ((HB.out.cell (World.block_lt_of_cell? w _ hw111_0)).trans hw111_0), ((HB.out.cell (World.block_lt_of_cell? w _ hw111_1)).trans hw111_1)⟩ (fun hHeld => ?_); refine with_tabW tidemillref02_Make.tab16 tidemillref02_Make.bits16 (fun HT_ HW_ => ?_)
                generalize w25.drew = w27 at Gb Ga HB hx110_0 hx110_1 hx111_0 hx111_1 hHeld ⊢
                refine pure_ (i := 0) (N := some 62) (v := ?_) (a' := ?_) #[true, false, false, false, false, false, false, false, false, false, false, false, false, false, false, false, false] rfl rfl (any_of HT_.out (by kernel_rfl)) (fun _ _ _ h => h) (Or.inl ⟨by rfl, ?_⟩) ?_ ?_
                rotate_left
                ·intro w'
                 go_simp
                 with_reducible rfl
                rotate_left
                ·simp only [Act.put, sa', sz', ss', i64_w, i32_w]
                 rfl
                refine pure_ (i := 1) (N := some 63) (v := ?_) (a' := ?_) #[true, true, false, false, false, false, false, false, false, false, false, false, false, false, false, false, false] rfl rfl (any_of HT_.out (by kernel_rfl)) (fun _ _ _ h => h) (Or.inl ⟨by rfl, ?_⟩) ?_ ?_
                rotate_left
                ·intro w'
                 go_simp
                 with_reducible rfl
                rotate_left
                ·simp only [Act.put, sa', sz', ss', i64_w, i32_w]
                 rfl
                refine pure_ (i := 2) (N := some 64) (v := ?_) (a' := ?_) #[true, true, true, false, false, false, false, false, false, false, false, false, false, false, false, false, false] rfl rfl (any_of HT_.out (by kernel_rfl)) (fun _ _ _ h => h) (Or.inl ⟨by rfl, ?_⟩) ?_ ?_
                rotate_left
                ·intro w'
                 go_simp
                 with_reducible rfl
                rotate_left
                ·simp only [Act.put, sa', sz', ss', i64_w, i32_w]
                 rfl
                refine pure_ (i := 3) (N := some 65) (v := ?_) (a' := ?_) #[true, true, true, true, false, false, false, false, false, false, false, false, false, false, false, false, false] rfl rfl (any_of HT_.out (by kernel_rfl)) (fun _ _ _ h => h) (Or.inl ⟨by rfl, ?_⟩) ?_ ?_
                rotate_left
                ·intro w'
                 go_simp
                 with_reducible rfl
                rotate_left
                ·simp only [Act.put, sa', sz', ss', i64_w, i32_w]
                 rfl
                refine pure_ (i := 4) (N := some 66) (v := ?_) (a' := ?_) #[true, true, true, true, true, false, false, false, false, false, false, false, false, false, false, false, false] rfl rfl (any_of HT_.out (by kernel_rfl)) (fun _ _ _ h => h) (Or.inl ⟨by rfl, ?_⟩) ?_ ?_
                rotate_left
                ·intro w'
                 go_simp
                 with_reducible rfl
                rotate_left
                ·simp only [Act.put, sa', sz', ss', i64_w, i32_w]
                 rfl
                refine pure_ (i := 5) (N := some 67) (v := ?_) (a' := ?_) #[true, true, true, true, true, true, false, false, false, false, false, false, false, false, false, false, false] rfl rfl (any_of HT_.out (by kernel_rfl)) (fun _ _ _ h => h) (Or.inl ⟨by rfl, ?_⟩) ?_ ?_
                rotate_left
                ·intro w'
                 go_simp
                 with_reducible rfl
                rotate_left
                ·simp only [Act.put, sa', sz', ss', i64_w, i32_w]
                 rfl
                refine pure_ (i := 6) (N := some 68) (v := ?_) (a' := ?_) #[true, true, true, true, true, true, true, false, false, false, false, false, false, false, false, false, false] rfl rfl (any_of HT_.out (by kernel_rfl)) (fun _ _ _ h => h) (Or.inl ⟨by rfl, ?_⟩) ?_ ?_
                rotate_left
                ·intro w'
                 go_simp
                 with_reducible rfl
                rotate_left
                ·simp only [Act.put, sa', sz', ss', i64_w, i32_w]
                 rfl
                refine pure_ (i := 7) (N := some 69) (v := ?_) (a' := ?_) #[true, true, true, true, true, true, true, true, false, false, false, false, false, false, false, false, false] rfl rfl (any_of HT_.out (by kernel_rfl)) (fun _ _ _ h => h) (Or.inl ⟨by rfl, ?_⟩) ?_ ?_
                rotate_left
                ·intro w'
                 go_simp
                 with_reducible rfl
                rotate_left
                ·simp only [Act.put, sa', sz', ss', i64_w, i32_w]
                 rfl
                refine pure_ (i := 8) (N := some 70) (v := ?_) (a' := ?_) #[true, true, true, true, true, true, true, true, true, false, false, false, false, false, false, false, false] rfl rfl (any_of HT_.out (by kernel_rfl)) (fun _ _ _ h => h) (Or.inl ⟨by rfl, ?_⟩) ?_ ?_
                rotate_left
                ·intro w'
                 go_simp
                 with_reducible rfl
                rotate_left
                ·simp only [Act.put, sa', sz', ss', i64_w, i32_w]
                 rfl
                refine pure_ (i := 10) (N := some 72) (v := ?_) (a' := ?_) #[true, true, true, true, true, true, true, true, true, false, true, false, false, false, false, false, false] rfl rfl (any_of HT_.out (by kernel_rfl)) (fun _ _ _ h => h) (Or.inl ⟨by rfl, ?_⟩) ?_ ?_
                rotate_left
                ·intro w'
                 go_simp
                 with_reducible rfl
                rotate_left
                ·simp only [Act.put, sa', sz', ss', i64_w, i32_w]
                 rfl
                refine pure_ (i := 11) (N := some 73) (v := ?_) (a' := ?_) #[true, true, true, true, true, true, true, true, true, false, true, true, false, false, false, false, false] rfl rfl (any_of HT_.out (by kernel_rfl)) (fun _ _ _ h => h) (Or.inl ⟨by rfl, ?_⟩) ?_ ?_
                rotate_left
                ·intro w'
                 go_simp
                 with_reducible rfl
                rotate_left
                ·simp only [Act.put, sa', sz', ss', i64_w, i32_w]
                 rfl
                refine pure_ (i := 12) (N := some 74) (v := ?_) (a' := ?_) #[true, true, true, true, true, true, true, true, true, false, true, true, true, false, false, false, false] rfl rfl (any_of HT_.out (by kernel_rfl)) (fun _ _ _ h => h) (Or.inl ⟨by rfl, ?_⟩) ?_ ?_
                rotate_left
                ·intro w'
                 go_simp
                 with_reducible rfl
                rotate_left
                ·simp only [Act.put, sa', sz', ss', i64_w, i32_w]
                 rfl
                refine pure_ (i := 13) (N := some 75) (v := ?_) (a' := ?_) #[true, true, true, true, true, true, true, true, true, false, true, true, true, true, false, false, false] rfl rfl (any_of HT_.out (by kernel_rfl)) (fun _ _ _ h => h) (Or.inl ⟨by rfl, ?_⟩) ?_ ?_
                rotate_left
                ·intro w'
                 go_simp
                 with_reducible rfl
                rotate_left
                ·simp only [Act.put, sa', sz', ss', i64_w, i32_w]
                 rfl
                refine take_ (i := 9) (N := some 71) (v := ?_) (a' := ?_) #[true, true, true, true, true, true, true, true, true, true, true, true, true, true, false, false, false] rfl rfl (take_ofW HT_.out HW_.out (by kernel_rfl)) (fun _ _ _ h => h) (Or.inl ⟨by rfl, ?_⟩) hHeld ?_ ?_
                rotate_left
                ·rintro w' ⟨s0, s1, s2, s3⟩
                 go_simp
                 with_reducible rfl
                rotate_left
                ·simp only [Act.put, sa', sz', ss', i64_w, i32_w]
                 rfl
                refine take_ (i := 14) (N := some 76) (v := ?_) (a' := ?_) #[true, true, true, true, true, true, true, true, true, true, true, true, true, true, true, false, false] rfl rfl (take_ofW HT_.out HW_.out (by kernel_rfl)) (fun _ _ _ h => h) (Or.inl ⟨by rfl, ?_⟩) hHeld ?_ ?_
                rotate_left
                ·rintro w' ⟨s0, s1, s2, s3⟩
                 go_simp
                 with_reducible rfl
                rotate_left
                ·simp only [Act.put, sa', sz', ss', i64_w, i32_w]
                 rfl
                refine pure_ (i := 15) (N := some 77) (v := ?_) (a' := ?_) #[true, true, true, true, true, true, true, true, true, true, true, true, true, true, true, true, false] rfl rfl (any_of HT_.out (by kernel_rfl)) (fun _ _ _ h => h) (Or.inl ⟨by rfl, ?_⟩) ?_ ?_
                rotate_left
                ·intro w'
                 go_simp
                 with_reducible rfl
                rotate_left
                ·simp only [Act.put, sa', sz', ss', i64_w, i32_w]
                 rfl
                refine pure_ (i := 16) (N := some 78) (v := ?_) (a' := ?_) #[true, true, true, true, true, true, true, true, true, true, true, true, true, true, true, true, true] rfl rfl (any_of HT_.out (by kernel_rfl)) (fun _ _ _ h => h) (Or.inl ⟨by rfl, ?_⟩) ?_ ?_
                rotate_left
                ·intro w'
                 go_simp
                 with_reducible rfl
                rotate_left
                ·simp only [Act.put, sa', sz', ss', i64_w, i32_w]
                 rfl
                refine done_ (done_of HT_.out (by kernel_rfl)) ?_
                have hcz28_0 : w27.cell? ⟨Gd, 0, none⟩ = some (.string x102000_2) := (bC' Ga.out 0).trans rfl
                have hcz28_1 : w27.cell? ⟨Gd, 1, none⟩ = some (.slice none 0 0) := (bC' Ga.out 1).trans rfl
                have hfz28_0 := blk_frozen Ga.out 0
                have hfz28_1 := blk_frozen Ga.out 1
                try go_wp2
                refine bodyPost_ret (results_ct rfl _ _ Gd 25 #[.string (⟨#[]⟩ : ByteArray), .slice none 0 0] (0, 0) _ rfl (by (with_reducible repeat (first | refine bN' ?_ _ | refine bD' ?_ | refine bA' ?_ _)); refine blk_put (cs := #[.string (⟨#[]⟩ : ByteArray), .slice none 0 0]) ?_ 1 _ rfl; (with_reducible repeat (first | refine bN' ?_ _ | refine bD' ?_ | refine bA' ?_ _)); refine blk_put (cs := #[.string x102000_2, .slice none 0 0]) ?_ 0 _ rfl; (with_reducible repeat (first | refine bN' ?_ _ | refine bD' ?_ | refine bA' ?_ _)); exact Ga.out) Try.underlying25 rfl (by kernel_rfl)) rfl ?_
                exact ⟨_, by first | rfl | (simp [errW_none, errW_some] <;> rfl) | (simp [*, errW_none, errW_some] <;> rfl), by first | exact Kd.R_nil _ _ _ _ _ | exact Kd.N_nil _ _ _ _ _ | exact Kd.V_nil _ _ _ _ _ | exact Kd.Q_nil _ _ _ _ _ | exact Kd.S_nil _ _ _ _ _, by repeat (first | (with_reducible first | exact HB.out | apply pA' | apply pN' | apply pD' | refine pS' ?_ Gc.out) | exact HB.out)⟩
               ·rw [if_neg c24] at H
                have c24b0 : (((rd_T32 x7_2 x9_3).f0).toList == ((rd_T32 l1 x39_2).f0).toList) = false := beq_eq_false_iff_ne.mpr c24
                have c24b1 : (((rd_T32 x7_2 x9_3).f0).toList != ((rd_T32 l1 x39_2).f0).toList) = true := bne_iff_ne.mpr c24
                obtain ⟨y112, hy112⟩ : ∃ y_ : List (S32), y_ = (([] : List (S32))) := ⟨_, rfl⟩
                replace H : (if x9_3 ≤ (x7_2.length : Int) then ((some (x7_2.take (x9_3 : Int).toNat : List (S32))).bind fun y115 => (if y112.length + y115.length < 4398046511104 then ((some (y112 ++ y115 : List (S32))).bind fun y119 => ((some (([(⟨(rd_T32 l1 x39_2).f0, (rd_T32 l1 x39_2).f1⟩ : S32)] : List (S32)) : List (S32))).bind fun y123 => (if y119.length + y123.length < 4398046511104 then ((some (y119 ++ y123 : List (S32))).bind fun y126 => ((some (x7_2.drop (x9_3 : Int).toNat : List (S32))).bind fun y129 => (if y126.length + y129.length < 4398046511104 then (tidemillref02_Make.l1 k3 a0 l1 (y126 ++ y129) (l1.length : Int) (wrap64 (x39_2 + 1))) else (none)))) else (none)))) else (none))) else (none)) = some (r1, r2, r3) := by first | (rw [hy112]; with_reducible exact H) | (have H2_ := (Option.bind_some _ _).symm.trans H; rw [hy112]; with_reducible exact H2_) | (have H2_ := (Option.bind_some _ _).symm.trans H; with_reducible exact H2_) | with_reducible exact H | (rw [hy112]; exact H) | exact H
                have Ny112 := am' hy112
                clear hy112
                have c29b0 := eq_true (of_decide_eq_true (by first | (with_reducible assumption) | assumption) : 0 ≤ x9_3)
                by_cases c30 : x9_3 ≤ (x7_2.length : Int)
                ·rw [if_pos c30] at H
                 have c30b0 := eq_true c30
                 have c30b1 : decide (x9_3 ≤ (x7_2.length : Int)) = true := decide_eq_true c30
                 clear c30
                 obtain ⟨y115, hy115⟩ : ∃ y_ : List (S32), y_ = (x7_2.take (x9_3 : Int).toNat) := ⟨_, rfl⟩
                 replace H : (if y112.length + y115.length < 4398046511104 then ((some (y112 ++ y115 : List (S32))).bind fun y119 => ((some (([(⟨(rd_T32 l1 x39_2).f0, (rd_T32 l1 x39_2).f1⟩ : S32)] : List (S32)) : List (S32))).bind fun y123 => (if y119.length + y123.length < 4398046511104 then ((some (y119 ++ y123 : List (S32))).bind fun y126 => ((some (x7_2.drop (x9_3 : Int).toNat : List (S32))).bind fun y129 => (if y126.length + y129.length < 4398046511104 then (tidemillref02_Make.l1 k3 a0 l1 (y126 ++ y129) (l1.length : Int) (wrap64 (x39_2 + 1))) else (none)))) else (none)))) else (none)) = some (r1, r2, r3) := by first | (rw [hy115]; with_reducible exact H) | (have H2_ := (Option.bind_some _ _).symm.trans H; rw [hy115]; with_reducible exact H2_) | (have H2_ := (Option.bind_some _ _).symm.trans H; with_reducible exact H2_) | with_reducible exact H | (rw [hy115]; exact H) | exact H
                 have Ny115 := am' hy115
                 clear hy115
                 by_cases c31 : y112.length + y115.length < 4398046511104
                 ·rw [if_pos c31] at H
                  have LMc31 := am' c31
                  clear c31
                  obtain ⟨y119, hy119⟩ : ∃ y_ : List (S32), y_ = (y112 ++ y115) := ⟨_, rfl⟩
                  replace H : ((some (([(⟨(rd_T32 l1 x39_2).f0, (rd_T32 l1 x39_2).f1⟩ : S32)] : List (S32)) : List (S32))).bind fun y123 => (if y119.length + y123.length < 4398046511104 then ((some (y119 ++ y123 : List (S32))).bind fun y126 => ((some (x7_2.drop (x9_3 : Int).toNat : List (S32))).bind fun y129 => (if y126.length + y129.length < 4398046511104 then (tidemillref02_Make.l1 k3 a0 l1 (y126 ++ y129) (l1.length : Int) (wrap64 (x39_2 + 1))) else (none)))) else (none))) = some (r1, r2, r3) := by first | (rw [hy119]; with_reducible exact H) | (have H2_ := (Option.bind_some _ _).symm.trans H; rw [hy119]; with_reducible exact H2_) | (have H2_ := (Option.bind_some _ _).symm.trans H; with_reducible exact H2_) | with_reducible exact H | (rw [hy119]; exact H) | exact H
                  have Ny119 := am' hy119
                  clear hy119
                  obtain ⟨y123, hy123⟩ : ∃ y_ : List (S32), y_ = (([(⟨(rd_T32 l1 x39_2).f0, (rd_T32 l1 x39_2).f1⟩ : S32)] : List (S32))) := ⟨_, rfl⟩
                  replace H : (if y119.length + y123.length < 4398046511104 then ((some (y119 ++ y123 : List (S32))).bind fun y126 => ((some (x7_2.drop (x9_3 : Int).toNat : List (S32))).bind fun y129 => (if y126.length + y129.length < 4398046511104 then (tidemillref02_Make.l1 k3 a0 l1 (y126 ++ y129) (l1.length : Int) (wrap64 (x39_2 + 1))) else (none)))) else (none)) = some (r1, r2, r3) := by first | (rw [hy123]; with_reducible exact H) | (have H2_ := (Option.bind_some _ _).symm.trans H; rw [hy123]; with_reducible exact H2_) | (have H2_ := (Option.bind_some _ _).symm.trans H; with_reducible exact H2_) | with_reducible exact H | (rw [hy123]; exact H) | exact H
                  have Ny123 := am' hy123
                  clear hy123
                  by_cases c32 : y119.length + y123.length < 4398046511104
                  ·rw [if_pos c32] at H
                   have LMc32 := am' c32
                   clear c32
                   obtain ⟨y126, hy126⟩ : ∃ y_ : List (S32), y_ = (y119 ++ y123) := ⟨_, rfl⟩
                   replace H : ((some (x7_2.drop (x9_3 : Int).toNat : List (S32))).bind fun y129 => (if y126.length + y129.length < 4398046511104 then (tidemillref02_Make.l1 k3 a0 l1 (y126 ++ y129) (l1.length : Int) (wrap64 (x39_2 + 1))) else (none))) = some (r1, r2, r3) := by first | (rw [hy126]; with_reducible exact H) | (have H2_ := (Option.bind_some _ _).symm.trans H; rw [hy126]; with_reducible exact H2_) | (have H2_ := (Option.bind_some _ _).symm.trans H; with_reducible exact H2_) | with_reducible exact H | (rw [hy126]; exact H) | exact H
                   have Ny126 := am' hy126
                   clear hy126
                   have c33b0 := eq_true (of_decide_eq_true (by first | (with_reducible assumption) | assumption) : 0 ≤ x9_3)
                   have c34b0 := eq_true (of_decide_eq_true (by first | (with_reducible assumption) | assumption) : x9_3 ≤ (x7_2.length : Int))
                   obtain ⟨y129, hy129⟩ : ∃ y_ : List (S32), y_ = (x7_2.drop (x9_3 : Int).toNat) := ⟨_, rfl⟩
                   replace H : (if y126.length + y129.length < 4398046511104 then (tidemillref02_Make.l1 k3 a0 l1 (y126 ++ y129) (l1.length : Int) (wrap64 (x39_2 + 1))) else (none)) = some (r1, r2, r3) := by first | (rw [hy129]; with_reducible exact H) | (have H2_ := (Option.bind_some _ _).symm.trans H; rw [hy129]; with_reducible exact H2_) | (have H2_ := (Option.bind_some _ _).symm.trans H; with_reducible exact H2_) | with_reducible exact H | (rw [hy129]; exact H) | exact H
                   have Ny129 := am' hy129
                   clear hy129
                   by_cases c35 : y126.length + y129.length < 4398046511104
                   ·rw [if_pos c35] at H
                    have LMc35 := am' c35
                    clear c35
                    obtain ⟨y133, hy133⟩ : ∃ y_ : List (S32), y_ = (y126 ++ y129) := ⟨_, rfl⟩
                    replace H : (tidemillref02_Make.l1 k3 a0 l1 y133 (l1.length : Int) (wrap64 (x39_2 + 1))) = some (r1, r2, r3) := by first | (rw [hy133]; with_reducible exact H) | (have H2_ := (Option.bind_some _ _).symm.trans H; rw [hy133]; with_reducible exact H2_) | (have H2_ := (Option.bind_some _ _).symm.trans H; with_reducible exact H2_) | with_reducible exact H | (rw [hy133]; exact H) | exact H
                    have Ny133 := am' hy133
                    clear hy133
                    have H' := am' H
                    clear H
                    try go_wp2
                    have n0_ := am' (rD' Gb.out)
                    have n1_ := am' (bD' Ga.out)
                    have n2_ := am' (pD' HB.out)
                    clear Gb
                    clear Ga
                    clear HB
                    have Gb := n0_
                    have Ga := n1_
                    have HB := n2_
                    clear n0_ n1_ n2_
                    obtain ⟨Ao37, co37, eo37⟩ := Kd.R_slice Gb.out
                    (first | subst eo37 | (injection eo37 with f1_ f2_ f3_; have f4_ := f1_.symm; have f5_ := f3_.symm; clear f1_ f2_ f3_; subst f4_; subst f5_))
                    have p107 : 0 ≤ (x9_3 : Int) := of_decide_eq_true (by first | (with_reducible assumption) | assumption)
                    have q107 : x9_3 < (x7_2.length : Int) := of_decide_eq_true (by first | (with_reducible assumption) | assumption)
                    obtain ⟨ad107, e107, hx107_0, hx107_1⟩ := at_T32 (Kd.R_reads' Gb.out).2.2 x9_3 p107 q107
                    cases e107
                    replace p107 := eq_true p107
                    replace q107 := eq_true q107
                    have p108 : 0 ≤ (x39_2 : Int) := of_decide_eq_true (by first | (with_reducible assumption) | assumption)
                    have q108 : x39_2 < (l1.length : Int) := of_decide_eq_true (by first | (with_reducible assumption) | assumption)
                    obtain ⟨ad108, e108, hx108_0, hx108_1⟩ := at_T32 HR1.out x39_2 p108 q108
                    have hw108_1 := hx108_1
                    have hw108_0 := hx108_0
                    cases e108
                    replace hx108_0 := (HB.out.cell (World.block_lt_of_cell? w _ hx108_0)).trans hx108_0
                    replace hx108_1 := (HB.out.cell (World.block_lt_of_cell? w _ hx108_1)).trans hx108_1
                    replace p108 := eq_true p108
                    replace q108 := eq_true q108
                    refine start_ (n := 18) (S := fun w' => w'.cell? (ad107.add ((x9_3).toNat * 2)) = some (.string ((rd_T32 x7_2 x9_3).f0)) ∧ w'.cell? ⟨(ad107.add ((x9_3).toNat * 2)).block, (ad107.add ((x9_3).toNat * 2)).off + 1, none⟩ = some (.string ((rd_T32 x7_2 x9_3).f1)) ∧ w'.cell? (ad108.add ((x39_2).toNat * 2)) = some (.string ((rd_T32 l1 x39_2).f0)) ∧ w'.cell? ⟨(ad108.add ((x39_2).toNat * 2)).block, (ad108.add ((x39_2).toNat * 2)).off + 1, none⟩ = some (.string ((rd_T32 l1 x39_2).f1))) (ds := []) #[false, false, false, false, false, false, false, false, false, false, false, false, false, false, false, false, false, false] (by kernel_rfl) rfl rfl ⟨hx107_0, hx107_1, ((HB.out.cell (World.block_lt_of_cell? w _ hw108_0)).trans hw108_0), ((HB.out.cell (World.block_lt_of_cell? w _ hw108_1)).trans hw108_1)⟩ (fun hHeld => ?_); refine with_tabW tidemillref02_Make.tab14 tidemillref02_Make.bits14 (fun HT_ HW_ => ?_)
                    generalize wr.drew = w36 at Gb Ga HB hx107_0 hx107_1 hx108_0 hx108_1 hHeld ⊢
                    refine pure_ (i := 0) (N := some 42) (v := ?_) (a' := ?_) #[true, false, false, false, false, false, false, false, false, false, false, false, false, false, false, false, false, false] rfl rfl (any_of HT_.out (by kernel_rfl)) (fun _ _ _ h => h) (Or.inl ⟨by rfl, ?_⟩) ?_ ?_
                    rotate_left
                    ·intro w'
                     go_simp
                     with_reducible rfl
                    rotate_left
                    ·simp only [Act.put, sa', sz', ss', i64_w, i32_w]
                     rfl
                    refine pure_ (i := 1) (N := some 43) (v := ?_) (a' := ?_) #[true, true, false, false, false, false, false, false, false, false, false, false, false, false, false, false, false, false] rfl rfl (any_of HT_.out (by kernel_rfl)) (fun _ _ _ h => h) (Or.inl ⟨by rfl, ?_⟩) ?_ ?_
                    rotate_left
                    ·intro w'
                     go_simp
                     with_reducible rfl
                    rotate_left
                    ·simp only [Act.put, sa', sz', ss', i64_w, i32_w]
                     rfl
                    refine pure_ (i := 2) (N := some 44) (v := ?_) (a' := ?_) #[true, true, true, false, false, false, false, false, false, false, false, false, false, false, false, false, false, false] rfl rfl (any_of HT_.out (by kernel_rfl)) (fun _ _ _ h => h) (Or.inl ⟨by rfl, ?_⟩) ?_ ?_
                    rotate_left
                    ·intro w'
                     go_simp
                     with_reducible rfl
                    rotate_left
                    ·simp only [Act.put, sa', sz', ss', i64_w, i32_w]
                     rfl
                    refine pure_ (i := 3) (N := some 45) (v := ?_) (a' := ?_) #[true, true, true, true, false, false, false, false, false, false, false, false, false, false, false, false, false, false] rfl rfl (any_of HT_.out (by kernel_rfl)) (fun _ _ _ h => h) (Or.inl ⟨by rfl, ?_⟩) ?_ ?_
                    rotate_left
                    ·intro w'
                     go_simp
                     with_reducible rfl
                    rotate_left
                    ·simp only [Act.put, sa', sz', ss', i64_w, i32_w]
                     rfl
                    refine pure_ (i := 4) (N := some 46) (v := ?_) (a' := ?_) #[true, true, true, true, true, false, false, false, false, false, false, false, false, false, false, false, false, false] rfl rfl (any_of HT_.out (by kernel_rfl)) (fun _ _ _ h => h) (Or.inl ⟨by rfl, ?_⟩) ?_ ?_
                    rotate_left
                    ·intro w'
                     go_simp
                     with_reducible rfl
                    rotate_left
                    ·simp only [Act.put, sa', sz', ss', i64_w, i32_w]
                     rfl
                    refine pure_ (i := 5) (N := some 47) (v := ?_) (a' := ?_) #[true, true, true, true, true, true, false, false, false, false, false, false, false, false, false, false, false, false] rfl rfl (any_of HT_.out (by kernel_rfl)) (fun _ _ _ h => h) (Or.inl ⟨by rfl, ?_⟩) ?_ ?_
                    rotate_left
                    ·intro w'
                     go_simp
                     with_reducible rfl
                    rotate_left
                    ·simp only [Act.put, sa', sz', ss', i64_w, i32_w]
                     rfl
                    refine pure_ (i := 6) (N := some 48) (v := ?_) (a' := ?_) #[true, true, true, true, true, true, true, false, false, false, false, false, false, false, false, false, false, false] rfl rfl (any_of HT_.out (by kernel_rfl)) (fun _ _ _ h => h) (Or.inl ⟨by rfl, ?_⟩) ?_ ?_
                    rotate_left
                    ·intro w'
                     go_simp
                     with_reducible rfl
                    rotate_left
                    ·simp only [Act.put, sa', sz', ss', i64_w, i32_w]
                     rfl
                    refine pure_ (i := 7) (N := some 49) (v := ?_) (a' := ?_) #[true, true, true, true, true, true, true, true, false, false, false, false, false, false, false, false, false, false] rfl rfl (any_of HT_.out (by kernel_rfl)) (fun _ _ _ h => h) (Or.inl ⟨by rfl, ?_⟩) ?_ ?_
                    rotate_left
                    ·intro w'
                     go_simp
                     with_reducible rfl
                    rotate_left
                    ·simp only [Act.put, sa', sz', ss', i64_w, i32_w]
                     rfl
                    refine pure_ (i := 8) (N := some 50) (v := ?_) (a' := ?_) #[true, true, true, true, true, true, true, true, true, false, false, false, false, false, false, false, false, false] rfl rfl (any_of HT_.out (by kernel_rfl)) (fun _ _ _ h => h) (Or.inl ⟨by rfl, ?_⟩) ?_ ?_
                    rotate_left
                    ·intro w'
                     go_simp
                     with_reducible rfl
                    rotate_left
                    ·simp only [Act.put, sa', sz', ss', i64_w, i32_w]
                     rfl
                    refine pure_ (i := 10) (N := some 52) (v := ?_) (a' := ?_) #[true, true, true, true, true, true, true, true, true, false, true, false, false, false, false, false, false, false] rfl rfl (any_of HT_.out (by kernel_rfl)) (fun _ _ _ h => h) (Or.inl ⟨by rfl, ?_⟩) ?_ ?_
                    rotate_left
                    ·intro w'
                     go_simp
                     with_reducible rfl
                    rotate_left
                    ·simp only [Act.put, sa', sz', ss', i64_w, i32_w]
                     rfl
                    refine pure_ (i := 11) (N := some 53) (v := ?_) (a' := ?_) #[true, true, true, true, true, true, true, true, true, false, true, true, false, false, false, false, false, false] rfl rfl (any_of HT_.out (by kernel_rfl)) (fun _ _ _ h => h) (Or.inl ⟨by rfl, ?_⟩) ?_ ?_
                    rotate_left
                    ·intro w'
                     go_simp
                     with_reducible rfl
                    rotate_left
                    ·simp only [Act.put, sa', sz', ss', i64_w, i32_w]
                     rfl
                    refine pure_ (i := 12) (N := some 54) (v := ?_) (a' := ?_) #[true, true, true, true, true, true, true, true, true, false, true, true, true, false, false, false, false, false] rfl rfl (any_of HT_.out (by kernel_rfl)) (fun _ _ _ h => h) (Or.inl ⟨by rfl, ?_⟩) ?_ ?_
                    rotate_left
                    ·intro w'
                     go_simp
                     with_reducible rfl
                    rotate_left
                    ·simp only [Act.put, sa', sz', ss', i64_w, i32_w]
                     rfl
                    refine pure_ (i := 13) (N := some 55) (v := ?_) (a' := ?_) #[true, true, true, true, true, true, true, true, true, false, true, true, true, true, false, false, false, false] rfl rfl (any_of HT_.out (by kernel_rfl)) (fun _ _ _ h => h) (Or.inl ⟨by rfl, ?_⟩) ?_ ?_
                    rotate_left
                    ·intro w'
                     go_simp
                     with_reducible rfl
                    rotate_left
                    ·simp only [Act.put, sa', sz', ss', i64_w, i32_w]
                     rfl
                    refine take_ (i := 9) (N := some 51) (v := ?_) (a' := ?_) #[true, true, true, true, true, true, true, true, true, true, true, true, true, true, false, false, false, false] rfl rfl (take_ofW HT_.out HW_.out (by kernel_rfl)) (fun _ _ _ h => h) (Or.inl ⟨by rfl, ?_⟩) hHeld ?_ ?_
                    rotate_left
                    ·rintro w' ⟨s0, s1, s2, s3⟩
                     go_simp
                     with_reducible rfl
                    rotate_left
                    ·simp only [Act.put, sa', sz', ss', i64_w, i32_w]
                     rfl
                    refine take_ (i := 14) (N := some 56) (v := ?_) (a' := ?_) #[true, true, true, true, true, true, true, true, true, true, true, true, true, true, true, false, false, false] rfl rfl (take_ofW HT_.out HW_.out (by kernel_rfl)) (fun _ _ _ h => h) (Or.inl ⟨by rfl, ?_⟩) hHeld ?_ ?_
                    rotate_left
                    ·rintro w' ⟨s0, s1, s2, s3⟩
                     go_simp
                     with_reducible rfl
                    rotate_left
                    ·simp only [Act.put, sa', sz', ss', i64_w, i32_w]
                     rfl
                    refine one_ (i := 15) (N := some 57) #[true, true, true, true, true, true, true, true, true, true, true, true, true, true, true, true, false, false] rfl rfl (one_of HT_.out (by kernel_rfl)) (by decide) (fun K hK => ?_)
                    refine goes_ Try.func24 (by kernel_rfl) rfl #[.string ((rd_T32 x7_2 x9_3).f0), .string ((rd_T32 l1 x39_2).f0)] (by rfl) rfl rfl (by (try simp only [List.map_toArray, List.map_cons, List.map_nil]); first | done | rfl | (simp only [List.length_drop, List.length_take]; rfl)) ?_
                    with_reducible refine (tidemillref01_Texts.calls k3 ((rd_T32 x7_2 x9_3).f0) ((rd_T32 l1 x39_2).f0) Ge _ A20.out).mono ?_
                    rintro e w' ⟨rfl, ⟨nd, rfl⟩⟩
                    refine ⟨_, rfl, ?_⟩
                    refine hK.out _ _ ⟨hHeld.1, hHeld.2.1, ((HB.out.cell (World.block_lt_of_cell? w _ hw108_0)).trans hw108_0), ((HB.out.cell (World.block_lt_of_cell? w _ hw108_1)).trans hw108_1)⟩ (fun hHeld => ?_)
                    clear hK K
                    refine norm_ (a' := ?_) ?_ ?_
                    rotate_left
                    ·show Act.put _ (some 57) _ = _
                     simp only [Act.put, sa', sz', ss', i64_w, i32_w]
                     rfl
                    refine pure_ (i := 16) (N := some 58) (v := ?_) (a' := ?_) #[true, true, true, true, true, true, true, true, true, true, true, true, true, true, true, true, true, false] rfl rfl (any_of HT_.out (by kernel_rfl)) (fun _ _ _ h => h) (Or.inl ⟨by rfl, ?_⟩) ?_ ?_
                    rotate_left
                    ·intro w'
                     go_simp
                     with_reducible rfl
                    rotate_left
                    ·simp only [Act.put, sa', sz', ss', i64_w, i32_w]
                     rfl
                    refine pure_ (i := 17) (N := some 59) (v := ?_) (a' := ?_) #[true, true, true, true, true, true, true, true, true, true, true, true, true, true, true, true, true, true] rfl rfl (any_of HT_.out (by kernel_rfl)) (fun _ _ _ h => h) (Or.inl ⟨by rfl, ?_⟩) ?_ ?_
                    rotate_left
                    ·intro w'
                     go_simp
                     with_reducible rfl
                    rotate_left
                    ·simp only [Act.put, sa', sz', ss', i64_w, i32_w]
                     rfl
                    refine done_ (done_of HT_.out (by kernel_rfl)) ?_
                    try go_wp2
                    (try (rw [drewN_self w36]; generalize hq_ : World.drewN w36 _ = w36; have n0_ : Aside0 (Kd.R k32 32 w36 w.heap.size (fun _ => True) (.slice (some ad107) x7_2.length co37) x7_2) := ⟨by rw [← hq_]; exact (by (with_reducible repeat (first | apply rA' | apply rN' | apply rD')); exact Gb.out)⟩; have n1_ : Aside0 (w36.heap[Gd]? = some (.cells #[.string x102000_2, .slice none 0 0] 25 (0, 0))) := ⟨by rw [← hq_]; exact (by (with_reducible repeat (first | refine bN' ?_ _ | refine bD' ?_ | refine bA' ?_ _)); exact Ga.out)⟩; have n2_ : Aside0 (Below w.heap.size w w36) := ⟨by rw [← hq_]; exact (by repeat (first | (with_reducible first | exact HB.out | apply pA' | apply pN' | apply pD' | refine pS' ?_ Gc.out) | exact HB.out))⟩; clear Gb Ga HB hq_; have Gb := n0_; have Ga := n1_; have HB := n2_; clear n0_ n1_ n2_))
                    have n0_ := am' (rD' Gb.out)
                    have n1_ := am' (bD' Ga.out)
                    have n2_ := am' (pD' HB.out)
                    clear Gb
                    clear Ga
                    clear HB
                    have Gb := n0_
                    have Ga := n1_
                    have HB := n2_
                    clear n0_ n1_ n2_
                    have p110 : 0 ≤ (x9_3 : Int) := of_decide_eq_true (by first | (with_reducible assumption) | assumption)
                    have q110 : x9_3 < (x7_2.length : Int) := of_decide_eq_true (by first | (with_reducible assumption) | assumption)
                    obtain ⟨ad110, e110, hx110_0, hx110_1⟩ := at_T32 (Kd.R_reads' Gb.out).2.2 x9_3 p110 q110
                    obtain rfl : ad107 = ad110 := (by injection e110)
                    replace p110 := eq_true p110
                    replace q110 := eq_true q110
                    have p111 : 0 ≤ (x39_2 : Int) := of_decide_eq_true (by first | (with_reducible assumption) | assumption)
                    have q111 : x39_2 < (l1.length : Int) := of_decide_eq_true (by first | (with_reducible assumption) | assumption)
                    obtain ⟨ad111, e111, hx111_0, hx111_1⟩ := at_T32 HR1.out x39_2 p111 q111
                    have hw111_1 := hx111_1
                    have hw111_0 := hx111_0
                    obtain rfl : ad108 = ad111 := (by injection e111)
                    replace hx111_0 := (HB.out.cell (World.block_lt_of_cell? w _ hx111_0)).trans hx111_0
                    replace hx111_1 := (HB.out.cell (World.block_lt_of_cell? w _ hx111_1)).trans hx111_1
                    replace p111 := eq_true p111
                    replace q111 := eq_true q111
                    refine start_ (n := 17) (S := fun w' => w'.cell? (ad107.add ((x9_3).toNat * 2)) = some (.string ((rd_T32 x7_2 x9_3).f0)) ∧ w'.cell? ⟨(ad107.add ((x9_3).toNat * 2)).block, (ad107.add ((x9_3).toNat * 2)).off + 1, none⟩ = some (.string ((rd_T32 x7_2 x9_3).f1)) ∧ w'.cell? (ad108.add ((x39_2).toNat * 2)) = some (.string ((rd_T32 l1 x39_2).f0)) ∧ w'.cell? ⟨(ad108.add ((x39_2).toNat * 2)).block, (ad108.add ((x39_2).toNat * 2)).off + 1, none⟩ = some (.string ((rd_T32 l1 x39_2).f1))) (ds := []) #[false, false, false, false, false, false, false, false, false, false, false, false, false, false, false, false, false] (by kernel_rfl) rfl rfl ⟨hx110_0, hx110_1, ((HB.out.cell (World.block_lt_of_cell? w _ hw111_0)).trans hw111_0), ((HB.out.cell (World.block_lt_of_cell? w _ hw111_1)).trans hw111_1)⟩ (fun hHeld => ?_); refine with_tabW tidemillref02_Make.tab16 tidemillref02_Make.bits16 (fun HT_ HW_ => ?_)
                    generalize w36.drew = w38 at Gb Ga HB hx110_0 hx110_1 hx111_0 hx111_1 hHeld ⊢
                    refine pure_ (i := 0) (N := some 62) (v := ?_) (a' := ?_) #[true, false, false, false, false, false, false, false, false, false, false, false, false, false, false, false, false] rfl rfl (any_of HT_.out (by kernel_rfl)) (fun _ _ _ h => h) (Or.inl ⟨by rfl, ?_⟩) ?_ ?_
                    rotate_left
                    ·intro w'
                     go_simp
                     with_reducible rfl
                    rotate_left
                    ·simp only [Act.put, sa', sz', ss', i64_w, i32_w]
                     rfl
                    refine pure_ (i := 1) (N := some 63) (v := ?_) (a' := ?_) #[true, true, false, false, false, false, false, false, false, false, false, false, false, false, false, false, false] rfl rfl (any_of HT_.out (by kernel_rfl)) (fun _ _ _ h => h) (Or.inl ⟨by rfl, ?_⟩) ?_ ?_
                    rotate_left
                    ·intro w'
                     go_simp
                     with_reducible rfl
                    rotate_left
                    ·simp only [Act.put, sa', sz', ss', i64_w, i32_w]
                     rfl
                    refine pure_ (i := 2) (N := some 64) (v := ?_) (a' := ?_) #[true, true, true, false, false, false, false, false, false, false, false, false, false, false, false, false, false] rfl rfl (any_of HT_.out (by kernel_rfl)) (fun _ _ _ h => h) (Or.inl ⟨by rfl, ?_⟩) ?_ ?_
                    rotate_left
                    ·intro w'
                     go_simp
                     with_reducible rfl
                    rotate_left
                    ·simp only [Act.put, sa', sz', ss', i64_w, i32_w]
                     rfl
                    refine pure_ (i := 3) (N := some 65) (v := ?_) (a' := ?_) #[true, true, true, true, false, false, false, false, false, false, false, false, false, false, false, false, false] rfl rfl (any_of HT_.out (by kernel_rfl)) (fun _ _ _ h => h) (Or.inl ⟨by rfl, ?_⟩) ?_ ?_
                    rotate_left
                    ·intro w'
                     go_simp
                     with_reducible rfl
                    rotate_left
                    ·simp only [Act.put, sa', sz', ss', i64_w, i32_w]
                     rfl
                    refine pure_ (i := 4) (N := some 66) (v := ?_) (a' := ?_) #[true, true, true, true, true, false, false, false, false, false, false, false, false, false, false, false, false] rfl rfl (any_of HT_.out (by kernel_rfl)) (fun _ _ _ h => h) (Or.inl ⟨by rfl, ?_⟩) ?_ ?_
                    rotate_left
                    ·intro w'
                     go_simp
                     with_reducible rfl
                    rotate_left
                    ·simp only [Act.put, sa', sz', ss', i64_w, i32_w]
                     rfl
                    refine pure_ (i := 5) (N := some 67) (v := ?_) (a' := ?_) #[true, true, true, true, true, true, false, false, false, false, false, false, false, false, false, false, false] rfl rfl (any_of HT_.out (by kernel_rfl)) (fun _ _ _ h => h) (Or.inl ⟨by rfl, ?_⟩) ?_ ?_
                    rotate_left
                    ·intro w'
                     go_simp
                     with_reducible rfl
                    rotate_left
                    ·simp only [Act.put, sa', sz', ss', i64_w, i32_w]
                     rfl
                    refine pure_ (i := 6) (N := some 68) (v := ?_) (a' := ?_) #[true, true, true, true, true, true, true, false, false, false, false, false, false, false, false, false, false] rfl rfl (any_of HT_.out (by kernel_rfl)) (fun _ _ _ h => h) (Or.inl ⟨by rfl, ?_⟩) ?_ ?_
                    rotate_left
                    ·intro w'
                     go_simp
                     with_reducible rfl
                    rotate_left
                    ·simp only [Act.put, sa', sz', ss', i64_w, i32_w]
                     rfl
                    refine pure_ (i := 7) (N := some 69) (v := ?_) (a' := ?_) #[true, true, true, true, true, true, true, true, false, false, false, false, false, false, false, false, false] rfl rfl (any_of HT_.out (by kernel_rfl)) (fun _ _ _ h => h) (Or.inl ⟨by rfl, ?_⟩) ?_ ?_
                    rotate_left
                    ·intro w'
                     go_simp
                     with_reducible rfl
                    rotate_left
                    ·simp only [Act.put, sa', sz', ss', i64_w, i32_w]
                     rfl
                    refine pure_ (i := 8) (N := some 70) (v := ?_) (a' := ?_) #[true, true, true, true, true, true, true, true, true, false, false, false, false, false, false, false, false] rfl rfl (any_of HT_.out (by kernel_rfl)) (fun _ _ _ h => h) (Or.inl ⟨by rfl, ?_⟩) ?_ ?_
                    rotate_left
                    ·intro w'
                     go_simp
                     with_reducible rfl
                    rotate_left
                    ·simp only [Act.put, sa', sz', ss', i64_w, i32_w]
                     rfl
                    refine pure_ (i := 10) (N := some 72) (v := ?_) (a' := ?_) #[true, true, true, true, true, true, true, true, true, false, true, false, false, false, false, false, false] rfl rfl (any_of HT_.out (by kernel_rfl)) (fun _ _ _ h => h) (Or.inl ⟨by rfl, ?_⟩) ?_ ?_
                    rotate_left
                    ·intro w'
                     go_simp
                     with_reducible rfl
                    rotate_left
                    ·simp only [Act.put, sa', sz', ss', i64_w, i32_w]
                     rfl
                    refine pure_ (i := 11) (N := some 73) (v := ?_) (a' := ?_) #[true, true, true, true, true, true, true, true, true, false, true, true, false, false, false, false, false] rfl rfl (any_of HT_.out (by kernel_rfl)) (fun _ _ _ h => h) (Or.inl ⟨by rfl, ?_⟩) ?_ ?_
                    rotate_left
                    ·intro w'
                     go_simp
                     with_reducible rfl
                    rotate_left
                    ·simp only [Act.put, sa', sz', ss', i64_w, i32_w]
                     rfl
                    refine pure_ (i := 12) (N := some 74) (v := ?_) (a' := ?_) #[true, true, true, true, true, true, true, true, true, false, true, true, true, false, false, false, false] rfl rfl (any_of HT_.out (by kernel_rfl)) (fun _ _ _ h => h) (Or.inl ⟨by rfl, ?_⟩) ?_ ?_
                    rotate_left
                    ·intro w'
                     go_simp
                     with_reducible rfl
                    rotate_left
                    ·simp only [Act.put, sa', sz', ss', i64_w, i32_w]
                     rfl
                    refine pure_ (i := 13) (N := some 75) (v := ?_) (a' := ?_) #[true, true, true, true, true, true, true, true, true, false, true, true, true, true, false, false, false] rfl rfl (any_of HT_.out (by kernel_rfl)) (fun _ _ _ h => h) (Or.inl ⟨by rfl, ?_⟩) ?_ ?_
                    rotate_left
                    ·intro w'
                     go_simp
                     with_reducible rfl
                    rotate_left
                    ·simp only [Act.put, sa', sz', ss', i64_w, i32_w]
                     rfl
                    refine take_ (i := 9) (N := some 71) (v := ?_) (a' := ?_) #[true, true, true, true, true, true, true, true, true, true, true, true, true, true, false, false, false] rfl rfl (take_ofW HT_.out HW_.out (by kernel_rfl)) (fun _ _ _ h => h) (Or.inl ⟨by rfl, ?_⟩) hHeld ?_ ?_
                    rotate_left
                    ·rintro w' ⟨s0, s1, s2, s3⟩
                     go_simp
                     with_reducible rfl
                    rotate_left
                    ·simp only [Act.put, sa', sz', ss', i64_w, i32_w]
                     rfl
                    refine take_ (i := 14) (N := some 76) (v := ?_) (a' := ?_) #[true, true, true, true, true, true, true, true, true, true, true, true, true, true, true, false, false] rfl rfl (take_ofW HT_.out HW_.out (by kernel_rfl)) (fun _ _ _ h => h) (Or.inl ⟨by rfl, ?_⟩) hHeld ?_ ?_
                    rotate_left
                    ·rintro w' ⟨s0, s1, s2, s3⟩
                     go_simp
                     with_reducible rfl
                    rotate_left
                    ·simp only [Act.put, sa', sz', ss', i64_w, i32_w]
                     rfl
                    refine pure_ (i := 15) (N := some 77) (v := ?_) (a' := ?_) #[true, true, true, true, true, true, true, true, true, true, true, true, true, true, true, true, false] rfl rfl (any_of HT_.out (by kernel_rfl)) (fun _ _ _ h => h) (Or.inl ⟨by rfl, ?_⟩) ?_ ?_
                    rotate_left
                    ·intro w'
                     go_simp
                     with_reducible rfl
                    rotate_left
                    ·simp only [Act.put, sa', sz', ss', i64_w, i32_w]
                     rfl
                    refine pure_ (i := 16) (N := some 78) (v := ?_) (a' := ?_) #[true, true, true, true, true, true, true, true, true, true, true, true, true, true, true, true, true] rfl rfl (any_of HT_.out (by kernel_rfl)) (fun _ _ _ h => h) (Or.inl ⟨by rfl, ?_⟩) ?_ ?_
                    rotate_left
                    ·intro w'
                     go_simp
                     with_reducible rfl
                    rotate_left
                    ·simp only [Act.put, sa', sz', ss', i64_w, i32_w]
                     rfl
                    refine done_ (done_of HT_.out (by kernel_rfl)) ?_
                    try go_wp2
                    have n0_ := am' (rD' Gb.out)
                    have n1_ := am' (bD' Ga.out)
                    have n2_ := am' (pD' HB.out)
                    clear Gb
                    clear Ga
                    clear HB
                    have Gb := n0_
                    have Ga := n1_
                    have HB := n2_
                    clear n0_ n1_ n2_
                    have q40 : (x9_3 : Int) ≤ ((x7_2.length : Int) : Int) := of_decide_eq_true (by first | (with_reducible assumption) | assumption)
                    obtain ⟨i040, hi040, _, hsz40, _⟩ := info_parts info32
                    have hroom40 : x7_2.length ≤ co37 := (Kd.R_reads' Gb.out).2.1
                    have hC40 : Kd.C k32 _ (some ad107) x7_2.length x7_2 := (Kd.R_reads' Gb.out).2.2
                    have hcut40 := cut_to (P := Try.prog) 22 32 .i64 Try.underlying22 hi040 (some ad107) x7_2.length co37 x9_3 (of_decide_eq_true (by first | (with_reducible assumption) | assumption)) q40 hroom40
                    have hr40 := Kd.C_take (m := (x9_3 : Int).toNat) hC40 (by omega)
                    have hy40 : y115.length = (x9_3 : Int).toNat := (by rw [Ny115.out, List.length_take]; omega)
                    rw [← Ny115.out] at hr40
                    rw [← hy40] at hcut40
                    have HR118 := am' hr40
                    have HC118 := am' (show y115.length ≤ co37 from by omega)
                    clear hr40 hC40 hroom40 hi040 hsz40
                    have KY40 := am' hy40
                    clear hy40
                    have KL40 := am' (show (x9_3 : Int).toNat ≤ x7_2.length from by omega)
                    replace q40 := eq_true q40
                    have p122 : 0 ≤ (x39_2 : Int) := of_decide_eq_true (by first | (with_reducible assumption) | assumption)
                    have q122 : x39_2 < (l1.length : Int) := of_decide_eq_true (by first | (with_reducible assumption) | assumption)
                    obtain ⟨ad122, e122, hx122_0, hx122_1⟩ := at_T32 HR1.out x39_2 p122 q122
                    have hw122_1 := hx122_1
                    have hw122_0 := hx122_0
                    obtain rfl : ad108 = ad122 := (by injection e122)
                    replace hx122_0 := (HB.out.cell (World.block_lt_of_cell? w _ hx122_0)).trans hx122_0
                    replace hx122_1 := (HB.out.cell (World.block_lt_of_cell? w _ hx122_1)).trans hx122_1
                    replace p122 := eq_true p122
                    replace q122 := eq_true q122
                    have q41 : (x9_3 : Int) ≤ ((x7_2.length : Int) : Int) := of_decide_eq_true (by first | (with_reducible assumption) | assumption)
                    obtain ⟨i041, hi041, _, hsz41, _⟩ := info_parts info32
                    have hroom41 : x7_2.length ≤ co37 := (Kd.R_reads' Gb.out).2.1
                    have hC41 : Kd.C k32 _ (some ad107) x7_2.length x7_2 := (Kd.R_reads' Gb.out).2.2
                    have q041 : (0 : Int) ≤ (x9_3 : Int) := of_decide_eq_true (by first | (with_reducible assumption) | assumption)
                    have hcut41 := cut_from (P := Try.prog) 22 32 .i64 Try.underlying22 hi041 2 hsz41 (some ad107) x7_2.length co37 x9_3 q041 q41
                    have hr41 := Kd.C_drop (m := (x9_3 : Int).toNat) (c := co37) hC41 (by omega) hroom41
                    obtain ⟨A41, hA41⟩ : ∃ A1, A1 = (if co37 = (x9_3 : Int).toNat then (some ad107) else ((some ad107) : Option Addr).map (·.add ((x9_3 : Int).toNat * 2))) := ⟨_, rfl⟩
                    obtain ⟨c41, hc41⟩ : ∃ c1, c1 = co37 - (x9_3 : Int).toNat := ⟨_, rfl⟩
                    have hy41 : y129.length = x7_2.length - (x9_3 : Int).toNat := (by rw [Ny129.out, List.length_drop] <;> omega)
                    rw [show (x7_2).drop (x9_3 : Int).toNat = y129 from Ny129.out.symm] at hr41
                    replace hr41 : Kd.C k32 _ A41 y129.length y129 := (by rw [hA41]; exact hr41)
                    rw [← hy41, ← hA41, ← hc41] at hcut41
                    have HR132 := am' hr41
                    have HC132 := am' (show y129.length ≤ c41 from by rw [hy41, hc41]; exact Nat.sub_le_sub_right hroom41 _)
                    clear hr41 hC41 hroom41 hi041 hsz41 hc41
                    have KY41 := am' hy41
                    have KA41 := am' hA41
                    clear hy41 hA41
                    have KL41 := am' (show (x9_3 : Int).toNat ≤ x7_2.length from by omega)
                    replace q41 := eq_true q41
                    refine start_ (n := 16) (S := fun w' => w'.cell? (ad108.add ((x39_2).toNat * 2)) = some (.string ((rd_T32 l1 x39_2).f0)) ∧ w'.cell? ⟨(ad108.add ((x39_2).toNat * 2)).block, (ad108.add ((x39_2).toNat * 2)).off + 1, none⟩ = some (.string ((rd_T32 l1 x39_2).f1))) (ds := []) #[false, false, false, false, false, false, false, false, false, false, false, false, false, false, false, false] (by kernel_rfl) rfl rfl ⟨((HB.out.cell (World.block_lt_of_cell? w _ hw122_0)).trans hw122_0), ((HB.out.cell (World.block_lt_of_cell? w _ hw122_1)).trans hw122_1)⟩ (fun hHeld => ?_); refine with_tabW tidemillref02_Make.tab18 tidemillref02_Make.bits18 (fun HT_ HW_ => ?_)
                    generalize w38.drew = w39 at Gb Ga HB HR118 HR132 hx122_0 hx122_1 hHeld ⊢
                    refine pure_ (i := 1) (N := some 81) (v := ?_) (a' := ?_) #[false, true, false, false, false, false, false, false, false, false, false, false, false, false, false, false] rfl rfl (any_of HT_.out (by kernel_rfl)) (fun _ _ _ h => h) (Or.inl ⟨by rfl, ?_⟩) ?_ ?_
                    rotate_left
                    ·intro w'
                     go_simp
                     with_reducible rfl
                    rotate_left
                    ·simp only [Act.put, sa', sz', ss', i64_w, i32_w]
                     rfl
                    refine pure_ (i := 2) (N := some 82) (v := ?_) (a' := ?_) #[false, true, true, false, false, false, false, false, false, false, false, false, false, false, false, false] rfl rfl (any_of HT_.out (by kernel_rfl)) (fun _ _ _ h => h) (Or.inl ⟨by rfl, ?_⟩) ?_ ?_
                    rotate_left
                    ·intro w'
                     go_simp
                     with_reducible rfl
                    rotate_left
                    ·simp only [Act.put, sa', sz', ss', i64_w, i32_w]
                     rfl
                    refine pure_ (i := 3) (N := some 83) (v := ?_) (a' := ?_) #[false, true, true, true, false, false, false, false, false, false, false, false, false, false, false, false] rfl rfl (any_of HT_.out (by kernel_rfl)) (fun _ _ _ h => h) (Or.inl ⟨by rfl, ?_⟩) ?_ ?_
                    rotate_left
                    ·intro w'
                     go_simp
                     with_reducible rfl
                    rotate_left
                    ·simp only [Act.put, sa', sz', ss', i64_w, i32_w]
                     rfl
                    refine pure_ (i := 5) (N := some 85) (v := ?_) (a' := ?_) #[false, true, true, true, false, true, false, false, false, false, false, false, false, false, false, false] rfl rfl (any_of HT_.out (by kernel_rfl)) (fun _ _ _ h => h) (Or.inl ⟨by rfl, ?_⟩) ?_ ?_
                    rotate_left
                    ·intro w'
                     go_simp
                     with_reducible rfl
                    rotate_left
                    ·simp only [Act.put, sa', sz', ss', i64_w, i32_w]
                     rfl
                    refine pure_ (i := 6) (N := some 86) (v := ?_) (a' := ?_) #[false, true, true, true, false, true, true, false, false, false, false, false, false, false, false, false] rfl rfl (any_of HT_.out (by kernel_rfl)) (fun _ _ _ h => h) (Or.inl ⟨by rfl, ?_⟩) ?_ ?_
                    rotate_left
                    ·intro w'
                     go_simp
                     with_reducible rfl
                    rotate_left
                    ·simp only [Act.put, sa', sz', ss', i64_w, i32_w]
                     rfl
                    refine pure_ (i := 7) (N := some 87) (v := ?_) (a' := ?_) #[false, true, true, true, false, true, true, true, false, false, false, false, false, false, false, false] rfl rfl (any_of HT_.out (by kernel_rfl)) (fun _ _ _ h => h) (Or.inl ⟨by rfl, ?_⟩) ?_ ?_
                    rotate_left
                    ·intro w'
                     go_simp
                     with_reducible rfl
                    rotate_left
                    ·simp only [Act.put, sa', sz', ss', i64_w, i32_w]
                     rfl
                    refine pure_ (i := 11) (N := some 91) (v := ?_) (a' := ?_) #[false, true, true, true, false, true, true, true, false, false, false, true, false, false, false, false] rfl rfl (any_of HT_.out (by kernel_rfl)) (fun _ _ _ h => h) (Or.inl ⟨by rfl, ?_⟩) ?_ ?_
                    rotate_left
                    ·intro w'
                     go_simp
                     with_reducible rfl
                    rotate_left
                    ·simp only [Act.put, sa', sz', ss', i64_w, i32_w]
                     rfl
                    refine pure_ (i := 12) (N := some 92) (v := ?_) (a' := ?_) #[false, true, true, true, false, true, true, true, false, false, false, true, true, false, false, false] rfl rfl (any_of HT_.out (by kernel_rfl)) (fun _ _ _ h => h) (Or.inl ⟨by rfl, ?_⟩) ?_ ?_
                    rotate_left
                    ·intro w'
                     go_simp
                     with_reducible rfl
                    rotate_left
                    ·simp only [Act.put, sa', sz', ss', i64_w, i32_w]
                     rfl
                    refine pure_ (i := 13) (N := some 93) (v := ?_) (a' := ?_) #[false, true, true, true, false, true, true, true, false, false, false, true, true, true, false, false] rfl rfl (any_of HT_.out (by kernel_rfl)) (fun _ _ _ h => h) (Or.inl ⟨by rfl, ?_⟩) ?_ ?_
                    rotate_left
                    ·intro w'
                     go_simp
                     with_reducible rfl
                    rotate_left
                    ·simp only [Act.put, sa', sz', ss', i64_w, i32_w]
                     rfl
                    refine take_ (i := 8) (N := some 88) (v := ?_) (a' := ?_) #[false, true, true, true, false, true, true, true, true, false, false, true, true, true, false, false] rfl rfl (take_ofW HT_.out HW_.out (by kernel_rfl)) (fun _ _ _ h => h) (Or.inl ⟨by rfl, ?_⟩) hHeld ?_ ?_
                    rotate_left
                    ·rintro w' ⟨s0, s1⟩
                     go_simp
                     with_reducible rfl
                    rotate_left
                    ·simp only [Act.put, sa', sz', ss', i64_w, i32_w]
                     rfl
                    refine join_ (σ := Value × Value × Value) 3 #[true, true, true, true, true, true, true, true, true, true, false, true, true, true, false, false] (fun s_ => [(80, s_.1), (84, s_.2.1), (89, s_.2.2)]) (fun s_ w' => (w'.cell? (ad108.add ((x39_2).toNat * 2)) = some (.string ((rd_T32 l1 x39_2).f0)) ∧ w'.cell? ⟨(ad108.add ((x39_2).toNat * 2)).block, (ad108.add ((x39_2).toNat * 2)).off + 1, none⟩ = some (.string ((rd_T32 l1 x39_2).f1))) ∧ (Kd.R k32 32 w' w.heap.size (fun k_ => some k_ ≠ (s_.2.2 : Value).ownBlock ∧ some k_ ≠ (.slice (some ad107) x7_2.length co37 : Value).ownBlock) s_.2.1 y119) ∧ (Kd.R k32 32 w' w.heap.size (fun k_ => some k_ ≠ (s_.2.1 : Value).ownBlock ∧ some k_ ≠ (.slice (some ad107) x7_2.length co37 : Value).ownBlock) s_.2.2 y123) ∧ (Kd.R k32 32 w' w.heap.size (fun k_ => some k_ ≠ (s_.2.1 : Value).ownBlock ∧ some k_ ≠ (s_.2.2 : Value).ownBlock) (.slice (some ad107) x7_2.length co37) x7_2) ∧ (w'.heap[Gd]? = some (.cells #[.string x102000_2, .slice none 0 0] 25 (0, 0))) ∧ (Below w.heap.size w w')) ?_ ?_
                    rotate_left
                    ·intro hCont
                     refine two_ (i := 0) (j := 9) (Ni := some 80) (Nj := some 89) #[true, true, true, true, false, true, true, true, true, false, false, true, true, true, false, false] #[false, true, true, true, false, true, true, true, true, true, false, true, true, true, false, false] rfl rfl rfl rfl (two_of HT_.out (by kernel_rfl)) (by decide) (by decide) (fun K hK => ?_) (fun K hK => ?_)
                     ·skip
                      refine Kd.R_lit_step k32 _ 32 ?hg (N := 80) ?hd (xs := ([] : List (S32))) (inner := []) (ok := fun _ => True) (okp := fun _ => True) ?hr ?hp (fun _ hk => hk) trivial (Below.refl _ _) (Nat.le_refl _) (by simp) ?_; (case hd => rfl); (case hg => rfl); (case hr => first | (go_simp; done) | (go_simp; rfl)); (case hp => exact (Reps.none _ _))
                      intro v113 w42 ho43 hb hg_ hnew_
                      clear hg_ hnew_
                      (first | rw [← Ny112.out] at ho43 | (simp only [Int.reduceToNat] at ho43; rw [← Ny112.out] at ho43))
                      have n0_ := am' (Kd.R_elder' (by (with_reducible repeat (first | apply rA' | apply rN' | apply rD')); exact Gb.out) (Kd.R_base ho43) hb)
                      have n1_ := am' (Kd.R_lower (Kd.R_new' ho43 (Kd.R_lt (by (with_reducible repeat (first | apply rA' | apply rN' | apply rD')); exact Gb.out))) (pz' (by repeat (first | (with_reducible first | exact HB.out | apply pA' | apply pN' | apply pD' | refine pS' ?_ Gc.out) | exact HB.out))))
                      have n2_ := am' (bB' (g := Gd) (o := .cells #[.string x102000_2, .slice none 0 0] 25 (0, 0)) (by (with_reducible repeat (first | refine bN' ?_ _ | refine bD' ?_ | refine bA' ?_ _)); exact Ga.out) hb)
                      have n3_ := am' (Kd.C_below (by repeat (first | (with_reducible exact HR118.out) | (with_reducible refine Kd.C_alloc ?_ _) | (with_reducible refine Kd.C_drewN ?_ _) | (with_reducible refine Kd.C_drew ?_) | exact HR118.out)) hb)
                      have n4_ := am' (Kd.C_below (by repeat (first | (with_reducible exact HR132.out) | (with_reducible refine Kd.C_alloc ?_ _) | (with_reducible refine Kd.C_drewN ?_ _) | (with_reducible refine Kd.C_drew ?_) | exact HR132.out)) hb)
                      have n5_ := am' (below_step (by repeat (first | (with_reducible first | exact HB.out | apply pA' | apply pN' | apply pD' | refine pS' ?_ Gc.out) | exact HB.out)) hb)
                      clear Gb
                      clear Ga
                      clear HR118
                      clear HR132
                      clear HB
                      have Gb := n0_
                      have HO114 := n1_
                      have Ga := n2_
                      have HR118 := n3_
                      have HR132 := n4_
                      have HB := n5_
                      clear n0_ n1_ n2_ n3_ n4_ n5_
                      clear hb ho43
                      refine hK.out _ _ ⟨((HB.out.cell (World.block_lt_of_cell? w _ hw122_0)).trans hw122_0), ((HB.out.cell (World.block_lt_of_cell? w _ hw122_1)).trans hw122_1)⟩ (fun hHeld => ?_)
                      clear hK K
                      refine norm_ (a' := ?_) ?_ ?_
                      rotate_left
                      ·show Act.put _ (some 80) _ = _
                       simp only [Act.put, sa', sz', ss', i64_w, i32_w]
                       rfl
                      refine two_ (i := 4) (j := 9) (Ni := some 84) (Nj := some 89) #[true, true, true, true, true, true, true, true, true, false, false, true, true, true, false, false] #[true, true, true, true, false, true, true, true, true, true, false, true, true, true, false, false] rfl rfl rfl rfl (two_of HT_.out (by kernel_rfl)) (by decide) (by decide) (fun K hK => ?_) (fun K hK => ?_)
                      ·skip
                       refine Kd.R_append_rows_step k32 (w0 := w) w.heap.size (by rfl) (.tmp 80) (.tmp 83) 22 32 (.agg #[(.string ⟨#[]⟩), (.string ⟨#[]⟩)]) 32 rfl Try.underlying22 info32 rfl (by decide) (by omega) v113 y112 y115 _ _ _ (fun k_ => some k_ ≠ (.slice (some ad107) x7_2.length co37 : Value).ownBlock) (fun _ => False) rfl rfl ?aO ?aR (fun _ _ h => h) (fun _ h => h.elim) ?aF ?aB ?aS ?aL ?_
                       (case aR => repeat (first | exact (by repeat (first | (with_reducible exact HR118.out) | (with_reducible refine Kd.C_alloc ?_ _) | (with_reducible refine Kd.C_drewN ?_ _) | (with_reducible refine Kd.C_drew ?_) | exact HR118.out)) | (with_reducible refine Kd.C_alloc ?_ _) | (with_reducible refine Kd.C_drewN ?_ _) | (with_reducible refine Kd.C_drew ?_)))
                       (case aB => exact (by repeat (first | (with_reducible first | exact HB.out | apply pA' | apply pN' | apply pD' | refine pS' ?_ Gc.out) | exact HB.out)))
                       (case aF => exact (fun k_ hk => Kd.fresh' (Kd.R_lt (by (with_reducible repeat (first | apply rA' | apply rN' | apply rD')); exact Gb.out)) k_ hk))
                       (case aO => exact (by (with_reducible repeat (first | apply rA' | apply rN' | apply rD')); exact rM' HO114.out (fun _ hk => hk.2)))
                       (case aS => exact (pz' (by repeat (first | (with_reducible first | exact HB.out | apply pA' | apply pN' | apply pD' | refine pS' ?_ Gc.out) | exact HB.out))))
                       (case aL => have := LMc31.out; omega)
                       intro v120 w44 ho hb hg hat
                       rw [← Ny119.out] at ho
                       have n0_ := am' (Kd.R_after (ok := (fun _ => True)) (by (with_reducible repeat (first | apply rA' | apply rN' | apply rD')); exact Gb.out) hg hat)
                       have n1_ := am' (bG' (g := Gd) (o := .cells #[.string x102000_2, .slice none 0 0] 25 (0, 0)) (by (with_reducible repeat (first | refine bN' ?_ _ | refine bD' ?_ | refine bA' ?_ _)); exact Ga.out) hg (Kd.R_ne HO114.out Ga.out (by decide)))
                       have n2_ := am' (hb)
                       have n3_ := am' ((show Kd.C k32 w44 (some ad107) y115.length y115 from by rw [Ny115.out]; exact Kd.C_take (m := (x9_3 : Int).toNat) ((Kd.R_reads' (Kd.R_after (ok := (fun _ => True)) (by (with_reducible repeat (first | apply rA' | apply rN' | apply rD')); exact Gb.out) hg hat)).2.2) KL40.out))
                       have n4_ := am' ((show Kd.C k32 w44 A41 y129.length y129 from by rw [Ny129.out, KA41.out]; exact Kd.C_drop (m := (x9_3 : Int).toNat) (c := co37) ((Kd.R_reads' (Kd.R_after (ok := (fun _ => True)) (by (with_reducible repeat (first | apply rA' | apply rN' | apply rD')); exact Gb.out) hg hat)).2.2) KL41.out ((Kd.R_reads' (Kd.R_after (ok := (fun _ => True)) (by (with_reducible repeat (first | apply rA' | apply rN' | apply rD')); exact Gb.out) hg hat)).2.1)))
                       have n5_ := am' (ho)
                       clear Gb
                       clear Ga
                       clear HB
                       clear HR118
                       clear HR132
                       clear HO114
                       have Gb := n0_
                       have Ga := n1_
                       have HB := n2_
                       have HR118 := n3_
                       have HR132 := n4_
                       have HO121 := n5_
                       clear n0_ n1_ n2_ n3_ n4_ n5_
                       clear ho hb hg hat
                       refine hK.out _ _ ⟨((HB.out.cell (World.block_lt_of_cell? w _ hw122_0)).trans hw122_0), ((HB.out.cell (World.block_lt_of_cell? w _ hw122_1)).trans hw122_1)⟩ (fun hHeld => ?_)
                       clear hK K
                       refine norm_ (a' := ?_) ?_ ?_
                       rotate_left
                       ·show Act.put _ (some 84) _ = _
                        simp only [Act.put, sa', sz', ss', i64_w, i32_w]
                        rfl
                       refine one_ (i := 9) (N := some 89) #[true, true, true, true, true, true, true, true, true, true, false, true, true, true, false, false] rfl rfl (one_of HT_.out (by kernel_rfl)) (by decide) (fun K hK => ?_)
                       refine Kd.R_lit_step k32 _ 32 ?hg (N := 89) ?hd (xs := ([(⟨(rd_T32 l1 x39_2).f0, (rd_T32 l1 x39_2).f1⟩ : S32)] : List (S32))) (inner := [.string ((rd_T32 l1 x39_2).f0), .string ((rd_T32 l1 x39_2).f1)]) (ok := fun _ => True) (okp := fun _ => True) ?hr ?hp (fun _ hk => hk) trivial (Below.refl _ _) (Nat.le_refl _) (by simp) ?_; (case hd => rfl); (case hg => rfl); (case hr => first | (go_simp; done) | (go_simp; rfl)); (case hp => exact (Reps.c2 (show Kd.M k32 _ _ _ (⟨(rd_T32 l1 x39_2).f0, (rd_T32 l1 x39_2).f1⟩ : S32) [.string ((rd_T32 l1 x39_2).f0), .string ((rd_T32 l1 x39_2).f1)] from (k32_mkM _ _ _ (⟨(rd_T32 l1 x39_2).f0, (rd_T32 l1 x39_2).f1⟩ : S32) )) (Reps.none _ _)))
                       intro v124 w45 ho46 hb hg_ hnew_
                       clear hg_ hnew_
                       (first | rw [← Ny123.out] at ho46 | (simp only [Int.reduceToNat] at ho46; rw [← Ny123.out] at ho46))
                       have n0_ := am' (Kd.R_elder' (by (with_reducible repeat (first | apply rA' | apply rN' | apply rD')); exact Gb.out) (Kd.R_base ho46) hb)
                       have n1_ := am' (Kd.R_elder' (by (with_reducible repeat (first | apply rA' | apply rN' | apply rD')); exact HO121.out) (Kd.R_base ho46) hb)
                       have n2_ := am' (Kd.R_lower (Kd.R_new' (Kd.R_new' ho46 (Kd.R_lt (by (with_reducible repeat (first | apply rA' | apply rN' | apply rD')); exact Gb.out))) (Kd.R_lt (by (with_reducible repeat (first | apply rA' | apply rN' | apply rD')); exact HO121.out))) (pz' (by repeat (first | (with_reducible first | exact HB.out | apply pA' | apply pN' | apply pD' | refine pS' ?_ Gc.out) | exact HB.out))))
                       have n3_ := am' (bB' (g := Gd) (o := .cells #[.string x102000_2, .slice none 0 0] 25 (0, 0)) (by (with_reducible repeat (first | refine bN' ?_ _ | refine bD' ?_ | refine bA' ?_ _)); exact Ga.out) hb)
                       have n4_ := am' (Kd.C_below (by repeat (first | (with_reducible exact HR118.out) | (with_reducible refine Kd.C_alloc ?_ _) | (with_reducible refine Kd.C_drewN ?_ _) | (with_reducible refine Kd.C_drew ?_) | exact HR118.out)) hb)
                       have n5_ := am' (Kd.C_below (by repeat (first | (with_reducible exact HR132.out) | (with_reducible refine Kd.C_alloc ?_ _) | (with_reducible refine Kd.C_drewN ?_ _) | (with_reducible refine Kd.C_drew ?_) | exact HR132.out)) hb)
                       have n6_ := am' (below_step (by repeat (first | (with_reducible first | exact HB.out | apply pA' | apply pN' | apply pD' | refine pS' ?_ Gc.out) | exact HB.out)) hb)
                       clear Gb
                       clear HO121
                       clear Ga
                       clear HR118
                       clear HR132
                       clear HB
                       have Gb := n0_
                       have HO121 := n1_
                       have HO125 := n2_
                       have Ga := n3_
                       have HR118 := n4_
                       have HR132 := n5_
                       have HB := n6_
                       clear n0_ n1_ n2_ n3_ n4_ n5_ n6_
                       clear hb ho46
                       refine hK.out _ _ ⟨((HB.out.cell (World.block_lt_of_cell? w _ hw122_0)).trans hw122_0), ((HB.out.cell (World.block_lt_of_cell? w _ hw122_1)).trans hw122_1)⟩ (fun hHeld => ?_)
                       clear hK K
                       refine norm_ (a' := ?_) ?_ ?_
                       rotate_left
                       ·show Act.put _ (some 89) _ = _
                        simp only [Act.put, sa', sz', ss', i64_w, i32_w]
                        rfl
                       exact norm_ (by simp only [putAll, Act.put, sa', sz', ss']) (hCont (v113, v120, v124) _ ⟨hHeld, (by (with_reducible repeat (first | apply rA' | apply rN' | apply rD')); exact rM' HO121.out (fun _ hk => ⟨hk.2, hk.1⟩)), (by (with_reducible repeat (first | apply rA' | apply rN' | apply rD')); exact rM' HO125.out (fun _ hk => ⟨hk.2, hk.1.2⟩)), (by (with_reducible repeat (first | apply rA' | apply rN' | apply rD')); exact rM' Gb.out (fun _ hk => ⟨hk.1.2, hk.2⟩)), (by (with_reducible repeat (first | refine bN' ?_ _ | refine bD' ?_ | refine bA' ?_ _)); exact Ga.out), (by repeat (first | (with_reducible first | exact HB.out | apply pA' | apply pN' | apply pD' | refine pS' ?_ Gc.out) | exact HB.out))⟩)
                      ·skip
                       refine Kd.R_lit_step k32 _ 32 ?hg (N := 89) ?hd (xs := ([(⟨(rd_T32 l1 x39_2).f0, (rd_T32 l1 x39_2).f1⟩ : S32)] : List (S32))) (inner := [.string ((rd_T32 l1 x39_2).f0), .string ((rd_T32 l1 x39_2).f1)]) (ok := fun _ => True) (okp := fun _ => True) ?hr ?hp (fun _ hk => hk) trivial (Below.refl _ _) (Nat.le_refl _) (by simp) ?_; (case hd => rfl); (case hg => rfl); (case hr => first | (go_simp; done) | (go_simp; rfl)); (case hp => exact (Reps.c2 (show Kd.M k32 _ _ _ (⟨(rd_T32 l1 x39_2).f0, (rd_T32 l1 x39_2).f1⟩ : S32) [.string ((rd_T32 l1 x39_2).f0), .string ((rd_T32 l1 x39_2).f1)] from (k32_mkM _ _ _ (⟨(rd_T32 l1 x39_2).f0, (rd_T32 l1 x39_2).f1⟩ : S32) )) (Reps.none _ _)))
                       intro v124 w44 ho45 hb hg_ hnew_
                       clear hg_ hnew_
                       (first | rw [← Ny123.out] at ho45 | (simp only [Int.reduceToNat] at ho45; rw [← Ny123.out] at ho45))
                       have n0_ := am' (Kd.R_elder' (by (with_reducible repeat (first | apply rA' | apply rN' | apply rD')); exact Gb.out) (Kd.R_base ho45) hb)
                       have n1_ := am' (Kd.R_elder' (by (with_reducible repeat (first | apply rA' | apply rN' | apply rD')); exact HO114.out) (Kd.R_base ho45) hb)
                       have n2_ := am' (Kd.R_lower (Kd.R_new' (Kd.R_new' ho45 (Kd.R_lt (by (with_reducible repeat (first | apply rA' | apply rN' | apply rD')); exact Gb.out))) (Kd.R_lt (by (with_reducible repeat (first | apply rA' | apply rN' | apply rD')); exact HO114.out))) (pz' (by repeat (first | (with_reducible first | exact HB.out | apply pA' | apply pN' | apply pD' | refine pS' ?_ Gc.out) | exact HB.out))))
                       have n3_ := am' (bB' (g := Gd) (o := .cells #[.string x102000_2, .slice none 0 0] 25 (0, 0)) (by (with_reducible repeat (first | refine bN' ?_ _ | refine bD' ?_ | refine bA' ?_ _)); exact Ga.out) hb)
                       have n4_ := am' (Kd.C_below (by repeat (first | (with_reducible exact HR118.out) | (with_reducible refine Kd.C_alloc ?_ _) | (with_reducible refine Kd.C_drewN ?_ _) | (with_reducible refine Kd.C_drew ?_) | exact HR118.out)) hb)
                       have n5_ := am' (Kd.C_below (by repeat (first | (with_reducible exact HR132.out) | (with_reducible refine Kd.C_alloc ?_ _) | (with_reducible refine Kd.C_drewN ?_ _) | (with_reducible refine Kd.C_drew ?_) | exact HR132.out)) hb)
                       have n6_ := am' (below_step (by repeat (first | (with_reducible first | exact HB.out | apply pA' | apply pN' | apply pD' | refine pS' ?_ Gc.out) | exact HB.out)) hb)
                       clear Gb
                       clear HO114
                       clear Ga
                       clear HR118
                       clear HR132
                       clear HB
                       have Gb := n0_
                       have HO114 := n1_
                       have HO125 := n2_
                       have Ga := n3_
                       have HR118 := n4_
                       have HR132 := n5_
                       have HB := n6_
                       clear n0_ n1_ n2_ n3_ n4_ n5_ n6_
                       clear hb ho45
                       refine hK.out _ _ ⟨((HB.out.cell (World.block_lt_of_cell? w _ hw122_0)).trans hw122_0), ((HB.out.cell (World.block_lt_of_cell? w _ hw122_1)).trans hw122_1)⟩ (fun hHeld => ?_)
                       clear hK K
                       refine norm_ (a' := ?_) ?_ ?_
                       rotate_left
                       ·show Act.put _ (some 89) _ = _
                        simp only [Act.put, sa', sz', ss', i64_w, i32_w]
                        rfl
                       refine one_ (i := 4) (N := some 84) #[true, true, true, true, true, true, true, true, true, true, false, true, true, true, false, false] rfl rfl (one_of HT_.out (by kernel_rfl)) (by decide) (fun K hK => ?_)
                       refine Kd.R_append_rows_step k32 (w0 := w) w.heap.size (by rfl) (.tmp 80) (.tmp 83) 22 32 (.agg #[(.string ⟨#[]⟩), (.string ⟨#[]⟩)]) 32 rfl Try.underlying22 info32 rfl (by decide) (by omega) v113 y112 y115 _ _ _ (fun k_ => some k_ ≠ (.slice (some ad107) x7_2.length co37 : Value).ownBlock ∧ some k_ ≠ (v124 : Value).ownBlock) (fun _ => False) rfl rfl ?aO ?aR (fun _ _ h => h) (fun _ h => h.elim) ?aF ?aB ?aS ?aL ?_
                       (case aR => repeat (first | exact (by repeat (first | (with_reducible exact HR118.out) | (with_reducible refine Kd.C_alloc ?_ _) | (with_reducible refine Kd.C_drewN ?_ _) | (with_reducible refine Kd.C_drew ?_) | exact HR118.out)) | (with_reducible refine Kd.C_alloc ?_ _) | (with_reducible refine Kd.C_drewN ?_ _) | (with_reducible refine Kd.C_drew ?_)))
                       (case aB => exact (by repeat (first | (with_reducible first | exact HB.out | apply pA' | apply pN' | apply pD' | refine pS' ?_ Gc.out) | exact HB.out)))
                       (case aF => exact (fun k_ hk => ⟨Kd.fresh' (Kd.R_lt (by (with_reducible repeat (first | apply rA' | apply rN' | apply rD')); exact Gb.out)) k_ hk, Kd.fresh' (Kd.R_lt (by (with_reducible repeat (first | apply rA' | apply rN' | apply rD')); exact HO125.out)) k_ hk⟩))
                       (case aO => exact (by (with_reducible repeat (first | apply rA' | apply rN' | apply rD')); exact rM' HO114.out (fun _ hk => ⟨hk.1.2, hk.2⟩)))
                       (case aS => exact (pz' (by repeat (first | (with_reducible first | exact HB.out | apply pA' | apply pN' | apply pD' | refine pS' ?_ Gc.out) | exact HB.out))))
                       (case aL => have := LMc31.out; omega)
                       intro v120 w46 ho hb hg hat
                       rw [← Ny119.out] at ho
                       have n0_ := am' (Kd.R_after (ok := (fun k_ => some k_ ≠ (v124 : Value).ownBlock)) (by (with_reducible repeat (first | apply rA' | apply rN' | apply rD')); exact rM' Gb.out (fun _ hk => ⟨hk.2, hk.1.2⟩)) hg hat)
                       have n1_ := am' (bG' (g := Gd) (o := .cells #[.string x102000_2, .slice none 0 0] 25 (0, 0)) (by (with_reducible repeat (first | refine bN' ?_ _ | refine bD' ?_ | refine bA' ?_ _)); exact Ga.out) hg (Kd.R_ne HO114.out Ga.out (by decide)))
                       have n2_ := am' (Kd.R_after (ok := (fun k_ => some k_ ≠ (.slice (some ad107) x7_2.length co37 : Value).ownBlock)) (by (with_reducible repeat (first | apply rA' | apply rN' | apply rD')); exact rM' HO125.out (fun _ hk => ⟨hk.1.2, hk.2⟩)) hg hat)
                       have n3_ := am' (hb)
                       have n4_ := am' ((show Kd.C k32 w46 (some ad107) y115.length y115 from by rw [Ny115.out]; exact Kd.C_take (m := (x9_3 : Int).toNat) ((Kd.R_reads' (Kd.R_after (ok := (fun k_ => some k_ ≠ (v124 : Value).ownBlock)) (by (with_reducible repeat (first | apply rA' | apply rN' | apply rD')); exact rM' Gb.out (fun _ hk => ⟨hk.2, hk.1.2⟩)) hg hat)).2.2) KL40.out))
                       have n5_ := am' ((show Kd.C k32 w46 A41 y129.length y129 from by rw [Ny129.out, KA41.out]; exact Kd.C_drop (m := (x9_3 : Int).toNat) (c := co37) ((Kd.R_reads' (Kd.R_after (ok := (fun k_ => some k_ ≠ (v124 : Value).ownBlock)) (by (with_reducible repeat (first | apply rA' | apply rN' | apply rD')); exact rM' Gb.out (fun _ hk => ⟨hk.2, hk.1.2⟩)) hg hat)).2.2) KL41.out ((Kd.R_reads' (Kd.R_after (ok := (fun k_ => some k_ ≠ (v124 : Value).ownBlock)) (by (with_reducible repeat (first | apply rA' | apply rN' | apply rD')); exact rM' Gb.out (fun _ hk => ⟨hk.2, hk.1.2⟩)) hg hat)).2.1)))
                       have n6_ := am' (ho)
                       clear Gb
                       clear Ga
                       clear HO125
                       clear HB
                       clear HR118
                       clear HR132
                       clear HO114
                       have Gb := n0_
                       have Ga := n1_
                       have HO125 := n2_
                       have HB := n3_
                       have HR118 := n4_
                       have HR132 := n5_
                       have HO121 := n6_
                       clear n0_ n1_ n2_ n3_ n4_ n5_ n6_
                       clear ho hb hg hat
                       refine hK.out _ _ ⟨((HB.out.cell (World.block_lt_of_cell? w _ hw122_0)).trans hw122_0), ((HB.out.cell (World.block_lt_of_cell? w _ hw122_1)).trans hw122_1)⟩ (fun hHeld => ?_)
                       clear hK K
                       refine norm_ (a' := ?_) ?_ ?_
                       rotate_left
                       ·show Act.put _ (some 84) _ = _
                        simp only [Act.put, sa', sz', ss', i64_w, i32_w]
                        rfl
                       exact norm_ (by simp only [putAll, Act.put, sa', sz', ss']) (hCont (v113, v120, v124) _ ⟨hHeld, (by (with_reducible repeat (first | apply rA' | apply rN' | apply rD')); exact rM' HO121.out (fun _ hk => ⟨hk.2, hk.1⟩)), (by (with_reducible repeat (first | apply rA' | apply rN' | apply rD')); exact rM' HO125.out (fun _ hk => ⟨hk.2, hk.1⟩)), (by (with_reducible repeat (first | apply rA' | apply rN' | apply rD')); exact rM' Gb.out (fun _ hk => ⟨hk.2, hk.1⟩)), (by (with_reducible repeat (first | refine bN' ?_ _ | refine bD' ?_ | refine bA' ?_ _)); exact Ga.out), (by repeat (first | (with_reducible first | exact HB.out | apply pA' | apply pN' | apply pD' | refine pS' ?_ Gc.out) | exact HB.out))⟩)
                     ·skip
                      refine Kd.R_lit_step k32 _ 32 ?hg (N := 89) ?hd (xs := ([(⟨(rd_T32 l1 x39_2).f0, (rd_T32 l1 x39_2).f1⟩ : S32)] : List (S32))) (inner := [.string ((rd_T32 l1 x39_2).f0), .string ((rd_T32 l1 x39_2).f1)]) (ok := fun _ => True) (okp := fun _ => True) ?hr ?hp (fun _ hk => hk) trivial (Below.refl _ _) (Nat.le_refl _) (by simp) ?_; (case hd => rfl); (case hg => rfl); (case hr => first | (go_simp; done) | (go_simp; rfl)); (case hp => exact (Reps.c2 (show Kd.M k32 _ _ _ (⟨(rd_T32 l1 x39_2).f0, (rd_T32 l1 x39_2).f1⟩ : S32) [.string ((rd_T32 l1 x39_2).f0), .string ((rd_T32 l1 x39_2).f1)] from (k32_mkM _ _ _ (⟨(rd_T32 l1 x39_2).f0, (rd_T32 l1 x39_2).f1⟩ : S32) )) (Reps.none _ _)))
                      intro v124 w42 ho43 hb hg_ hnew_
                      clear hg_ hnew_
                      (first | rw [← Ny123.out] at ho43 | (simp only [Int.reduceToNat] at ho43; rw [← Ny123.out] at ho43))
                      have n0_ := am' (Kd.R_elder' (by (with_reducible repeat (first | apply rA' | apply rN' | apply rD')); exact Gb.out) (Kd.R_base ho43) hb)
                      have n1_ := am' (Kd.R_lower (Kd.R_new' ho43 (Kd.R_lt (by (with_reducible repeat (first | apply rA' | apply rN' | apply rD')); exact Gb.out))) (pz' (by repeat (first | (with_reducible first | exact HB.out | apply pA' | apply pN' | apply pD' | refine pS' ?_ Gc.out) | exact HB.out))))
                      have n2_ := am' (bB' (g := Gd) (o := .cells #[.string x102000_2, .slice none 0 0] 25 (0, 0)) (by (with_reducible repeat (first | refine bN' ?_ _ | refine bD' ?_ | refine bA' ?_ _)); exact Ga.out) hb)
                      have n3_ := am' (Kd.C_below (by repeat (first | (with_reducible exact HR118.out) | (with_reducible refine Kd.C_alloc ?_ _) | (with_reducible refine Kd.C_drewN ?_ _) | (with_reducible refine Kd.C_drew ?_) | exact HR118.out)) hb)
                      have n4_ := am' (Kd.C_below (by repeat (first | (with_reducible exact HR132.out) | (with_reducible refine Kd.C_alloc ?_ _) | (with_reducible refine Kd.C_drewN ?_ _) | (with_reducible refine Kd.C_drew ?_) | exact HR132.out)) hb)
                      have n5_ := am' (below_step (by repeat (first | (with_reducible first | exact HB.out | apply pA' | apply pN' | apply pD' | refine pS' ?_ Gc.out) | exact HB.out)) hb)
                      clear Gb
                      clear Ga
                      clear HR118
                      clear HR132
                      clear HB
                      have Gb := n0_
                      have HO125 := n1_
                      have Ga := n2_
                      have HR118 := n3_
                      have HR132 := n4_
                      have HB := n5_
                      clear n0_ n1_ n2_ n3_ n4_ n5_
                      clear hb ho43
                      refine hK.out _ _ ⟨((HB.out.cell (World.block_lt_of_cell? w _ hw122_0)).trans hw122_0), ((HB.out.cell (World.block_lt_of_cell? w _ hw122_1)).trans hw122_1)⟩ (fun hHeld => ?_)
                      clear hK K
                      refine norm_ (a' := ?_) ?_ ?_
                      rotate_left
                      ·show Act.put _ (some 89) _ = _
                       simp only [Act.put, sa', sz', ss', i64_w, i32_w]
                       rfl
                      refine one_ (i := 0) (N := some 80) #[true, true, true, true, false, true, true, true, true, true, false, true, true, true, false, false] rfl rfl (one_of HT_.out (by kernel_rfl)) (by decide) (fun K hK => ?_)
                      refine Kd.R_lit_step k32 _ 32 ?hg (N := 80) ?hd (xs := ([] : List (S32))) (inner := []) (ok := fun _ => True) (okp := fun _ => True) ?hr ?hp (fun _ hk => hk) trivial (Below.refl _ _) (Nat.le_refl _) (by simp) ?_; (case hd => rfl); (case hg => rfl); (case hr => first | (go_simp; done) | (go_simp; rfl)); (case hp => exact (Reps.none _ _))
                      intro v113 w44 ho45 hb hg_ hnew_
                      clear hg_ hnew_
                      (first | rw [← Ny112.out] at ho45 | (simp only [Int.reduceToNat] at ho45; rw [← Ny112.out] at ho45))
                      have n0_ := am' (Kd.R_elder' (by (with_reducible repeat (first | apply rA' | apply rN' | apply rD')); exact Gb.out) (Kd.R_base ho45) hb)
                      have n1_ := am' (Kd.R_elder' (by (with_reducible repeat (first | apply rA' | apply rN' | apply rD')); exact HO125.out) (Kd.R_base ho45) hb)
                      have n2_ := am' (Kd.R_lower (Kd.R_new' (Kd.R_new' ho45 (Kd.R_lt (by (with_reducible repeat (first | apply rA' | apply rN' | apply rD')); exact Gb.out))) (Kd.R_lt (by (with_reducible repeat (first | apply rA' | apply rN' | apply rD')); exact HO125.out))) (pz' (by repeat (first | (with_reducible first | exact HB.out | apply pA' | apply pN' | apply pD' | refine pS' ?_ Gc.out) | exact HB.out))))
                      have n3_ := am' (bB' (g := Gd) (o := .cells #[.string x102000_2, .slice none 0 0] 25 (0, 0)) (by (with_reducible repeat (first | refine bN' ?_ _ | refine bD' ?_ | refine bA' ?_ _)); exact Ga.out) hb)
                      have n4_ := am' (Kd.C_below (by repeat (first | (with_reducible exact HR118.out) | (with_reducible refine Kd.C_alloc ?_ _) | (with_reducible refine Kd.C_drewN ?_ _) | (with_reducible refine Kd.C_drew ?_) | exact HR118.out)) hb)
                      have n5_ := am' (Kd.C_below (by repeat (first | (with_reducible exact HR132.out) | (with_reducible refine Kd.C_alloc ?_ _) | (with_reducible refine Kd.C_drewN ?_ _) | (with_reducible refine Kd.C_drew ?_) | exact HR132.out)) hb)
                      have n6_ := am' (below_step (by repeat (first | (with_reducible first | exact HB.out | apply pA' | apply pN' | apply pD' | refine pS' ?_ Gc.out) | exact HB.out)) hb)
                      clear Gb
                      clear HO125
                      clear Ga
                      clear HR118
                      clear HR132
                      clear HB
                      have Gb := n0_
                      have HO125 := n1_
                      have HO114 := n2_
                      have Ga := n3_
                      have HR118 := n4_
                      have HR132 := n5_
                      have HB := n6_
                      clear n0_ n1_ n2_ n3_ n4_ n5_ n6_
                      clear hb ho45
                      refine hK.out _ _ ⟨((HB.out.cell (World.block_lt_of_cell? w _ hw122_0)).trans hw122_0), ((HB.out.cell (World.block_lt_of_cell? w _ hw122_1)).trans hw122_1)⟩ (fun hHeld => ?_)
                      clear hK K
                      refine norm_ (a' := ?_) ?_ ?_
                      rotate_left
                      ·show Act.put _ (some 80) _ = _
                       simp only [Act.put, sa', sz', ss', i64_w, i32_w]
                       rfl
                      refine one_ (i := 4) (N := some 84) #[true, true, true, true, true, true, true, true, true, true, false, true, true, true, false, false] rfl rfl (one_of HT_.out (by kernel_rfl)) (by decide) (fun K hK => ?_)
                      refine Kd.R_append_rows_step k32 (w0 := w) w.heap.size (by rfl) (.tmp 80) (.tmp 83) 22 32 (.agg #[(.string ⟨#[]⟩), (.string ⟨#[]⟩)]) 32 rfl Try.underlying22 info32 rfl (by decide) (by omega) v113 y112 y115 _ _ _ (fun k_ => some k_ ≠ (.slice (some ad107) x7_2.length co37 : Value).ownBlock ∧ some k_ ≠ (v124 : Value).ownBlock) (fun _ => False) rfl rfl ?aO ?aR (fun _ _ h => h) (fun _ h => h.elim) ?aF ?aB ?aS ?aL ?_
                      (case aR => repeat (first | exact (by repeat (first | (with_reducible exact HR118.out) | (with_reducible refine Kd.C_alloc ?_ _) | (with_reducible refine Kd.C_drewN ?_ _) | (with_reducible refine Kd.C_drew ?_) | exact HR118.out)) | (with_reducible refine Kd.C_alloc ?_ _) | (with_reducible refine Kd.C_drewN ?_ _) | (with_reducible refine Kd.C_drew ?_)))
                      (case aB => exact (by repeat (first | (with_reducible first | exact HB.out | apply pA' | apply pN' | apply pD' | refine pS' ?_ Gc.out) | exact HB.out)))
                      (case aF => exact (fun k_ hk => ⟨Kd.fresh' (Kd.R_lt (by (with_reducible repeat (first | apply rA' | apply rN' | apply rD')); exact Gb.out)) k_ hk, Kd.fresh' (Kd.R_lt (by (with_reducible repeat (first | apply rA' | apply rN' | apply rD')); exact HO125.out)) k_ hk⟩))
                      (case aO => exact (by (with_reducible repeat (first | apply rA' | apply rN' | apply rD')); exact rM' HO114.out (fun _ hk => ⟨hk.1.2, hk.2⟩)))
                      (case aS => exact (pz' (by repeat (first | (with_reducible first | exact HB.out | apply pA' | apply pN' | apply pD' | refine pS' ?_ Gc.out) | exact HB.out))))
                      (case aL => have := LMc31.out; omega)
                      intro v120 w46 ho hb hg hat
                      rw [← Ny119.out] at ho
                      have n0_ := am' (Kd.R_after (ok := (fun k_ => some k_ ≠ (v124 : Value).ownBlock)) (by (with_reducible repeat (first | apply rA' | apply rN' | apply rD')); exact rM' Gb.out (fun _ hk => ⟨hk.1.2, hk.2⟩)) hg hat)
                      have n1_ := am' (bG' (g := Gd) (o := .cells #[.string x102000_2, .slice none 0 0] 25 (0, 0)) (by (with_reducible repeat (first | refine bN' ?_ _ | refine bD' ?_ | refine bA' ?_ _)); exact Ga.out) hg (Kd.R_ne HO114.out Ga.out (by decide)))
                      have n2_ := am' (Kd.R_after (ok := (fun k_ => some k_ ≠ (.slice (some ad107) x7_2.length co37 : Value).ownBlock)) (by (with_reducible repeat (first | apply rA' | apply rN' | apply rD')); exact rM' HO125.out (fun _ hk => ⟨hk.1.2, hk.2⟩)) hg hat)
                      have n3_ := am' (hb)
                      have n4_ := am' ((show Kd.C k32 w46 (some ad107) y115.length y115 from by rw [Ny115.out]; exact Kd.C_take (m := (x9_3 : Int).toNat) ((Kd.R_reads' (Kd.R_after (ok := (fun k_ => some k_ ≠ (v124 : Value).ownBlock)) (by (with_reducible repeat (first | apply rA' | apply rN' | apply rD')); exact rM' Gb.out (fun _ hk => ⟨hk.1.2, hk.2⟩)) hg hat)).2.2) KL40.out))
                      have n5_ := am' ((show Kd.C k32 w46 A41 y129.length y129 from by rw [Ny129.out, KA41.out]; exact Kd.C_drop (m := (x9_3 : Int).toNat) (c := co37) ((Kd.R_reads' (Kd.R_after (ok := (fun k_ => some k_ ≠ (v124 : Value).ownBlock)) (by (with_reducible repeat (first | apply rA' | apply rN' | apply rD')); exact rM' Gb.out (fun _ hk => ⟨hk.1.2, hk.2⟩)) hg hat)).2.2) KL41.out ((Kd.R_reads' (Kd.R_after (ok := (fun k_ => some k_ ≠ (v124 : Value).ownBlock)) (by (with_reducible repeat (first | apply rA' | apply rN' | apply rD')); exact rM' Gb.out (fun _ hk => ⟨hk.1.2, hk.2⟩)) hg hat)).2.1)))
                      have n6_ := am' (ho)
                      clear Gb
                      clear Ga
                      clear HO125
                      clear HB
                      clear HR118
                      clear HR132
                      clear HO114
                      have Gb := n0_
                      have Ga := n1_
                      have HO125 := n2_
                      have HB := n3_
                      have HR118 := n4_
                      have HR132 := n5_
                      have HO121 := n6_
                      clear n0_ n1_ n2_ n3_ n4_ n5_ n6_
                      clear ho hb hg hat
                      refine hK.out _ _ ⟨((HB.out.cell (World.block_lt_of_cell? w _ hw122_0)).trans hw122_0), ((HB.out.cell (World.block_lt_of_cell? w _ hw122_1)).trans hw122_1)⟩ (fun hHeld => ?_)
                      clear hK K
                      refine norm_ (a' := ?_) ?_ ?_
                      rotate_left
                      ·show Act.put _ (some 84) _ = _
                       simp only [Act.put, sa', sz', ss', i64_w, i32_w]
                       rfl
                      exact norm_ (by simp only [putAll, Act.put, sa', sz', ss']) (hCont (v113, v120, v124) _ ⟨hHeld, (by (with_reducible repeat (first | apply rA' | apply rN' | apply rD')); exact rM' HO121.out (fun _ hk => ⟨hk.2, hk.1⟩)), (by (with_reducible repeat (first | apply rA' | apply rN' | apply rD')); exact rM' HO125.out (fun _ hk => ⟨hk.2, hk.1⟩)), (by (with_reducible repeat (first | apply rA' | apply rN' | apply rD')); exact rM' Gb.out (fun _ hk => ⟨hk.2, hk.1⟩)), (by (with_reducible repeat (first | refine bN' ?_ _ | refine bD' ?_ | refine bA' ?_ _)); exact Ga.out), (by repeat (first | (with_reducible first | exact HB.out | apply pA' | apply pN' | apply pD' | refine pS' ?_ Gc.out) | exact HB.out))⟩)
                    rintro ⟨v113, v120, v124⟩ w47 ⟨hS_, h0_, h1_, h2_, h3_, h4_⟩
                    have n0_ : Aside0 (Kd.R k32 32 w47 w.heap.size (fun k_ => some k_ ≠ (v124 : Value).ownBlock ∧ some k_ ≠ (.slice (some ad107) x7_2.length co37 : Value).ownBlock) v120 y119) := ⟨h0_⟩
                    have n1_ : Aside0 (Kd.R k32 32 w47 w.heap.size (fun k_ => some k_ ≠ (v120 : Value).ownBlock ∧ some k_ ≠ (.slice (some ad107) x7_2.length co37 : Value).ownBlock) v124 y123) := ⟨h1_⟩
                    have n2_ : Aside0 (Kd.R k32 32 w47 w.heap.size (fun k_ => some k_ ≠ (v120 : Value).ownBlock ∧ some k_ ≠ (v124 : Value).ownBlock) (.slice (some ad107) x7_2.length co37) x7_2) := ⟨h2_⟩
                    have n3_ : Aside0 (w47.heap[Gd]? = some (.cells #[.string x102000_2, .slice none 0 0] 25 (0, 0))) := ⟨h3_⟩
                    have n4_ : Aside0 (Below w.heap.size w w47) := ⟨h4_⟩
                    clear Gb
                    clear Ga
                    clear HB
                    clear h0_ h1_ h2_ h3_ h4_
                    have HO121 := n0_
                    have HO125 := n1_
                    have Gb := n2_
                    have Ga := n3_
                    have HB := n4_
                    clear n0_ n1_ n2_ n3_ n4_
                    have hHeld : w47.cell? (ad108.add ((x39_2).toNat * 2)) = some (.string ((rd_T32 l1 x39_2).f0)) ∧ w47.cell? ⟨(ad108.add ((x39_2).toNat * 2)).block, (ad108.add ((x39_2).toNat * 2)).off + 1, none⟩ = some (.string ((rd_T32 l1 x39_2).f1)) := hS_
                    obtain ⟨Ao49, co49, eo49⟩ := Kd.R_slice HO125.out
                    (first | subst eo49 | (injection eo49 with f1_ f2_ f3_; have f4_ := f1_.symm; have f5_ := f3_.symm; clear f1_ f2_ f3_; subst f4_; subst f5_))
                    refine norm_ (a' := ?_) ?_ ?_
                    rotate_left
                    ·simp only [putAll, Act.put, sa', sz', ss']
                     rfl
                    refine one_ (i := 10) (N := some 90) #[true, true, true, true, true, true, true, true, true, true, true, true, true, true, false, false] rfl rfl (one_of HT_.out (by kernel_rfl)) (by decide) (fun K hK => ?_)
                    refine Kd.R_append_rows_step k32 (w0 := w) w.heap.size (by rfl) (.tmp 84) (.tmp 89) 22 32 (.agg #[(.string ⟨#[]⟩), (.string ⟨#[]⟩)]) 32 rfl Try.underlying22 info32 rfl (by decide) (by omega) v120 y119 y123 _ _ _ (fun k_ => some k_ ≠ (.slice (some ad107) x7_2.length co37 : Value).ownBlock ∧ some k_ ≠ (.slice Ao49 y123.length co49 : Value).ownBlock) (fun _ => False) rfl rfl ?aO ?aR (fun _ _ h => h) (fun _ h => h.elim) ?aF ?aB ?aS ?aL ?_
                    (case aR => repeat (first | exact (Kd.R_reads' HO125.out).2.2 | (with_reducible refine Kd.C_alloc ?_ _) | (with_reducible refine Kd.C_drewN ?_ _) | (with_reducible refine Kd.C_drew ?_)))
                    (case aB => exact (by repeat (first | (with_reducible first | exact HB.out | apply pA' | apply pN' | apply pD' | refine pS' ?_ Gc.out) | exact HB.out)))
                    (case aF => exact (fun k_ hk => ⟨Kd.fresh' (Kd.R_lt (by (with_reducible repeat (first | apply rA' | apply rN' | apply rD')); exact Gb.out)) k_ hk, Kd.fresh' (Kd.R_lt (by (with_reducible repeat (first | apply rA' | apply rN' | apply rD')); exact HO125.out)) k_ hk⟩))
                    (case aO => exact (by (with_reducible repeat (first | apply rA' | apply rN' | apply rD')); exact rM' HO121.out (fun _ hk => ⟨hk.2, hk.1⟩)))
                    (case aS => exact (pz' (by repeat (first | (with_reducible first | exact HB.out | apply pA' | apply pN' | apply pD' | refine pS' ?_ Gc.out) | exact HB.out))))
                    (case aL => have := LMc32.out; omega)
                    intro v127 w48 ho hb hg hat
                    rw [← Ny126.out] at ho
                    have n0_ := am' (Kd.R_after (ok := (fun k_ => some k_ ≠ (.slice Ao49 y123.length co49 : Value).ownBlock)) (by (with_reducible repeat (first | apply rA' | apply rN' | apply rD')); exact rM' Gb.out (fun _ hk => ⟨hk.2, hk.1⟩)) hg hat)
                    have n1_ := am' (bG' (g := Gd) (o := .cells #[.string x102000_2, .slice none 0 0] 25 (0, 0)) (by (with_reducible repeat (first | refine bN' ?_ _ | refine bD' ?_ | refine bA' ?_ _)); exact Ga.out) hg (Kd.R_ne HO121.out Ga.out (by decide)))
                    have n2_ := am' (Kd.R_after (ok := (fun k_ => some k_ ≠ (.slice (some ad107) x7_2.length co37 : Value).ownBlock)) (by (with_reducible repeat (first | apply rA' | apply rN' | apply rD')); exact rM' HO125.out (fun _ hk => ⟨hk.2, hk.1⟩)) hg hat)
                    have n3_ := am' (hb)
                    have n4_ := am' (ho)
                    clear Gb
                    clear Ga
                    clear HO125
                    clear HB
                    clear HO121
                    have Gb := n0_
                    have Ga := n1_
                    have HO125 := n2_
                    have HB := n3_
                    have HO128 := n4_
                    clear n0_ n1_ n2_ n3_ n4_
                    clear ho hb hg hat
                    refine hK.out _ _ ⟨((HB.out.cell (World.block_lt_of_cell? w _ hw122_0)).trans hw122_0), ((HB.out.cell (World.block_lt_of_cell? w _ hw122_1)).trans hw122_1)⟩ (fun hHeld => ?_)
                    clear hK K
                    refine norm_ (a' := ?_) ?_ ?_
                    rotate_left
                    ·show Act.put _ (some 90) _ = _
                     simp only [Act.put, sa', sz', ss', i64_w, i32_w]
                     rfl
                    refine one_ (i := 14) (N := some 94) #[true, true, true, true, true, true, true, true, true, true, true, true, true, true, true, false] rfl rfl (one_of HT_.out (by kernel_rfl)) (by decide) (fun K hK => ?_)
                    refine Kd.R_append_rows_step k32 (w0 := w) w.heap.size (by rfl) (.tmp 90) (.tmp 93) 22 32 (.agg #[(.string ⟨#[]⟩), (.string ⟨#[]⟩)]) 32 rfl Try.underlying22 info32 rfl (by decide) (by omega) v127 y126 y129 _ _ _ (fun k_ => some k_ ≠ (.slice (some ad107) x7_2.length co37 : Value).ownBlock ∧ some k_ ≠ (.slice Ao49 y123.length co49 : Value).ownBlock) (fun _ => False) rfl rfl ?aO ?aR (fun _ _ h => h) (fun _ h => h.elim) ?aF ?aB ?aS ?aL ?_
                    (case aR => repeat (first | exact (show Kd.C k32 _ A41 y129.length y129 from by rw [Ny129.out, KA41.out]; exact Kd.C_drop (m := (x9_3 : Int).toNat) (c := co37) ((Kd.R_reads' Gb.out).2.2) KL41.out ((Kd.R_reads' Gb.out).2.1)) | (with_reducible refine Kd.C_alloc ?_ _) | (with_reducible refine Kd.C_drewN ?_ _) | (with_reducible refine Kd.C_drew ?_)))
                    (case aB => exact (by repeat (first | (with_reducible first | exact HB.out | apply pA' | apply pN' | apply pD' | refine pS' ?_ Gc.out) | exact HB.out)))
                    (case aF => exact (fun k_ hk => ⟨Kd.fresh' (Kd.R_lt (by (with_reducible repeat (first | apply rA' | apply rN' | apply rD')); exact Gb.out)) k_ hk, Kd.fresh' (Kd.R_lt (by (with_reducible repeat (first | apply rA' | apply rN' | apply rD')); exact HO125.out)) k_ hk⟩))
                    (case aO => exact (by (with_reducible repeat (first | apply rA' | apply rN' | apply rD')); exact HO128.out))
                    (case aS => exact (pz' (by repeat (first | (with_reducible first | exact HB.out | apply pA' | apply pN' | apply pD' | refine pS' ?_ Gc.out) | exact HB.out))))
                    (case aL => have := LMc35.out; omega)
                    intro v134 w50 ho hb hg hat
                    rw [← Ny133.out] at ho
                    have n0_ := am' (Kd.R_after (ok := (fun k_ => some k_ ≠ (.slice Ao49 y123.length co49 : Value).ownBlock)) (by (with_reducible repeat (first | apply rA' | apply rN' | apply rD')); exact Gb.out) hg hat)
                    have n1_ := am' (bG' (g := Gd) (o := .cells #[.string x102000_2, .slice none 0 0] 25 (0, 0)) (by (with_reducible repeat (first | refine bN' ?_ _ | refine bD' ?_ | refine bA' ?_ _)); exact Ga.out) hg (Kd.R_ne HO128.out Ga.out (by decide)))
                    have n2_ := am' (Kd.R_after (ok := (fun k_ => some k_ ≠ (.slice (some ad107) x7_2.length co37 : Value).ownBlock)) (by (with_reducible repeat (first | apply rA' | apply rN' | apply rD')); exact HO125.out) hg hat)
                    have n3_ := am' (hb)
                    have n4_ := am' (ho)
                    clear Gb
                    clear Ga
                    clear HO125
                    clear HB
                    clear HO128
                    have Gb := n0_
                    have Ga := n1_
                    have HO125 := n2_
                    have HB := n3_
                    have HO135 := n4_
                    clear n0_ n1_ n2_ n3_ n4_
                    clear ho hb hg hat
                    refine hK.out _ _ ⟨((HB.out.cell (World.block_lt_of_cell? w _ hw122_0)).trans hw122_0), ((HB.out.cell (World.block_lt_of_cell? w _ hw122_1)).trans hw122_1)⟩ (fun hHeld => ?_)
                    clear hK K
                    refine norm_ (a' := ?_) ?_ ?_
                    rotate_left
                    ·show Act.put _ (some 94) _ = _
                     simp only [Act.put, sa', sz', ss', i64_w, i32_w]
                     rfl
                    refine pure_ (i := 15) (N := some 7) (v := ?_) (a' := ?_) #[true, true, true, true, true, true, true, true, true, true, true, true, true, true, true, true] rfl rfl (any_of HT_.out (by kernel_rfl)) (fun _ _ _ h => h) (Or.inl ⟨by rfl, ?_⟩) ?_ ?_
                    rotate_left
                    ·intro w'
                     go_simp
                     with_reducible rfl
                    rotate_left
                    ·simp only [Act.put, sa', sz', ss', i64_w, i32_w]
                     rfl
                    refine done_ (done_of HT_.out (by kernel_rfl)) ?_
                    try go_wp2
                    go_roundg k3
                    case measure => have := HK1.out; have := HK2.out; have := HK3.out; omega
                    case rel => exact ⟨(y133), (wrap64 (x39_2 + 1)), (x102000_2), (by first | rfl | (simp; done) | (simp [*]; done)), H', ⟨by have := HK1.out; have := HK2.out; have := HK3.out; omega⟩, ⟨by (with_reducible repeat (first | apply rA' | apply rN' | apply rD')); exact rM' HO135.out (fun _ hk => trivial)⟩, ⟨by (with_reducible repeat (first | refine bN' ?_ _ | refine bD' ?_ | refine bA' ?_ _)); exact Ga.out⟩, ⟨by repeat (first | (with_reducible first | exact HB.out | apply pA' | apply pN' | apply pD' | refine pS' ?_ Gc.out) | exact HB.out)⟩⟩
                   ·rw [if_neg c35] at H
                    exact absurd H (by simp)
                  ·rw [if_neg c32] at H
                   exact absurd H (by simp)
                 ·rw [if_neg c31] at H
                  exact absurd H (by simp)
                ·rw [if_neg c30] at H
                 exact absurd H (by simp)
             ·rw [if_neg c19] at H
              exact absurd H (by simp)
            ·rw [if_neg c18] at H
             exact absurd H (by simp)
           ·rw [if_neg c17] at H
            exact absurd H (by simp)
          ·rw [if_neg c16] at H
           have c16b0 : decide (x9_3 < (x7_2.length : Int)) = false := decide_eq_false c16
           clear c16
           obtain ⟨y136, hy136⟩ : ∃ y_ : List (S32), y_ = (([] : List (S32))) := ⟨_, rfl⟩
           replace H : (if 0 ≤ x9_3 then (if x9_3 ≤ (x7_2.length : Int) then ((some (x7_2.take (x9_3 : Int).toNat : List (S32))).bind fun y139 => (if y136.length + y139.length < 4398046511104 then ((some (y136 ++ y139 : List (S32))).bind fun y143 => (if 0 ≤ x39_2 then (if x39_2 < (l1.length : Int) then ((some (([(⟨(rd_T32 l1 x39_2).f0, (rd_T32 l1 x39_2).f1⟩ : S32)] : List (S32)) : List (S32))).bind fun y147 => (if y143.length + y147.length < 4398046511104 then ((some (y143 ++ y147 : List (S32))).bind fun y150 => ((some (x7_2.drop (x9_3 : Int).toNat : List (S32))).bind fun y153 => (if y150.length + y153.length < 4398046511104 then (tidemillref02_Make.l1 k3 a0 l1 (y150 ++ y153) (l1.length : Int) (wrap64 (x39_2 + 1))) else (none)))) else (none))) else (none)) else (none))) else (none))) else (none)) else (none)) = some (r1, r2, r3) := by first | (rw [hy136]; with_reducible exact H) | (have H2_ := (Option.bind_some _ _).symm.trans H; rw [hy136]; with_reducible exact H2_) | (have H2_ := (Option.bind_some _ _).symm.trans H; with_reducible exact H2_) | with_reducible exact H | (rw [hy136]; exact H) | exact H
           have Ny136 := am' hy136
           clear hy136
           by_cases c51 : 0 ≤ x9_3
           ·rw [if_pos c51] at H
            have c51b0 := eq_true c51
            have c51b1 : decide (0 ≤ x9_3) = true := decide_eq_true c51
            clear c51
            by_cases c52 : x9_3 ≤ (x7_2.length : Int)
            ·rw [if_pos c52] at H
             have c52b0 := eq_true c52
             have c52b1 : decide (x9_3 ≤ (x7_2.length : Int)) = true := decide_eq_true c52
             clear c52
             obtain ⟨y139, hy139⟩ : ∃ y_ : List (S32), y_ = (x7_2.take (x9_3 : Int).toNat) := ⟨_, rfl⟩
             replace H : (if y136.length + y139.length < 4398046511104 then ((some (y136 ++ y139 : List (S32))).bind fun y143 => (if 0 ≤ x39_2 then (if x39_2 < (l1.length : Int) then ((some (([(⟨(rd_T32 l1 x39_2).f0, (rd_T32 l1 x39_2).f1⟩ : S32)] : List (S32)) : List (S32))).bind fun y147 => (if y143.length + y147.length < 4398046511104 then ((some (y143 ++ y147 : List (S32))).bind fun y150 => ((some (x7_2.drop (x9_3 : Int).toNat : List (S32))).bind fun y153 => (if y150.length + y153.length < 4398046511104 then (tidemillref02_Make.l1 k3 a0 l1 (y150 ++ y153) (l1.length : Int) (wrap64 (x39_2 + 1))) else (none)))) else (none))) else (none)) else (none))) else (none)) = some (r1, r2, r3) := by first | (rw [hy139]; with_reducible exact H) | (have H2_ := (Option.bind_some _ _).symm.trans H; rw [hy139]; with_reducible exact H2_) | (have H2_ := (Option.bind_some _ _).symm.trans H; with_reducible exact H2_) | with_reducible exact H | (rw [hy139]; exact H) | exact H
             have Ny139 := am' hy139
             clear hy139
             by_cases c53 : y136.length + y139.length < 4398046511104
             ·rw [if_pos c53] at H
              have LMc53 := am' c53
              clear c53
              obtain ⟨y143, hy143⟩ : ∃ y_ : List (S32), y_ = (y136 ++ y139) := ⟨_, rfl⟩
              replace H : (if 0 ≤ x39_2 then (if x39_2 < (l1.length : Int) then ((some (([(⟨(rd_T32 l1 x39_2).f0, (rd_T32 l1 x39_2).f1⟩ : S32)] : List (S32)) : List (S32))).bind fun y147 => (if y143.length + y147.length < 4398046511104 then ((some (y143 ++ y147 : List (S32))).bind fun y150 => ((some (x7_2.drop (x9_3 : Int).toNat : List (S32))).bind fun y153 => (if y150.length + y153.length < 4398046511104 then (tidemillref02_Make.l1 k3 a0 l1 (y150 ++ y153) (l1.length : Int) (wrap64 (x39_2 + 1))) else (none)))) else (none))) else (none)) else (none)) = some (r1, r2, r3) := by first | (rw [hy143]; with_reducible exact H) | (have H2_ := (Option.bind_some _ _).symm.trans H; rw [hy143]; with_reducible exact H2_) | (have H2_ := (Option.bind_some _ _).symm.trans H; with_reducible exact H2_) | with_reducible exact H | (rw [hy143]; exact H) | exact H
              have Ny143 := am' hy143
              clear hy143
              by_cases c54 : 0 ≤ x39_2
              ·rw [if_pos c54] at H
               have c54b0 : decide (0 ≤ x39_2) = true := decide_eq_true c54
               clear c54
               by_cases c55 : x39_2 < (l1.length : Int)
               ·rw [if_pos c55] at H
                have c55b0 : decide (x39_2 < (l1.length : Int)) = true := decide_eq_true c55
                clear c55
                obtain ⟨y147, hy147⟩ : ∃ y_ : List (S32), y_ = (([(⟨(rd_T32 l1 x39_2).f0, (rd_T32 l1 x39_2).f1⟩ : S32)] : List (S32))) := ⟨_, rfl⟩
                replace H : (if y143.length + y147.length < 4398046511104 then ((some (y143 ++ y147 : List (S32))).bind fun y150 => ((some (x7_2.drop (x9_3 : Int).toNat : List (S32))).bind fun y153 => (if y150.length + y153.length < 4398046511104 then (tidemillref02_Make.l1 k3 a0 l1 (y150 ++ y153) (l1.length : Int) (wrap64 (x39_2 + 1))) else (none)))) else (none)) = some (r1, r2, r3) := by first | (rw [hy147]; with_reducible exact H) | (have H2_ := (Option.bind_some _ _).symm.trans H; rw [hy147]; with_reducible exact H2_) | (have H2_ := (Option.bind_some _ _).symm.trans H; with_reducible exact H2_) | with_reducible exact H | (rw [hy147]; exact H) | exact H
                have Ny147 := am' hy147
                clear hy147
                by_cases c56 : y143.length + y147.length < 4398046511104
                ·rw [if_pos c56] at H
                 have LMc56 := am' c56
                 clear c56
                 obtain ⟨y150, hy150⟩ : ∃ y_ : List (S32), y_ = (y143 ++ y147) := ⟨_, rfl⟩
                 replace H : ((some (x7_2.drop (x9_3 : Int).toNat : List (S32))).bind fun y153 => (if y150.length + y153.length < 4398046511104 then (tidemillref02_Make.l1 k3 a0 l1 (y150 ++ y153) (l1.length : Int) (wrap64 (x39_2 + 1))) else (none))) = some (r1, r2, r3) := by first | (rw [hy150]; with_reducible exact H) | (have H2_ := (Option.bind_some _ _).symm.trans H; rw [hy150]; with_reducible exact H2_) | (have H2_ := (Option.bind_some _ _).symm.trans H; with_reducible exact H2_) | with_reducible exact H | (rw [hy150]; exact H) | exact H
                 have Ny150 := am' hy150
                 clear hy150
                 have c57b0 := eq_true (of_decide_eq_true (by first | (with_reducible assumption) | assumption) : 0 ≤ x9_3)
                 have c58b0 := eq_true (of_decide_eq_true (by first | (with_reducible assumption) | assumption) : x9_3 ≤ (x7_2.length : Int))
                 obtain ⟨y153, hy153⟩ : ∃ y_ : List (S32), y_ = (x7_2.drop (x9_3 : Int).toNat) := ⟨_, rfl⟩
                 replace H : (if y150.length + y153.length < 4398046511104 then (tidemillref02_Make.l1 k3 a0 l1 (y150 ++ y153) (l1.length : Int) (wrap64 (x39_2 + 1))) else (none)) = some (r1, r2, r3) := by first | (rw [hy153]; with_reducible exact H) | (have H2_ := (Option.bind_some _ _).symm.trans H; rw [hy153]; with_reducible exact H2_) | (have H2_ := (Option.bind_some _ _).symm.trans H; with_reducible exact H2_) | with_reducible exact H | (rw [hy153]; exact H) | exact H
                 have Ny153 := am' hy153
                 clear hy153
                 by_cases c59 : y150.length + y153.length < 4398046511104
                 ·rw [if_pos c59] at H
                  have LMc59 := am' c59
                  clear c59
                  obtain ⟨y157, hy157⟩ : ∃ y_ : List (S32), y_ = (y150 ++ y153) := ⟨_, rfl⟩
                  replace H : (tidemillref02_Make.l1 k3 a0 l1 y157 (l1.length : Int) (wrap64 (x39_2 + 1))) = some (r1, r2, r3) := by first | (rw [hy157]; with_reducible exact H) | (have H2_ := (Option.bind_some _ _).symm.trans H; rw [hy157]; with_reducible exact H2_) | (have H2_ := (Option.bind_some _ _).symm.trans H; with_reducible exact H2_) | with_reducible exact H | (rw [hy157]; exact H) | exact H
                  have Ny157 := am' hy157
                  clear hy157
                  have H' := am' H
                  clear H
                  try go_wp2
                  have n0_ := am' (rD' Gb.out)
                  have n1_ := am' (bD' Ga.out)
                  have n2_ := am' (pD' HB.out)
                  clear Gb
                  clear Ga
                  clear HB
                  have Gb := n0_
                  have Ga := n1_
                  have HB := n2_
                  clear n0_ n1_ n2_
                  obtain ⟨Ao61, co61, eo61⟩ := Kd.R_slice Gb.out
                  (first | subst eo61 | (injection eo61 with f1_ f2_ f3_; have f4_ := f1_.symm; have f5_ := f3_.symm; clear f1_ f2_ f3_; subst f4_; subst f5_))
                  refine start_ (n := 18) (S := fun w' => True) (ds := []) #[false, false, false, false, false, false, false, false, false, false, false, false, false, false, false, false, false, false] (by kernel_rfl) rfl rfl trivial (fun hHeld => ?_); refine with_tabW tidemillref02_Make.tab14 tidemillref02_Make.bits14 (fun HT_ HW_ => ?_)
                  generalize wr.drew = w60 at Gb Ga HB hHeld ⊢
                  refine pure_ (i := 0) (N := some 42) (v := ?_) (a' := ?_) #[true, false, false, false, false, false, false, false, false, false, false, false, false, false, false, false, false, false] rfl rfl (any_of HT_.out (by kernel_rfl)) (fun _ _ _ h => h) (Or.inl ⟨by rfl, ?_⟩) ?_ ?_
                  rotate_left
                  ·intro w'
                   go_simp
                   with_reducible rfl
                  rotate_left
                  ·simp only [Act.put, sa', sz', ss', i64_w, i32_w]
                   rfl
                  refine pure_ (i := 1) (N := some 43) (v := ?_) (a' := ?_) #[true, true, false, false, false, false, false, false, false, false, false, false, false, false, false, false, false, false] rfl rfl (any_of HT_.out (by kernel_rfl)) (fun _ _ _ h => h) (Or.inl ⟨by rfl, ?_⟩) ?_ ?_
                  rotate_left
                  ·intro w'
                   go_simp
                   with_reducible rfl
                  rotate_left
                  ·simp only [Act.put, sa', sz', ss', i64_w, i32_w]
                   rfl
                  refine pure_ (i := 2) (N := some 44) (v := ?_) (a' := ?_) #[true, true, true, false, false, false, false, false, false, false, false, false, false, false, false, false, false, false] rfl rfl (any_of HT_.out (by kernel_rfl)) (fun _ _ _ h => h) (Or.inl ⟨by rfl, ?_⟩) ?_ ?_
                  rotate_left
                  ·intro w'
                   go_simp
                   with_reducible rfl
                  rotate_left
                  ·simp only [Act.put, sa', sz', ss', i64_w, i32_w]
                   rfl
                  refine pure_ (i := 3) (N := some 45) (v := ?_) (a' := ?_) #[true, true, true, true, false, false, false, false, false, false, false, false, false, false, false, false, false, false] rfl rfl (any_of HT_.out (by kernel_rfl)) (fun _ _ _ h => h) (Or.inl ⟨by rfl, ?_⟩) ?_ ?_
                  rotate_left
                  ·intro w'
                   go_simp
                   with_reducible rfl
                  rotate_left
                  ·simp only [Act.put, sa', sz', ss', i64_w, i32_w]
                   rfl
                  refine pure_ (i := 4) (N := some 46) (v := ?_) (a' := ?_) #[true, true, true, true, true, false, false, false, false, false, false, false, false, false, false, false, false, false] rfl rfl (any_of HT_.out (by kernel_rfl)) (fun _ _ _ h => h) (Or.inl ⟨by rfl, ?_⟩) ?_ ?_
                  rotate_left
                  ·intro w'
                   go_simp
                   with_reducible rfl
                  rotate_left
                  ·simp only [Act.put, sa', sz', ss', i64_w, i32_w]
                   rfl
                  refine pure_ (i := 5) (N := some 47) (v := undef) (a' := ?_) #[true, true, true, true, true, true, false, false, false, false, false, false, false, false, false, false, false, false] rfl rfl (any_of HT_.out (by kernel_rfl)) (fun _ _ _ h => h) (Or.inr ⟨by rfl, rfl⟩) ?_ ?_
                  rotate_left
                  ·simp only [Act.put, sa', sz', ss', i64_w, i32_w]
                   rfl
                  refine pure_ (i := 6) (N := some 48) (v := undef) (a' := ?_) #[true, true, true, true, true, true, true, false, false, false, false, false, false, false, false, false, false, false] rfl rfl (any_of HT_.out (by kernel_rfl)) (fun _ _ _ h => h) (Or.inr ⟨by rfl, rfl⟩) ?_ ?_
                  rotate_left
                  ·simp only [Act.put, sa', sz', ss', i64_w, i32_w]
                   rfl
                  refine pure_ (i := 7) (N := some 49) (v := undef) (a' := ?_) #[true, true, true, true, true, true, true, true, false, false, false, false, false, false, false, false, false, false] rfl rfl (any_of HT_.out (by kernel_rfl)) (fun _ _ _ h => h) (Or.inr ⟨by rfl, rfl⟩) ?_ ?_
                  rotate_left
                  ·simp only [Act.put, sa', sz', ss', i64_w, i32_w]
                   rfl
                  refine pure_ (i := 8) (N := some 50) (v := undef) (a' := ?_) #[true, true, true, true, true, true, true, true, true, false, false, false, false, false, false, false, false, false] rfl rfl (any_of HT_.out (by kernel_rfl)) (fun _ _ _ h => h) (Or.inr ⟨by rfl, rfl⟩) ?_ ?_
                  rotate_left
                  ·simp only [Act.put, sa', sz', ss', i64_w, i32_w]
                   rfl
                  refine pure_ (i := 9) (N := some 51) (v := undef) (a' := ?_) #[true, true, true, true, true, true, true, true, true, true, false, false, false, false, false, false, false, false] rfl rfl (any_of HT_.out (by kernel_rfl)) (fun _ _ _ h => h) (Or.inr ⟨by rfl, rfl⟩) ?_ ?_
                  rotate_left
                  ·simp only [Act.put, sa', sz', ss', i64_w, i32_w]
                   rfl
                  refine pure_ (i := 10) (N := some 52) (v := undef) (a' := ?_) #[true, true, true, true, true, true, true, true, true, true, true, false, false, false, false, false, false, false] rfl rfl (any_of HT_.out (by kernel_rfl)) (fun _ _ _ h => h) (Or.inr ⟨by rfl, rfl⟩) ?_ ?_
                  rotate_left
                  ·simp only [Act.put, sa', sz', ss', i64_w, i32_w]
                   rfl
                  refine pure_ (i := 11) (N := some 53) (v := undef) (a' := ?_) #[true, true, true, true, true, true, true, true, true, true, true, true, false, false, false, false, false, false] rfl rfl (any_of HT_.out (by kernel_rfl)) (fun _ _ _ h => h) (Or.inr ⟨by rfl, rfl⟩) ?_ ?_
                  rotate_left
                  ·simp only [Act.put, sa', sz', ss', i64_w, i32_w]
                   rfl
                  refine pure_ (i := 12) (N := some 54) (v := undef) (a' := ?_) #[true, true, true, true, true, true, true, true, true, true, true, true, true, false, false, false, false, false] rfl rfl (any_of HT_.out (by kernel_rfl)) (fun _ _ _ h => h) (Or.inr ⟨by rfl, rfl⟩) ?_ ?_
                  rotate_left
                  ·simp only [Act.put, sa', sz', ss', i64_w, i32_w]
                   rfl
                  refine pure_ (i := 13) (N := some 55) (v := undef) (a' := ?_) #[true, true, true, true, true, true, true, true, true, true, true, true, true, true, false, false, false, false] rfl rfl (any_of HT_.out (by kernel_rfl)) (fun _ _ _ h => h) (Or.inr ⟨by rfl, rfl⟩) ?_ ?_
                  rotate_left
                  ·simp only [Act.put, sa', sz', ss', i64_w, i32_w]
                   rfl
                  refine pure_ (i := 14) (N := some 56) (v := undef) (a' := ?_) #[true, true, true, true, true, true, true, true, true, true, true, true, true, true, true, false, false, false] rfl rfl (any_of HT_.out (by kernel_rfl)) (fun _ _ _ h => h) (Or.inr ⟨by rfl, rfl⟩) ?_ ?_
                  rotate_left
                  ·simp only [Act.put, sa', sz', ss', i64_w, i32_w]
                   rfl
                  refine pure_ (i := 15) (N := some 57) (v := undef) (a' := ?_) #[true, true, true, true, true, true, true, true, true, true, true, true, true, true, true, true, false, false] rfl rfl (any_of HT_.out (by kernel_rfl)) (fun _ _ _ h => h) (Or.inr ⟨by rfl, rfl⟩) ?_ ?_
                  rotate_left
                  ·simp only [Act.put, sa', sz', ss', i64_w, i32_w]
                   rfl
                  refine pure_ (i := 16) (N := some 58) (v := undef) (a' := ?_) #[true, true, true, true, true, true, true, true, true, true, true, true, true, true, true, true, true, false] rfl rfl (any_of HT_.out (by kernel_rfl)) (fun _ _ _ h => h) (Or.inr ⟨by rfl, rfl⟩) ?_ ?_
                  rotate_left
                  ·simp only [Act.put, sa', sz', ss', i64_w, i32_w]
                   rfl
                  refine pure_ (i := 17) (N := some 59) (v := ?_) (a' := ?_) #[true, true, true, true, true, true, true, true, true, true, true, true, true, true, true, true, true, true] rfl rfl (any_of HT_.out (by kernel_rfl)) (fun _ _ _ h => h) (Or.inl ⟨by rfl, ?_⟩) ?_ ?_
                  rotate_left
                  ·intro w'
                   go_simp
                   with_reducible rfl
                  rotate_left
                  ·simp only [Act.put, sa', sz', ss', i64_w, i32_w]
                   rfl
                  refine done_ (done_of HT_.out (by kernel_rfl)) ?_
                  try go_wp2
                  have n0_ := am' (rD' Gb.out)
                  have n1_ := am' (bD' Ga.out)
                  have n2_ := am' (pD' HB.out)
                  clear Gb
                  clear Ga
                  clear HB
                  have Gb := n0_
                  have Ga := n1_
                  have HB := n2_
                  clear n0_ n1_ n2_
                  refine start_ (n := 17) (S := fun w' => True) (ds := []) #[false, false, false, false, false, false, false, false, false, false, false, false, false, false, false, false, false] (by kernel_rfl) rfl rfl trivial (fun hHeld => ?_); refine with_tabW tidemillref02_Make.tab16 tidemillref02_Make.bits16 (fun HT_ HW_ => ?_)
                  generalize w60.drew = w62 at Gb Ga HB hHeld ⊢
                  refine pure_ (i := 0) (N := some 62) (v := ?_) (a' := ?_) #[true, false, false, false, false, false, false, false, false, false, false, false, false, false, false, false, false] rfl rfl (any_of HT_.out (by kernel_rfl)) (fun _ _ _ h => h) (Or.inl ⟨by rfl, ?_⟩) ?_ ?_
                  rotate_left
                  ·intro w'
                   go_simp
                   with_reducible rfl
                  rotate_left
                  ·simp only [Act.put, sa', sz', ss', i64_w, i32_w]
                   rfl
                  refine pure_ (i := 1) (N := some 63) (v := ?_) (a' := ?_) #[true, true, false, false, false, false, false, false, false, false, false, false, false, false, false, false, false] rfl rfl (any_of HT_.out (by kernel_rfl)) (fun _ _ _ h => h) (Or.inl ⟨by rfl, ?_⟩) ?_ ?_
                  rotate_left
                  ·intro w'
                   go_simp
                   with_reducible rfl
                  rotate_left
                  ·simp only [Act.put, sa', sz', ss', i64_w, i32_w]
                   rfl
                  refine pure_ (i := 2) (N := some 64) (v := ?_) (a' := ?_) #[true, true, true, false, false, false, false, false, false, false, false, false, false, false, false, false, false] rfl rfl (any_of HT_.out (by kernel_rfl)) (fun _ _ _ h => h) (Or.inl ⟨by rfl, ?_⟩) ?_ ?_
                  rotate_left
                  ·intro w'
                   go_simp
                   with_reducible rfl
                  rotate_left
                  ·simp only [Act.put, sa', sz', ss', i64_w, i32_w]
                   rfl
                  refine pure_ (i := 3) (N := some 65) (v := ?_) (a' := ?_) #[true, true, true, true, false, false, false, false, false, false, false, false, false, false, false, false, false] rfl rfl (any_of HT_.out (by kernel_rfl)) (fun _ _ _ h => h) (Or.inl ⟨by rfl, ?_⟩) ?_ ?_
                  rotate_left
                  ·intro w'
                   go_simp
                   with_reducible rfl
                  rotate_left
                  ·simp only [Act.put, sa', sz', ss', i64_w, i32_w]
                   rfl
                  refine pure_ (i := 4) (N := some 66) (v := ?_) (a' := ?_) #[true, true, true, true, true, false, false, false, false, false, false, false, false, false, false, false, false] rfl rfl (any_of HT_.out (by kernel_rfl)) (fun _ _ _ h => h) (Or.inl ⟨by rfl, ?_⟩) ?_ ?_
                  rotate_left
                  ·intro w'
                   go_simp
                   with_reducible rfl
                  rotate_left
                  ·simp only [Act.put, sa', sz', ss', i64_w, i32_w]
                   rfl
                  refine pure_ (i := 5) (N := some 67) (v := undef) (a' := ?_) #[true, true, true, true, true, true, false, false, false, false, false, false, false, false, false, false, false] rfl rfl (any_of HT_.out (by kernel_rfl)) (fun _ _ _ h => h) (Or.inr ⟨by rfl, rfl⟩) ?_ ?_
                  rotate_left
                  ·simp only [Act.put, sa', sz', ss', i64_w, i32_w]
                   rfl
                  refine pure_ (i := 6) (N := some 68) (v := undef) (a' := ?_) #[true, true, true, true, true, true, true, false, false, false, false, false, false, false, false, false, false] rfl rfl (any_of HT_.out (by kernel_rfl)) (fun _ _ _ h => h) (Or.inr ⟨by rfl, rfl⟩) ?_ ?_
                  rotate_left
                  ·simp only [Act.put, sa', sz', ss', i64_w, i32_w]
                   rfl
                  refine pure_ (i := 7) (N := some 69) (v := undef) (a' := ?_) #[true, true, true, true, true, true, true, true, false, false, false, false, false, false, false, false, false] rfl rfl (any_of HT_.out (by kernel_rfl)) (fun _ _ _ h => h) (Or.inr ⟨by rfl, rfl⟩) ?_ ?_
                  rotate_left
                  ·simp only [Act.put, sa', sz', ss', i64_w, i32_w]
                   rfl
                  refine pure_ (i := 8) (N := some 70) (v := undef) (a' := ?_) #[true, true, true, true, true, true, true, true, true, false, false, false, false, false, false, false, false] rfl rfl (any_of HT_.out (by kernel_rfl)) (fun _ _ _ h => h) (Or.inr ⟨by rfl, rfl⟩) ?_ ?_
                  rotate_left
                  ·simp only [Act.put, sa', sz', ss', i64_w, i32_w]
                   rfl
                  refine pure_ (i := 9) (N := some 71) (v := undef) (a' := ?_) #[true, true, true, true, true, true, true, true, true, true, false, false, false, false, false, false, false] rfl rfl (any_of HT_.out (by kernel_rfl)) (fun _ _ _ h => h) (Or.inr ⟨by rfl, rfl⟩) ?_ ?_
                  rotate_left
                  ·simp only [Act.put, sa', sz', ss', i64_w, i32_w]
                   rfl
                  refine pure_ (i := 10) (N := some 72) (v := undef) (a' := ?_) #[true, true, true, true, true, true, true, true, true, true, true, false, false, false, false, false, false] rfl rfl (any_of HT_.out (by kernel_rfl)) (fun _ _ _ h => h) (Or.inr ⟨by rfl, rfl⟩) ?_ ?_
                  rotate_left
                  ·simp only [Act.put, sa', sz', ss', i64_w, i32_w]
                   rfl
                  refine pure_ (i := 11) (N := some 73) (v := undef) (a' := ?_) #[true, true, true, true, true, true, true, true, true, true, true, true, false, false, false, false, false] rfl rfl (any_of HT_.out (by kernel_rfl)) (fun _ _ _ h => h) (Or.inr ⟨by rfl, rfl⟩) ?_ ?_
                  rotate_left
                  ·simp only [Act.put, sa', sz', ss', i64_w, i32_w]
                   rfl
                  refine pure_ (i := 12) (N := some 74) (v := undef) (a' := ?_) #[true, true, true, true, true, true, true, true, true, true, true, true, true, false, false, false, false] rfl rfl (any_of HT_.out (by kernel_rfl)) (fun _ _ _ h => h) (Or.inr ⟨by rfl, rfl⟩) ?_ ?_
                  rotate_left
                  ·simp only [Act.put, sa', sz', ss', i64_w, i32_w]
                   rfl
                  refine pure_ (i := 13) (N := some 75) (v := undef) (a' := ?_) #[true, true, true, true, true, true, true, true, true, true, true, true, true, true, false, false, false] rfl rfl (any_of HT_.out (by kernel_rfl)) (fun _ _ _ h => h) (Or.inr ⟨by rfl, rfl⟩) ?_ ?_
                  rotate_left
                  ·simp only [Act.put, sa', sz', ss', i64_w, i32_w]
                   rfl
                  refine pure_ (i := 14) (N := some 76) (v := undef) (a' := ?_) #[true, true, true, true, true, true, true, true, true, true, true, true, true, true, true, false, false] rfl rfl (any_of HT_.out (by kernel_rfl)) (fun _ _ _ h => h) (Or.inr ⟨by rfl, rfl⟩) ?_ ?_
                  rotate_left
                  ·simp only [Act.put, sa', sz', ss', i64_w, i32_w]
                   rfl
                  refine pure_ (i := 15) (N := some 77) (v := undef) (a' := ?_) #[true, true, true, true, true, true, true, true, true, true, true, true, true, true, true, true, false] rfl rfl (any_of HT_.out (by kernel_rfl)) (fun _ _ _ h => h) (Or.inr ⟨by rfl, rfl⟩) ?_ ?_
                  rotate_left
                  ·simp only [Act.put, sa', sz', ss', i64_w, i32_w]
                   rfl
                  refine pure_ (i := 16) (N := some 78) (v := ?_) (a' := ?_) #[true, true, true, true, true, true, true, true, true, true, true, true, true, true, true, true, true] rfl rfl (any_of HT_.out (by kernel_rfl)) (fun _ _ _ h => h) (Or.inl ⟨by rfl, ?_⟩) ?_ ?_
                  rotate_left
                  ·intro w'
                   go_simp
                   with_reducible rfl
                  rotate_left
                  ·simp only [Act.put, sa', sz', ss', i64_w, i32_w]
                   rfl
                  refine done_ (done_of HT_.out (by kernel_rfl)) ?_
                  try go_wp2
                  have n0_ := am' (rD' Gb.out)
                  have n1_ := am' (bD' Ga.out)
                  have n2_ := am' (pD' HB.out)
                  clear Gb
                  clear Ga
                  clear HB
                  have Gb := n0_
                  have Ga := n1_
                  have HB := n2_
                  clear n0_ n1_ n2_
                  have q64 : (x9_3 : Int) ≤ ((x7_2.length : Int) : Int) := of_decide_eq_true (by first | (with_reducible assumption) | assumption)
                  obtain ⟨i064, hi064, _, hsz64, _⟩ := info_parts info32
                  have hroom64 : x7_2.length ≤ co61 := (Kd.R_reads' Gb.out).2.1
                  have hC64 : Kd.C k32 _ Ao61 x7_2.length x7_2 := (Kd.R_reads' Gb.out).2.2
                  have hcut64 := cut_to (P := Try.prog) 22 32 .i64 Try.underlying22 hi064 Ao61 x7_2.length co61 x9_3 (of_decide_eq_true (by first | (with_reducible assumption) | assumption)) q64 hroom64
                  have hr64 := Kd.C_take (m := (x9_3 : Int).toNat) hC64 (by omega)
                  have hy64 : y139.length = (x9_3 : Int).toNat := (by rw [Ny139.out, List.length_take]; omega)
                  rw [← Ny139.out] at hr64
                  rw [← hy64] at hcut64
                  have HR142 := am' hr64
                  have HC142 := am' (show y139.length ≤ co61 from by omega)
                  clear hr64 hC64 hroom64 hi064 hsz64
                  have KY64 := am' hy64
                  clear hy64
                  have KL64 := am' (show (x9_3 : Int).toNat ≤ x7_2.length from by omega)
                  replace q64 := eq_true q64
                  have p146 : 0 ≤ (x39_2 : Int) := of_decide_eq_true (by first | (with_reducible assumption) | assumption)
                  have q146 : x39_2 < (l1.length : Int) := of_decide_eq_true (by first | (with_reducible assumption) | assumption)
                  obtain ⟨ad146, e146, hx146_0, hx146_1⟩ := at_T32 HR1.out x39_2 p146 q146
                  have hw146_1 := hx146_1
                  have hw146_0 := hx146_0
                  cases e146
                  replace hx146_0 := (HB.out.cell (World.block_lt_of_cell? w _ hx146_0)).trans hx146_0
                  replace hx146_1 := (HB.out.cell (World.block_lt_of_cell? w _ hx146_1)).trans hx146_1
                  replace p146 := eq_true p146
                  replace q146 := eq_true q146
                  have q65 : (x9_3 : Int) ≤ ((x7_2.length : Int) : Int) := of_decide_eq_true (by first | (with_reducible assumption) | assumption)
                  obtain ⟨i065, hi065, _, hsz65, _⟩ := info_parts info32
                  have hroom65 : x7_2.length ≤ co61 := (Kd.R_reads' Gb.out).2.1
                  have hC65 : Kd.C k32 _ Ao61 x7_2.length x7_2 := (Kd.R_reads' Gb.out).2.2
                  have q065 : (0 : Int) ≤ (x9_3 : Int) := of_decide_eq_true (by first | (with_reducible assumption) | assumption)
                  have hcut65 := cut_from (P := Try.prog) 22 32 .i64 Try.underlying22 hi065 2 hsz65 Ao61 x7_2.length co61 x9_3 q065 q65
                  have hr65 := Kd.C_drop (m := (x9_3 : Int).toNat) (c := co61) hC65 (by omega) hroom65
                  obtain ⟨A65, hA65⟩ : ∃ A1, A1 = (if co61 = (x9_3 : Int).toNat then Ao61 else (Ao61 : Option Addr).map (·.add ((x9_3 : Int).toNat * 2))) := ⟨_, rfl⟩
                  obtain ⟨c65, hc65⟩ : ∃ c1, c1 = co61 - (x9_3 : Int).toNat := ⟨_, rfl⟩
                  have hy65 : y153.length = x7_2.length - (x9_3 : Int).toNat := (by rw [Ny153.out, List.length_drop] <;> omega)
                  rw [show (x7_2).drop (x9_3 : Int).toNat = y153 from Ny153.out.symm] at hr65
                  replace hr65 : Kd.C k32 _ A65 y153.length y153 := (by rw [hA65]; exact hr65)
                  rw [← hy65, ← hA65, ← hc65] at hcut65
                  have HR156 := am' hr65
                  have HC156 := am' (show y153.length ≤ c65 from by rw [hy65, hc65]; exact Nat.sub_le_sub_right hroom65 _)
                  clear hr65 hC65 hroom65 hi065 hsz65 hc65
                  have KY65 := am' hy65
                  have KA65 := am' hA65
                  clear hy65 hA65
                  have KL65 := am' (show (x9_3 : Int).toNat ≤ x7_2.length from by omega)
                  replace q65 := eq_true q65
                  refine start_ (n := 16) (S := fun w' => w'.cell? (ad146.add ((x39_2).toNat * 2)) = some (.string ((rd_T32 l1 x39_2).f0)) ∧ w'.cell? ⟨(ad146.add ((x39_2).toNat * 2)).block, (ad146.add ((x39_2).toNat * 2)).off + 1, none⟩ = some (.string ((rd_T32 l1 x39_2).f1))) (ds := []) #[false, false, false, false, false, false, false, false, false, false, false, false, false, false, false, false] (by kernel_rfl) rfl rfl ⟨((HB.out.cell (World.block_lt_of_cell? w _ hw146_0)).trans hw146_0), ((HB.out.cell (World.block_lt_of_cell? w _ hw146_1)).trans hw146_1)⟩ (fun hHeld => ?_); refine with_tabW tidemillref02_Make.tab18 tidemillref02_Make.bits18 (fun HT_ HW_ => ?_)
                  generalize w62.drew = w63 at Gb Ga HB HR142 HR156 hx146_0 hx146_1 hHeld ⊢
                  refine pure_ (i := 1) (N := some 81) (v := ?_) (a' := ?_) #[false, true, false, false, false, false, false, false, false, false, false, false, false, false, false, false] rfl rfl (any_of HT_.out (by kernel_rfl)) (fun _ _ _ h => h) (Or.inl ⟨by rfl, ?_⟩) ?_ ?_
                  rotate_left
                  ·intro w'
                   go_simp
                   with_reducible rfl
                  rotate_left
                  ·simp only [Act.put, sa', sz', ss', i64_w, i32_w]
                   rfl
                  refine pure_ (i := 2) (N := some 82) (v := ?_) (a' := ?_) #[false, true, true, false, false, false, false, false, false, false, false, false, false, false, false, false] rfl rfl (any_of HT_.out (by kernel_rfl)) (fun _ _ _ h => h) (Or.inl ⟨by rfl, ?_⟩) ?_ ?_
                  rotate_left
                  ·intro w'
                   go_simp
                   with_reducible rfl
                  rotate_left
                  ·simp only [Act.put, sa', sz', ss', i64_w, i32_w]
                   rfl
                  refine pure_ (i := 3) (N := some 83) (v := ?_) (a' := ?_) #[false, true, true, true, false, false, false, false, false, false, false, false, false, false, false, false] rfl rfl (any_of HT_.out (by kernel_rfl)) (fun _ _ _ h => h) (Or.inl ⟨by rfl, ?_⟩) ?_ ?_
                  rotate_left
                  ·intro w'
                   go_simp
                   with_reducible rfl
                  rotate_left
                  ·simp only [Act.put, sa', sz', ss', i64_w, i32_w]
                   rfl
                  refine pure_ (i := 5) (N := some 85) (v := ?_) (a' := ?_) #[false, true, true, true, false, true, false, false, false, false, false, false, false, false, false, false] rfl rfl (any_of HT_.out (by kernel_rfl)) (fun _ _ _ h => h) (Or.inl ⟨by rfl, ?_⟩) ?_ ?_
                  rotate_left
                  ·intro w'
                   go_simp
                   with_reducible rfl
                  rotate_left
                  ·simp only [Act.put, sa', sz', ss', i64_w, i32_w]
                   rfl
                  refine pure_ (i := 6) (N := some 86) (v := ?_) (a' := ?_) #[false, true, true, true, false, true, true, false, false, false, false, false, false, false, false, false] rfl rfl (any_of HT_.out (by kernel_rfl)) (fun _ _ _ h => h) (Or.inl ⟨by rfl, ?_⟩) ?_ ?_
                  rotate_left
                  ·intro w'
                   go_simp
                   with_reducible rfl
                  rotate_left
                  ·simp only [Act.put, sa', sz', ss', i64_w, i32_w]
                   rfl
                  refine pure_ (i := 7) (N := some 87) (v := ?_) (a' := ?_) #[false, true, true, true, false, true, true, true, false, false, false, false, false, false, false, false] rfl rfl (any_of HT_.out (by kernel_rfl)) (fun _ _ _ h => h) (Or.inl ⟨by rfl, ?_⟩) ?_ ?_
                  rotate_left
                  ·intro w'
                   go_simp
                   with_reducible rfl
                  rotate_left
                  ·simp only [Act.put, sa', sz', ss', i64_w, i32_w]
                   rfl
                  refine pure_ (i := 11) (N := some 91) (v := ?_) (a' := ?_) #[false, true, true, true, false, true, true, true, false, false, false, true, false, false, false, false] rfl rfl (any_of HT_.out (by kernel_rfl)) (fun _ _ _ h => h) (Or.inl ⟨by rfl, ?_⟩) ?_ ?_
                  rotate_left
                  ·intro w'
                   go_simp
                   with_reducible rfl
                  rotate_left
                  ·simp only [Act.put, sa', sz', ss', i64_w, i32_w]
                   rfl
                  refine pure_ (i := 12) (N := some 92) (v := ?_) (a' := ?_) #[false, true, true, true, false, true, true, true, false, false, false, true, true, false, false, false] rfl rfl (any_of HT_.out (by kernel_rfl)) (fun _ _ _ h => h) (Or.inl ⟨by rfl, ?_⟩) ?_ ?_
                  rotate_left
                  ·intro w'
                   go_simp
                   with_reducible rfl
                  rotate_left
                  ·simp only [Act.put, sa', sz', ss', i64_w, i32_w]
                   rfl
                  refine pure_ (i := 13) (N := some 93) (v := ?_) (a' := ?_) #[false, true, true, true, false, true, true, true, false, false, false, true, true, true, false, false] rfl rfl (any_of HT_.out (by kernel_rfl)) (fun _ _ _ h => h) (Or.inl ⟨by rfl, ?_⟩) ?_ ?_
                  rotate_left
                  ·intro w'
                   go_simp
                   with_reducible rfl
                  rotate_left
                  ·simp only [Act.put, sa', sz', ss', i64_w, i32_w]
                   rfl
                  refine take_ (i := 8) (N := some 88) (v := ?_) (a' := ?_) #[false, true, true, true, false, true, true, true, true, false, false, true, true, true, false, false] rfl rfl (take_ofW HT_.out HW_.out (by kernel_rfl)) (fun _ _ _ h => h) (Or.inl ⟨by rfl, ?_⟩) hHeld ?_ ?_
                  rotate_left
                  ·rintro w' ⟨s0, s1⟩
                   go_simp
                   with_reducible rfl
                  rotate_left
                  ·simp only [Act.put, sa', sz', ss', i64_w, i32_w]
                   rfl
                  refine join_ (σ := Value × Value × Value) 3 #[true, true, true, true, true, true, true, true, true, true, false, true, true, true, false, false] (fun s_ => [(80, s_.1), (84, s_.2.1), (89, s_.2.2)]) (fun s_ w' => (w'.cell? (ad146.add ((x39_2).toNat * 2)) = some (.string ((rd_T32 l1 x39_2).f0)) ∧ w'.cell? ⟨(ad146.add ((x39_2).toNat * 2)).block, (ad146.add ((x39_2).toNat * 2)).off + 1, none⟩ = some (.string ((rd_T32 l1 x39_2).f1))) ∧ (Kd.R k32 32 w' w.heap.size (fun k_ => some k_ ≠ (s_.2.2 : Value).ownBlock ∧ some k_ ≠ (.slice Ao61 x7_2.length co61 : Value).ownBlock) s_.2.1 y143) ∧ (Kd.R k32 32 w' w.heap.size (fun k_ => some k_ ≠ (s_.2.1 : Value).ownBlock ∧ some k_ ≠ (.slice Ao61 x7_2.length co61 : Value).ownBlock) s_.2.2 y147) ∧ (Kd.R k32 32 w' w.heap.size (fun k_ => some k_ ≠ (s_.2.1 : Value).ownBlock ∧ some k_ ≠ (s_.2.2 : Value).ownBlock) (.slice Ao61 x7_2.length co61) x7_2) ∧ (w'.heap[Gd]? = some (.cells #[.string x102000_2, .slice none 0 0] 25 (0, 0))) ∧ (Below w.heap.size w w')) ?_ ?_
                  rotate_left
                  ·intro hCont
                   refine two_ (i := 0) (j := 9) (Ni := some 80) (Nj := some 89) #[true, true, true, true, false, true, true, true, true, false, false, true, true, true, false, false] #[false, true, true, true, false, true, true, true, true, true, false, true, true, true, false, false] rfl rfl rfl rfl (two_of HT_.out (by kernel_rfl)) (by decide) (by decide) (fun K hK => ?_) (fun K hK => ?_)
                   ·skip
                    refine Kd.R_lit_step k32 _ 32 ?hg (N := 80) ?hd (xs := ([] : List (S32))) (inner := []) (ok := fun _ => True) (okp := fun _ => True) ?hr ?hp (fun _ hk => hk) trivial (Below.refl _ _) (Nat.le_refl _) (by simp) ?_; (case hd => rfl); (case hg => rfl); (case hr => first | (go_simp; done) | (go_simp; rfl)); (case hp => exact (Reps.none _ _))
                    intro v137 w66 ho67 hb hg_ hnew_
                    clear hg_ hnew_
                    (first | rw [← Ny136.out] at ho67 | (simp only [Int.reduceToNat] at ho67; rw [← Ny136.out] at ho67))
                    have n0_ := am' (Kd.R_elder' (by (with_reducible repeat (first | apply rA' | apply rN' | apply rD')); exact Gb.out) (Kd.R_base ho67) hb)
                    have n1_ := am' (Kd.R_lower (Kd.R_new' ho67 (Kd.R_lt (by (with_reducible repeat (first | apply rA' | apply rN' | apply rD')); exact Gb.out))) (pz' (by repeat (first | (with_reducible first | exact HB.out | apply pA' | apply pN' | apply pD' | refine pS' ?_ Gc.out) | exact HB.out))))
                    have n2_ := am' (bB' (g := Gd) (o := .cells #[.string x102000_2, .slice none 0 0] 25 (0, 0)) (by (with_reducible repeat (first | refine bN' ?_ _ | refine bD' ?_ | refine bA' ?_ _)); exact Ga.out) hb)
                    have n3_ := am' (Kd.C_below (by repeat (first | (with_reducible exact HR142.out) | (with_reducible refine Kd.C_alloc ?_ _) | (with_reducible refine Kd.C_drewN ?_ _) | (with_reducible refine Kd.C_drew ?_) | exact HR142.out)) hb)
                    have n4_ := am' (Kd.C_below (by repeat (first | (with_reducible exact HR156.out) | (with_reducible refine Kd.C_alloc ?_ _) | (with_reducible refine Kd.C_drewN ?_ _) | (with_reducible refine Kd.C_drew ?_) | exact HR156.out)) hb)
                    have n5_ := am' (below_step (by repeat (first | (with_reducible first | exact HB.out | apply pA' | apply pN' | apply pD' | refine pS' ?_ Gc.out) | exact HB.out)) hb)
                    clear Gb
                    clear Ga
                    clear HR142
                    clear HR156
                    clear HB
                    have Gb := n0_
                    have HO138 := n1_
                    have Ga := n2_
                    have HR142 := n3_
                    have HR156 := n4_
                    have HB := n5_
                    clear n0_ n1_ n2_ n3_ n4_ n5_
                    clear hb ho67
                    refine hK.out _ _ ⟨((HB.out.cell (World.block_lt_of_cell? w _ hw146_0)).trans hw146_0), ((HB.out.cell (World.block_lt_of_cell? w _ hw146_1)).trans hw146_1)⟩ (fun hHeld => ?_)
                    clear hK K
                    refine norm_ (a' := ?_) ?_ ?_
                    rotate_left
                    ·show Act.put _ (some 80) _ = _
                     simp only [Act.put, sa', sz', ss', i64_w, i32_w]
                     rfl
                    refine two_ (i := 4) (j := 9) (Ni := some 84) (Nj := some 89) #[true, true, true, true, true, true, true, true, true, false, false, true, true, true, false, false] #[true, true, true, true, false, true, true, true, true, true, false, true, true, true, false, false] rfl rfl rfl rfl (two_of HT_.out (by kernel_rfl)) (by decide) (by decide) (fun K hK => ?_) (fun K hK => ?_)
                    ·skip
                     refine Kd.R_append_rows_step k32 (w0 := w) w.heap.size (by rfl) (.tmp 80) (.tmp 83) 22 32 (.agg #[(.string ⟨#[]⟩), (.string ⟨#[]⟩)]) 32 rfl Try.underlying22 info32 rfl (by decide) (by omega) v137 y136 y139 _ _ _ (fun k_ => some k_ ≠ (.slice Ao61 x7_2.length co61 : Value).ownBlock) (fun _ => False) rfl rfl ?aO ?aR (fun _ _ h => h) (fun _ h => h.elim) ?aF ?aB ?aS ?aL ?_
                     (case aR => repeat (first | exact (by repeat (first | (with_reducible exact HR142.out) | (with_reducible refine Kd.C_alloc ?_ _) | (with_reducible refine Kd.C_drewN ?_ _) | (with_reducible refine Kd.C_drew ?_) | exact HR142.out)) | (with_reducible refine Kd.C_alloc ?_ _) | (with_reducible refine Kd.C_drewN ?_ _) | (with_reducible refine Kd.C_drew ?_)))
                     (case aB => exact (by repeat (first | (with_reducible first | exact HB.out | apply pA' | apply pN' | apply pD' | refine pS' ?_ Gc.out) | exact HB.out)))
                     (case aF => exact (fun k_ hk => Kd.fresh' (Kd.R_lt (by (with_reducible repeat (first | apply rA' | apply rN' | apply rD')); exact Gb.out)) k_ hk))
                     (case aO => exact (by (with_reducible repeat (first | apply rA' | apply rN' | apply rD')); exact rM' HO138.out (fun _ hk => hk.2)))
                     (case aS => exact (pz' (by repeat (first | (with_reducible first | exact HB.out | apply pA' | apply pN' | apply pD' | refine pS' ?_ Gc.out) | exact HB.out))))
                     (case aL => have := LMc53.out; omega)
                     intro v144 w68 ho hb hg hat
                     rw [← Ny143.out] at ho
                     have n0_ := am' (Kd.R_after (ok := (fun _ => True)) (by (with_reducible repeat (first | apply rA' | apply rN' | apply rD')); exact Gb.out) hg hat)
                     have n1_ := am' (bG' (g := Gd) (o := .cells #[.string x102000_2, .slice none 0 0] 25 (0, 0)) (by (with_reducible repeat (first | refine bN' ?_ _ | refine bD' ?_ | refine bA' ?_ _)); exact Ga.out) hg (Kd.R_ne HO138.out Ga.out (by decide)))
                     have n2_ := am' (hb)
                     have n3_ := am' ((show Kd.C k32 w68 Ao61 y139.length y139 from by rw [Ny139.out]; exact Kd.C_take (m := (x9_3 : Int).toNat) ((Kd.R_reads' (Kd.R_after (ok := (fun _ => True)) (by (with_reducible repeat (first | apply rA' | apply rN' | apply rD')); exact Gb.out) hg hat)).2.2) KL64.out))
                     have n4_ := am' ((show Kd.C k32 w68 A65 y153.length y153 from by rw [Ny153.out, KA65.out]; exact Kd.C_drop (m := (x9_3 : Int).toNat) (c := co61) ((Kd.R_reads' (Kd.R_after (ok := (fun _ => True)) (by (with_reducible repeat (first | apply rA' | apply rN' | apply rD')); exact Gb.out) hg hat)).2.2) KL65.out ((Kd.R_reads' (Kd.R_after (ok := (fun _ => True)) (by (with_reducible repeat (first | apply rA' | apply rN' | apply rD')); exact Gb.out) hg hat)).2.1)))
                     have n5_ := am' (ho)
                     clear Gb
                     clear Ga
                     clear HB
                     clear HR142
                     clear HR156
                     clear HO138
                     have Gb := n0_
                     have Ga := n1_
                     have HB := n2_
                     have HR142 := n3_
                     have HR156 := n4_
                     have HO145 := n5_
                     clear n0_ n1_ n2_ n3_ n4_ n5_
                     clear ho hb hg hat
                     refine hK.out _ _ ⟨((HB.out.cell (World.block_lt_of_cell? w _ hw146_0)).trans hw146_0), ((HB.out.cell (World.block_lt_of_cell? w _ hw146_1)).trans hw146_1)⟩ (fun hHeld => ?_)
                     clear hK K
                     refine norm_ (a' := ?_) ?_ ?_
                     rotate_left
                     ·show Act.put _ (some 84) _ = _
                      simp only [Act.put, sa', sz', ss', i64_w, i32_w]
                      rfl
                     refine one_ (i := 9) (N := some 89) #[true, true, true, true, true, true, true, true, true, true, false, true, true, true, false, false] rfl rfl (one_of HT_.out (by kernel_rfl)) (by decide) (fun K hK => ?_)
                     refine Kd.R_lit_step k32 _ 32 ?hg (N := 89) ?hd (xs := ([(⟨(rd_T32 l1 x39_2).f0, (rd_T32 l1 x39_2).f1⟩ : S32)] : List (S32))) (inner := [.string ((rd_T32 l1 x39_2).f0), .string ((rd_T32 l1 x39_2).f1)]) (ok := fun _ => True) (okp := fun _ => True) ?hr ?hp (fun _ hk => hk) trivial (Below.refl _ _) (Nat.le_refl _) (by simp) ?_; (case hd => rfl); (case hg => rfl); (case hr => first | (go_simp; done) | (go_simp; rfl)); (case hp => exact (Reps.c2 (show Kd.M k32 _ _ _ (⟨(rd_T32 l1 x39_2).f0, (rd_T32 l1 x39_2).f1⟩ : S32) [.string ((rd_T32 l1 x39_2).f0), .string ((rd_T32 l1 x39_2).f1)] from (k32_mkM _ _ _ (⟨(rd_T32 l1 x39_2).f0, (rd_T32 l1 x39_2).f1⟩ : S32) )) (Reps.none _ _)))
                     intro v148 w69 ho70 hb hg_ hnew_
                     clear hg_ hnew_
                     (first | rw [← Ny147.out] at ho70 | (simp only [Int.reduceToNat] at ho70; rw [← Ny147.out] at ho70))
                     have n0_ := am' (Kd.R_elder' (by (with_reducible repeat (first | apply rA' | apply rN' | apply rD')); exact Gb.out) (Kd.R_base ho70) hb)
                     have n1_ := am' (Kd.R_elder' (by (with_reducible repeat (first | apply rA' | apply rN' | apply rD')); exact HO145.out) (Kd.R_base ho70) hb)
                     have n2_ := am' (Kd.R_lower (Kd.R_new' (Kd.R_new' ho70 (Kd.R_lt (by (with_reducible repeat (first | apply rA' | apply rN' | apply rD')); exact Gb.out))) (Kd.R_lt (by (with_reducible repeat (first | apply rA' | apply rN' | apply rD')); exact HO145.out))) (pz' (by repeat (first | (with_reducible first | exact HB.out | apply pA' | apply pN' | apply pD' | refine pS' ?_ Gc.out) | exact HB.out))))
                     have n3_ := am' (bB' (g := Gd) (o := .cells #[.string x102000_2, .slice none 0 0] 25 (0, 0)) (by (with_reducible repeat (first | refine bN' ?_ _ | refine bD' ?_ | refine bA' ?_ _)); exact Ga.out) hb)
                     have n4_ := am' (Kd.C_below (by repeat (first | (with_reducible exact HR142.out) | (with_reducible refine Kd.C_alloc ?_ _) | (with_reducible refine Kd.C_drewN ?_ _) | (with_reducible refine Kd.C_drew ?_) | exact HR142.out)) hb)
                     have n5_ := am' (Kd.C_below (by repeat (first | (with_reducible exact HR156.out) | (with_reducible refine Kd.C_alloc ?_ _) | (with_reducible refine Kd.C_drewN ?_ _) | (with_reducible refine Kd.C_drew ?_) | exact HR156.out)) hb)
                     have n6_ := am' (below_step (by repeat (first | (with_reducible first | exact HB.out | apply pA' | apply pN' | apply pD' | refine pS' ?_ Gc.out) | exact HB.out)) hb)
                     clear Gb
                     clear HO145
                     clear Ga
                     clear HR142
                     clear HR156
                     clear HB
                     have Gb := n0_
                     have HO145 := n1_
                     have HO149 := n2_
                     have Ga := n3_
                     have HR142 := n4_
                     have HR156 := n5_
                     have HB := n6_
                     clear n0_ n1_ n2_ n3_ n4_ n5_ n6_
                     clear hb ho70
                     refine hK.out _ _ ⟨((HB.out.cell (World.block_lt_of_cell? w _ hw146_0)).trans hw146_0), ((HB.out.cell (World.block_lt_of_cell? w _ hw146_1)).trans hw146_1)⟩ (fun hHeld => ?_)
                     clear hK K
                     refine norm_ (a' := ?_) ?_ ?_
                     rotate_left
                     ·show Act.put _ (some 89) _ = _
                      simp only [Act.put, sa', sz', ss', i64_w, i32_w]
                      rfl
                     exact norm_ (by simp only [putAll, Act.put, sa', sz', ss']) (hCont (v137, v144, v148) _ ⟨hHeld, (by (with_reducible repeat (first | apply rA' | apply rN' | apply rD')); exact rM' HO145.out (fun _ hk => ⟨hk.2, hk.1⟩)), (by (with_reducible repeat (first | apply rA' | apply rN' | apply rD')); exact rM' HO149.out (fun _ hk => ⟨hk.2, hk.1.2⟩)), (by (with_reducible repeat (first | apply rA' | apply rN' | apply rD')); exact rM' Gb.out (fun _ hk => ⟨hk.1.2, hk.2⟩)), (by (with_reducible repeat (first | refine bN' ?_ _ | refine bD' ?_ | refine bA' ?_ _)); exact Ga.out), (by repeat (first | (with_reducible first | exact HB.out | apply pA' | apply pN' | apply pD' | refine pS' ?_ Gc.out) | exact HB.out))⟩)
                    ·skip
                     refine Kd.R_lit_step k32 _ 32 ?hg (N := 89) ?hd (xs := ([(⟨(rd_T32 l1 x39_2).f0, (rd_T32 l1 x39_2).f1⟩ : S32)] : List (S32))) (inner := [.string ((rd_T32 l1 x39_2).f0), .string ((rd_T32 l1 x39_2).f1)]) (ok := fun _ => True) (okp := fun _ => True) ?hr ?hp (fun _ hk => hk) trivial (Below.refl _ _) (Nat.le_refl _) (by simp) ?_; (case hd => rfl); (case hg => rfl); (case hr => first | (go_simp; done) | (go_simp; rfl)); (case hp => exact (Reps.c2 (show Kd.M k32 _ _ _ (⟨(rd_T32 l1 x39_2).f0, (rd_T32 l1 x39_2).f1⟩ : S32) [.string ((rd_T32 l1 x39_2).f0), .string ((rd_T32 l1 x39_2).f1)] from (k32_mkM _ _ _ (⟨(rd_T32 l1 x39_2).f0, (rd_T32 l1 x39_2).f1⟩ : S32) )) (Reps.none _ _)))
                     intro v148 w68 ho69 hb hg_ hnew_
                     clear hg_ hnew_
                     (first | rw [← Ny147.out] at ho69 | (simp only [Int.reduceToNat] at ho69; rw [← Ny147.out] at ho69))
                     have n0_ := am' (Kd.R_elder' (by (with_reducible repeat (first | apply rA' | apply rN' | apply rD')); exact Gb.out) (Kd.R_base ho69) hb)
                     have n1_ := am' (Kd.R_elder' (by (with_reducible repeat (first | apply rA' | apply rN' | apply rD')); exact HO138.out) (Kd.R_base ho69) hb)
                     have n2_ := am' (Kd.R_lower (Kd.R_new' (Kd.R_new' ho69 (Kd.R_lt (by (with_reducible repeat (first | apply rA' | apply rN' | apply rD')); exact Gb.out))) (Kd.R_lt (by (with_reducible repeat (first | apply rA' | apply rN' | apply rD')); exact HO138.out))) (pz' (by repeat (first | (with_reducible first | exact HB.out | apply pA' | apply pN' | apply pD' | refine pS' ?_ Gc.out) | exact HB.out))))
                     have n3_ := am' (bB' (g := Gd) (o := .cells #[.string x102000_2, .slice none 0 0] 25 (0, 0)) (by (with_reducible repeat (first | refine bN' ?_ _ | refine bD' ?_ | refine bA' ?_ _)); exact Ga.out) hb)
                     have n4_ := am' (Kd.C_below (by repeat (first | (with_reducible exact HR142.out) | (with_reducible refine Kd.C_alloc ?_ _) | (with_reducible refine Kd.C_drewN ?_ _) | (with_reducible refine Kd.C_drew ?_) | exact HR142.out)) hb)
                     have n5_ := am' (Kd.C_below (by repeat (first | (with_reducible exact HR156.out) | (with_reducible refine Kd.C_alloc ?_ _) | (with_reducible refine Kd.C_drewN ?_ _) | (with_reducible refine Kd.C_drew ?_) | exact HR156.out)) hb)
                     have n6_ := am' (below_step (by repeat (first | (with_reducible first | exact HB.out | apply pA' | apply pN' | apply pD' | refine pS' ?_ Gc.out) | exact HB.out)) hb)
                     clear Gb
                     clear HO138
                     clear Ga
                     clear HR142
                     clear HR156
                     clear HB
                     have Gb := n0_
                     have HO138 := n1_
                     have HO149 := n2_
                     have Ga := n3_
                     have HR142 := n4_
                     have HR156 := n5_
                     have HB := n6_
                     clear n0_ n1_ n2_ n3_ n4_ n5_ n6_
                     clear hb ho69
                     refine hK.out _ _ ⟨((HB.out.cell (World.block_lt_of_cell? w _ hw146_0)).trans hw146_0), ((HB.out.cell (World.block_lt_of_cell? w _ hw146_1)).trans hw146_1)⟩ (fun hHeld => ?_)
                     clear hK K
                     refine norm_ (a' := ?_) ?_ ?_
                     rotate_left
                     ·show Act.put _ (some 89) _ = _
                      simp only [Act.put, sa', sz', ss', i64_w, i32_w]
                      rfl
                     refine one_ (i := 4) (N := some 84) #[true, true, true, true, true, true, true, true, true, true, false, true, true, true, false, false] rfl rfl (one_of HT_.out (by kernel_rfl)) (by decide) (fun K hK => ?_)
                     refine Kd.R_append_rows_step k32 (w0 := w) w.heap.size (by rfl) (.tmp 80) (.tmp 83) 22 32 (.agg #[(.string ⟨#[]⟩), (.string ⟨#[]⟩)]) 32 rfl Try.underlying22 info32 rfl (by decide) (by omega) v137 y136 y139 _ _ _ (fun k_ => some k_ ≠ (.slice Ao61 x7_2.length co61 : Value).ownBlock ∧ some k_ ≠ (v148 : Value).ownBlock) (fun _ => False) rfl rfl ?aO ?aR (fun _ _ h => h) (fun _ h => h.elim) ?aF ?aB ?aS ?aL ?_
                     (case aR => repeat (first | exact (by repeat (first | (with_reducible exact HR142.out) | (with_reducible refine Kd.C_alloc ?_ _) | (with_reducible refine Kd.C_drewN ?_ _) | (with_reducible refine Kd.C_drew ?_) | exact HR142.out)) | (with_reducible refine Kd.C_alloc ?_ _) | (with_reducible refine Kd.C_drewN ?_ _) | (with_reducible refine Kd.C_drew ?_)))
                     (case aB => exact (by repeat (first | (with_reducible first | exact HB.out | apply pA' | apply pN' | apply pD' | refine pS' ?_ Gc.out) | exact HB.out)))
                     (case aF => exact (fun k_ hk => ⟨Kd.fresh' (Kd.R_lt (by (with_reducible repeat (first | apply rA' | apply rN' | apply rD')); exact Gb.out)) k_ hk, Kd.fresh' (Kd.R_lt (by (with_reducible repeat (first | apply rA' | apply rN' | apply rD')); exact HO149.out)) k_ hk⟩))
                     (case aO => exact (by (with_reducible repeat (first | apply rA' | apply rN' | apply rD')); exact rM' HO138.out (fun _ hk => ⟨hk.1.2, hk.2⟩)))
                     (case aS => exact (pz' (by repeat (first | (with_reducible first | exact HB.out | apply pA' | apply pN' | apply pD' | refine pS' ?_ Gc.out) | exact HB.out))))
                     (case aL => have := LMc53.out; omega)
                     intro v144 w70 ho hb hg hat
                     rw [← Ny143.out] at ho
                     have n0_ := am' (Kd.R_after (ok := (fun k_ => some k_ ≠ (v148 : Value).ownBlock)) (by (with_reducible repeat (first | apply rA' | apply rN' | apply rD')); exact rM' Gb.out (fun _ hk => ⟨hk.2, hk.1.2⟩)) hg hat)
                     have n1_ := am' (bG' (g := Gd) (o := .cells #[.string x102000_2, .slice none 0 0] 25 (0, 0)) (by (with_reducible repeat (first | refine bN' ?_ _ | refine bD' ?_ | refine bA' ?_ _)); exact Ga.out) hg (Kd.R_ne HO138.out Ga.out (by decide)))
                     have n2_ := am' (Kd.R_after (ok := (fun k_ => some k_ ≠ (.slice Ao61 x7_2.length co61 : Value).ownBlock)) (by (with_reducible repeat (first | apply rA' | apply rN' | apply rD')); exact rM' HO149.out (fun _ hk => ⟨hk.1.2, hk.2⟩)) hg hat)
                     have n3_ := am' (hb)
                     have n4_ := am' ((show Kd.C k32 w70 Ao61 y139.length y139 from by rw [Ny139.out]; exact Kd.C_take (m := (x9_3 : Int).toNat) ((Kd.R_reads' (Kd.R_after (ok := (fun k_ => some k_ ≠ (v148 : Value).ownBlock)) (by (with_reducible repeat (first | apply rA' | apply rN' | apply rD')); exact rM' Gb.out (fun _ hk => ⟨hk.2, hk.1.2⟩)) hg hat)).2.2) KL64.out))
                     have n5_ := am' ((show Kd.C k32 w70 A65 y153.length y153 from by rw [Ny153.out, KA65.out]; exact Kd.C_drop (m := (x9_3 : Int).toNat) (c := co61) ((Kd.R_reads' (Kd.R_after (ok := (fun k_ => some k_ ≠ (v148 : Value).ownBlock)) (by (with_reducible repeat (first | apply rA' | apply rN' | apply rD')); exact rM' Gb.out (fun _ hk => ⟨hk.2, hk.1.2⟩)) hg hat)).2.2) KL65.out ((Kd.R_reads' (Kd.R_after (ok := (fun k_ => some k_ ≠ (v148 : Value).ownBlock)) (by (with_reducible repeat (first | apply rA' | apply rN' | apply rD')); exact rM' Gb.out (fun _ hk => ⟨hk.2, hk.1.2⟩)) hg hat)).2.1)))
                     have n6_ := am' (ho)
                     clear Gb
                     clear Ga
                     clear HO149
                     clear HB
                     clear HR142
                     clear HR156
                     clear HO138
                     have Gb := n0_
                     have Ga := n1_
                     have HO149 := n2_
                     have HB := n3_
                     have HR142 := n4_
                     have HR156 := n5_
                     have HO145 := n6_
                     clear n0_ n1_ n2_ n3_ n4_ n5_ n6_
                     clear ho hb hg hat
                     refine hK.out _ _ ⟨((HB.out.cell (World.block_lt_of_cell? w _ hw146_0)).trans hw146_0), ((HB.out.cell (World.block_lt_of_cell? w _ hw146_1)).trans hw146_1)⟩ (fun hHeld => ?_)
                     clear hK K
                     refine norm_ (a' := ?_) ?_ ?_
                     rotate_left
                     ·show Act.put _ (some 84) _ = _
                      simp only [Act.put, sa', sz', ss', i64_w, i32_w]
                      rfl
                     exact norm_ (by simp only [putAll, Act.put, sa', sz', ss']) (hCont (v137, v144, v148) _ ⟨hHeld, (by (with_reducible repeat (first | apply rA' | apply rN' | apply rD')); exact rM' HO145.out (fun _ hk => ⟨hk.2, hk.1⟩)), (by (with_reducible repeat (first | apply rA' | apply rN' | apply rD')); exact rM' HO149.out (fun _ hk => ⟨hk.2, hk.1⟩)), (by (with_reducible repeat (first | apply rA' | apply rN' | apply rD')); exact rM' Gb.out (fun _ hk => ⟨hk.2, hk.1⟩)), (by (with_reducible repeat (first | refine bN' ?_ _ | refine bD' ?_ | refine bA' ?_ _)); exact Ga.out), (by repeat (first | (with_reducible first | exact HB.out | apply pA' | apply pN' | apply pD' | refine pS' ?_ Gc.out) | exact HB.out))⟩)
                   ·skip
                    refine Kd.R_lit_step k32 _ 32 ?hg (N := 89) ?hd (xs := ([(⟨(rd_T32 l1 x39_2).f0, (rd_T32 l1 x39_2).f1⟩ : S32)] : List (S32))) (inner := [.string ((rd_T32 l1 x39_2).f0), .string ((rd_T32 l1 x39_2).f1)]) (ok := fun _ => True) (okp := fun _ => True) ?hr ?hp (fun _ hk => hk) trivial (Below.refl _ _) (Nat.le_refl _) (by simp) ?_; (case hd => rfl); (case hg => rfl); (case hr => first | (go_simp; done) | (go_simp; rfl)); (case hp => exact (Reps.c2 (show Kd.M k32 _ _ _ (⟨(rd_T32 l1 x39_2).f0, (rd_T32 l1 x39_2).f1⟩ : S32) [.string ((rd_T32 l1 x39_2).f0), .string ((rd_T32 l1 x39_2).f1)] from (k32_mkM _ _ _ (⟨(rd_T32 l1 x39_2).f0, (rd_T32 l1 x39_2).f1⟩ : S32) )) (Reps.none _ _)))
                    intro v148 w66 ho67 hb hg_ hnew_
                    clear hg_ hnew_
                    (first | rw [← Ny147.out] at ho67 | (simp only [Int.reduceToNat] at ho67; rw [← Ny147.out] at ho67))
                    have n0_ := am' (Kd.R_elder' (by (with_reducible repeat (first | apply rA' | apply rN' | apply rD')); exact Gb.out) (Kd.R_base ho67) hb)
                    have n1_ := am' (Kd.R_lower (Kd.R_new' ho67 (Kd.R_lt (by (with_reducible repeat (first | apply rA' | apply rN' | apply rD')); exact Gb.out))) (pz' (by repeat (first | (with_reducible first | exact HB.out | apply pA' | apply pN' | apply pD' | refine pS' ?_ Gc.out) | exact HB.out))))
                    have n2_ := am' (bB' (g := Gd) (o := .cells #[.string x102000_2, .slice none 0 0] 25 (0, 0)) (by (with_reducible repeat (first | refine bN' ?_ _ | refine bD' ?_ | refine bA' ?_ _)); exact Ga.out) hb)
                    have n3_ := am' (Kd.C_below (by repeat (first | (with_reducible exact HR142.out) | (with_reducible refine Kd.C_alloc ?_ _) | (with_reducible refine Kd.C_drewN ?_ _) | (with_reducible refine Kd.C_drew ?_) | exact HR142.out)) hb)
                    have n4_ := am' (Kd.C_below (by repeat (first | (with_reducible exact HR156.out) | (with_reducible refine Kd.C_alloc ?_ _) | (with_reducible refine Kd.C_drewN ?_ _) | (with_reducible refine Kd.C_drew ?_) | exact HR156.out)) hb)
                    have n5_ := am' (below_step (by repeat (first | (with_reducible first | exact HB.out | apply pA' | apply pN' | apply pD' | refine pS' ?_ Gc.out) | exact HB.out)) hb)
                    clear Gb
                    clear Ga
                    clear HR142
                    clear HR156
                    clear HB
                    have Gb := n0_
                    have HO149 := n1_
                    have Ga := n2_
                    have HR142 := n3_
                    have HR156 := n4_
                    have HB := n5_
                    clear n0_ n1_ n2_ n3_ n4_ n5_
                    clear hb ho67
                    refine hK.out _ _ ⟨((HB.out.cell (World.block_lt_of_cell? w _ hw146_0)).trans hw146_0), ((HB.out.cell (World.block_lt_of_cell? w _ hw146_1)).trans hw146_1)⟩ (fun hHeld => ?_)
                    clear hK K
                    refine norm_ (a' := ?_) ?_ ?_
                    rotate_left
                    ·show Act.put _ (some 89) _ = _
                     simp only [Act.put, sa', sz', ss', i64_w, i32_w]
                     rfl
                    refine one_ (i := 0) (N := some 80) #[true, true, true, true, false, true, true, true, true, true, false, true, true, true, false, false] rfl rfl (one_of HT_.out (by kernel_rfl)) (by decide) (fun K hK => ?_)
                    refine Kd.R_lit_step k32 _ 32 ?hg (N := 80) ?hd (xs := ([] : List (S32))) (inner := []) (ok := fun _ => True) (okp := fun _ => True) ?hr ?hp (fun _ hk => hk) trivial (Below.refl _ _) (Nat.le_refl _) (by simp) ?_; (case hd => rfl); (case hg => rfl); (case hr => first | (go_simp; done) | (go_simp; rfl)); (case hp => exact (Reps.none _ _))
                    intro v137 w68 ho69 hb hg_ hnew_
                    clear hg_ hnew_
                    (first | rw [← Ny136.out] at ho69 | (simp only [Int.reduceToNat] at ho69; rw [← Ny136.out] at ho69))
                    have n0_ := am' (Kd.R_elder' (by (with_reducible repeat (first | apply rA' | apply rN' | apply rD')); exact Gb.out) (Kd.R_base ho69) hb)
                    have n1_ := am' (Kd.R_elder' (by (with_reducible repeat (first | apply rA' | apply rN' | apply rD')); exact HO149.out) (Kd.R_base ho69) hb)
                    have n2_ := am' (Kd.R_lower (Kd.R_new' (Kd.R_new' ho69 (Kd.R_lt (by (with_reducible repeat (first | apply rA' | apply rN' | apply rD')); exact Gb.out))) (Kd.R_lt (by (with_reducible repeat (first | apply rA' | apply rN' | apply rD')); exact HO149.out))) (pz' (by repeat (first | (with_reducible first | exact HB.out | apply pA' | apply pN' | apply pD' | refine pS' ?_ Gc.out) | exact HB.out))))
                    have n3_ := am' (bB' (g := Gd) (o := .cells #[.string x102000_2, .slice none 0 0] 25 (0, 0)) (by (with_reducible repeat (first | refine bN' ?_ _ | refine bD' ?_ | refine bA' ?_ _)); exact Ga.out) hb)
                    have n4_ := am' (Kd.C_below (by repeat (first | (with_reducible exact HR142.out) | (with_reducible refine Kd.C_alloc ?_ _) | (with_reducible refine Kd.C_drewN ?_ _) | (with_reducible refine Kd.C_drew ?_) | exact HR142.out)) hb)
                    have n5_ := am' (Kd.C_below (by repeat (first | (with_reducible exact HR156.out) | (with_reducible refine Kd.C_alloc ?_ _) | (with_reducible refine Kd.C_drewN ?_ _) | (with_reducible refine Kd.C_drew ?_) | exact HR156.out)) hb)
                    have n6_ := am' (below_step (by repeat (first | (with_reducible first | exact HB.out | apply pA' | apply pN' | apply pD' | refine pS' ?_ Gc.out) | exact HB.out)) hb)
                    clear Gb
                    clear HO149
                    clear Ga
                    clear HR142
                    clear HR156
                    clear HB
                    have Gb := n0_
                    have HO149 := n1_
                    have HO138 := n2_
                    have Ga := n3_
                    have HR142 := n4_
                    have HR156 := n5_
                    have HB := n6_
                    clear n0_ n1_ n2_ n3_ n4_ n5_ n6_
                    clear hb ho69
                    refine hK.out _ _ ⟨((HB.out.cell (World.block_lt_of_cell? w _ hw146_0)).trans hw146_0), ((HB.out.cell (World.block_lt_of_cell? w _ hw146_1)).trans hw146_1)⟩ (fun hHeld => ?_)
                    clear hK K
                    refine norm_ (a' := ?_) ?_ ?_
                    rotate_left
                    ·show Act.put _ (some 80) _ = _
                     simp only [Act.put, sa', sz', ss', i64_w, i32_w]
                     rfl
                    refine one_ (i := 4) (N := some 84) #[true, true, true, true, true, true, true, true, true, true, false, true, true, true, false, false] rfl rfl (one_of HT_.out (by kernel_rfl)) (by decide) (fun K hK => ?_)
                    refine Kd.R_append_rows_step k32 (w0 := w) w.heap.size (by rfl) (.tmp 80) (.tmp 83) 22 32 (.agg #[(.string ⟨#[]⟩), (.string ⟨#[]⟩)]) 32 rfl Try.underlying22 info32 rfl (by decide) (by omega) v137 y136 y139 _ _ _ (fun k_ => some k_ ≠ (.slice Ao61 x7_2.length co61 : Value).ownBlock ∧ some k_ ≠ (v148 : Value).ownBlock) (fun _ => False) rfl rfl ?aO ?aR (fun _ _ h => h) (fun _ h => h.elim) ?aF ?aB ?aS ?aL ?_
                    (case aR => repeat (first | exact (by repeat (first | (with_reducible exact HR142.out) | (with_reducible refine Kd.C_alloc ?_ _) | (with_reducible refine Kd.C_drewN ?_ _) | (with_reducible refine Kd.C_drew ?_) | exact HR142.out)) | (with_reducible refine Kd.C_alloc ?_ _) | (with_reducible refine Kd.C_drewN ?_ _) | (with_reducible refine Kd.C_drew ?_)))
                    (case aB => exact (by repeat (first | (with_reducible first | exact HB.out | apply pA' | apply pN' | apply pD' | refine pS' ?_ Gc.out) | exact HB.out)))
                    (case aF => exact (fun k_ hk => ⟨Kd.fresh' (Kd.R_lt (by (with_reducible repeat (first | apply rA' | apply rN' | apply rD')); exact Gb.out)) k_ hk, Kd.fresh' (Kd.R_lt (by (with_reducible repeat (first | apply rA' | apply rN' | apply rD')); exact HO149.out)) k_ hk⟩))
                    (case aO => exact (by (with_reducible repeat (first | apply rA' | apply rN' | apply rD')); exact rM' HO138.out (fun _ hk => ⟨hk.1.2, hk.2⟩)))
                    (case aS => exact (pz' (by repeat (first | (with_reducible first | exact HB.out | apply pA' | apply pN' | apply pD' | refine pS' ?_ Gc.out) | exact HB.out))))
                    (case aL => have := LMc53.out; omega)
                    intro v144 w70 ho hb hg hat
                    rw [← Ny143.out] at ho
                    have n0_ := am' (Kd.R_after (ok := (fun k_ => some k_ ≠ (v148 : Value).ownBlock)) (by (with_reducible repeat (first | apply rA' | apply rN' | apply rD')); exact rM' Gb.out (fun _ hk => ⟨hk.1.2, hk.2⟩)) hg hat)
                    have n1_ := am' (bG' (g := Gd) (o := .cells #[.string x102000_2, .slice none 0 0] 25 (0, 0)) (by (with_reducible repeat (first | refine bN' ?_ _ | refine bD' ?_ | refine bA' ?_ _)); exact Ga.out) hg (Kd.R_ne HO138.out Ga.out (by decide)))
                    have n2_ := am' (Kd.R_after (ok := (fun k_ => some k_ ≠ (.slice Ao61 x7_2.length co61 : Value).ownBlock)) (by (with_reducible repeat (first | apply rA' | apply rN' | apply rD')); exact rM' HO149.out (fun _ hk => ⟨hk.1.2, hk.2⟩)) hg hat)
                    have n3_ := am' (hb)
                    have n4_ := am' ((show Kd.C k32 w70 Ao61 y139.length y139 from by rw [Ny139.out]; exact Kd.C_take (m := (x9_3 : Int).toNat) ((Kd.R_reads' (Kd.R_after (ok := (fun k_ => some k_ ≠ (v148 : Value).ownBlock)) (by (with_reducible repeat (first | apply rA' | apply rN' | apply rD')); exact rM' Gb.out (fun _ hk => ⟨hk.1.2, hk.2⟩)) hg hat)).2.2) KL64.out))
                    have n5_ := am' ((show Kd.C k32 w70 A65 y153.length y153 from by rw [Ny153.out, KA65.out]; exact Kd.C_drop (m := (x9_3 : Int).toNat) (c := co61) ((Kd.R_reads' (Kd.R_after (ok := (fun k_ => some k_ ≠ (v148 : Value).ownBlock)) (by (with_reducible repeat (first | apply rA' | apply rN' | apply rD')); exact rM' Gb.out (fun _ hk => ⟨hk.1.2, hk.2⟩)) hg hat)).2.2) KL65.out ((Kd.R_reads' (Kd.R_after (ok := (fun k_ => some k_ ≠ (v148 : Value).ownBlock)) (by (with_reducible repeat (first | apply rA' | apply rN' | apply rD')); exact rM' Gb.out (fun _ hk => ⟨hk.1.2, hk.2⟩)) hg hat)).2.1)))
                    have n6_ := am' (ho)
                    clear Gb
                    clear Ga
                    clear HO149
                    clear HB
                    clear HR142
                    clear HR156
                    clear HO138
                    have Gb := n0_
                    have Ga := n1_
                    have HO149 := n2_
                    have HB := n3_
                    have HR142 := n4_
                    have HR156 := n5_
                    have HO145 := n6_
                    clear n0_ n1_ n2_ n3_ n4_ n5_ n6_
                    clear ho hb hg hat
                    refine hK.out _ _ ⟨((HB.out.cell (World.block_lt_of_cell? w _ hw146_0)).trans hw146_0), ((HB.out.cell (World.block_lt_of_cell? w _ hw146_1)).trans hw146_1)⟩ (fun hHeld => ?_)
                    clear hK K
                    refine norm_ (a' := ?_) ?_ ?_
                    rotate_left
                    ·show Act.put _ (some 84) _ = _
                     simp only [Act.put, sa', sz', ss', i64_w, i32_w]
                     rfl
                    exact norm_ (by simp only [putAll, Act.put, sa', sz', ss']) (hCont (v137, v144, v148) _ ⟨hHeld, (by (with_reducible repeat (first | apply rA' | apply rN' | apply rD')); exact rM' HO145.out (fun _ hk => ⟨hk.2, hk.1⟩)), (by (with_reducible repeat (first | apply rA' | apply rN' | apply rD')); exact rM' HO149.out (fun _ hk => ⟨hk.2, hk.1⟩)), (by (with_reducible repeat (first | apply rA' | apply rN' | apply rD')); exact rM' Gb.out (fun _ hk => ⟨hk.2, hk.1⟩)), (by (with_reducible repeat (first | refine bN' ?_ _ | refine bD' ?_ | refine bA' ?_ _)); exact Ga.out), (by repeat (first | (with_reducible first | exact HB.out | apply pA' | apply pN' | apply pD' | refine pS' ?_ Gc.out) | exact HB.out))⟩)
                  rintro ⟨v137, v144, v148⟩ w71 ⟨hS_, h0_, h1_, h2_, h3_, h4_⟩
                  have n0_ : Aside0 (Kd.R k32 32 w71 w.heap.size (fun k_ => some k_ ≠ (v148 : Value).ownBlock ∧ some k_ ≠ (.slice Ao61 x7_2.length co61 : Value).ownBlock) v144 y143) := ⟨h0_⟩
                  have n1_ : Aside0 (Kd.R k32 32 w71 w.heap.size (fun k_ => some k_ ≠ (v144 : Value).ownBlock ∧ some k_ ≠ (.slice Ao61 x7_2.length co61 : Value).ownBlock) v148 y147) := ⟨h1_⟩
                  have n2_ : Aside0 (Kd.R k32 32 w71 w.heap.size (fun k_ => some k_ ≠ (v144 : Value).ownBlock ∧ some k_ ≠ (v148 : Value).ownBlock) (.slice Ao61 x7_2.length co61) x7_2) := ⟨h2_⟩
                  have n3_ : Aside0 (w71.heap[Gd]? = some (.cells #[.string x102000_2, .slice none 0 0] 25 (0, 0))) := ⟨h3_⟩
                  have n4_ : Aside0 (Below w.heap.size w w71) := ⟨h4_⟩
                  clear Gb
                  clear Ga
                  clear HB
                  clear h0_ h1_ h2_ h3_ h4_
                  have HO145 := n0_
                  have HO149 := n1_
                  have Gb := n2_
                  have Ga := n3_
                  have HB := n4_
                  clear n0_ n1_ n2_ n3_ n4_
                  have hHeld : w71.cell? (ad146.add ((x39_2).toNat * 2)) = some (.string ((rd_T32 l1 x39_2).f0)) ∧ w71.cell? ⟨(ad146.add ((x39_2).toNat * 2)).block, (ad146.add ((x39_2).toNat * 2)).off + 1, none⟩ = some (.string ((rd_T32 l1 x39_2).f1)) := hS_
                  obtain ⟨Ao73, co73, eo73⟩ := Kd.R_slice HO149.out
                  (first | subst eo73 | (injection eo73 with f1_ f2_ f3_; have f4_ := f1_.symm; have f5_ := f3_.symm; clear f1_ f2_ f3_; subst f4_; subst f5_))
                  refine norm_ (a' := ?_) ?_ ?_
                  rotate_left
                  ·simp only [putAll, Act.put, sa', sz', ss']
                   rfl
                  refine one_ (i := 10) (N := some 90) #[true, true, true, true, true, true, true, true, true, true, true, true, true, true, false, false] rfl rfl (one_of HT_.out (by kernel_rfl)) (by decide) (fun K hK => ?_)
                  refine Kd.R_append_rows_step k32 (w0 := w) w.heap.size (by rfl) (.tmp 84) (.tmp 89) 22 32 (.agg #[(.string ⟨#[]⟩), (.string ⟨#[]⟩)]) 32 rfl Try.underlying22 info32 rfl (by decide) (by omega) v144 y143 y147 _ _ _ (fun k_ => some k_ ≠ (.slice Ao61 x7_2.length co61 : Value).ownBlock ∧ some k_ ≠ (.slice Ao73 y147.length co73 : Value).ownBlock) (fun _ => False) rfl rfl ?aO ?aR (fun _ _ h => h) (fun _ h => h.elim) ?aF ?aB ?aS ?aL ?_
                  (case aR => repeat (first | exact (Kd.R_reads' HO149.out).2.2 | (with_reducible refine Kd.C_alloc ?_ _) | (with_reducible refine Kd.C_drewN ?_ _) | (with_reducible refine Kd.C_drew ?_)))
                  (case aB => exact (by repeat (first | (with_reducible first | exact HB.out | apply pA' | apply pN' | apply pD' | refine pS' ?_ Gc.out) | exact HB.out)))
                  (case aF => exact (fun k_ hk => ⟨Kd.fresh' (Kd.R_lt (by (with_reducible repeat (first | apply rA' | apply rN' | apply rD')); exact Gb.out)) k_ hk, Kd.fresh' (Kd.R_lt (by (with_reducible repeat (first | apply rA' | apply rN' | apply rD')); exact HO149.out)) k_ hk⟩))
                  (case aO => exact (by (with_reducible repeat (first | apply rA' | apply rN' | apply rD')); exact rM' HO145.out (fun _ hk => ⟨hk.2, hk.1⟩)))
                  (case aS => exact (pz' (by repeat (first | (with_reducible first | exact HB.out | apply pA' | apply pN' | apply pD' | refine pS' ?_ Gc.out) | exact HB.out))))
                  (case aL => have := LMc56.out; omega)
                  intro v151 w72 ho hb hg hat
                  rw [← Ny150.out] at ho
                  have n0_ := am' (Kd.R_after (ok := (fun k_ => some k_ ≠ (.slice Ao73 y147.length co73 : Value).ownBlock)) (by (with_reducible repeat (first | apply rA' | apply rN' | apply rD')); exact rM' Gb.out (fun _ hk => ⟨hk.2, hk.1⟩)) hg hat)
                  have n1_ := am' (bG' (g := Gd) (o := .cells #[.string x102000_2, .slice none 0 0] 25 (0, 0)) (by (with_reducible repeat (first | refine bN' ?_ _ | refine bD' ?_ | refine bA' ?_ _)); exact Ga.out) hg (Kd.R_ne HO145.out Ga.out (by decide)))
                  have n2_ := am' (Kd.R_after (ok := (fun k_ => some k_ ≠ (.slice Ao61 x7_2.length co61 : Value).ownBlock)) (by (with_reducible repeat (first | apply rA' | apply rN' | apply rD')); exact rM' HO149.out (fun _ hk => ⟨hk.2, hk.1⟩)) hg hat)
                  have n3_ := am' (hb)
                  have n4_ := am' (ho)
                  clear Gb
                  clear Ga
                  clear HO149
                  clear HB
                  clear HO145
                  have Gb := n0_
                  have Ga := n1_
                  have HO149 := n2_
                  have HB := n3_
                  have HO152 := n4_
                  clear n0_ n1_ n2_ n3_ n4_
                  clear ho hb hg hat
                  refine hK.out _ _ ⟨((HB.out.cell (World.block_lt_of_cell? w _ hw146_0)).trans hw146_0), ((HB.out.cell (World.block_lt_of_cell? w _ hw146_1)).trans hw146_1)⟩ (fun hHeld => ?_)
                  clear hK K
                  refine norm_ (a' := ?_) ?_ ?_
                  rotate_left
                  ·show Act.put _ (some 90) _ = _
                   simp only [Act.put, sa', sz', ss', i64_w, i32_w]
                   rfl
                  refine one_ (i := 14) (N := some 94) #[true, true, true, true, true, true, true, true, true, true, true, true, true, true, true, false] rfl rfl (one_of HT_.out (by kernel_rfl)) (by decide) (fun K hK => ?_)
                  refine Kd.R_append_rows_step k32 (w0 := w) w.heap.size (by rfl) (.tmp 90) (.tmp 93) 22 32 (.agg #[(.string ⟨#[]⟩), (.string ⟨#[]⟩)]) 32 rfl Try.underlying22 info32 rfl (by decide) (by omega) v151 y150 y153 _ _ _ (fun k_ => some k_ ≠ (.slice Ao61 x7_2.length co61 : Value).ownBlock ∧ some k_ ≠ (.slice Ao73 y147.length co73 : Value).ownBlock) (fun _ => False) rfl rfl ?aO ?aR (fun _ _ h => h) (fun _ h => h.elim) ?aF ?aB ?aS ?aL ?_
                  (case aR => repeat (first | exact (show Kd.C k32 _ A65 y153.length y153 from by rw [Ny153.out, KA65.out]; exact Kd.C_drop (m := (x9_3 : Int).toNat) (c := co61) ((Kd.R_reads' Gb.out).2.2) KL65.out ((Kd.R_reads' Gb.out).2.1)) | (with_reducible refine Kd.C_alloc ?_ _) | (with_reducible refine Kd.C_drewN ?_ _) | (with_reducible refine Kd.C_drew ?_)))
                  (case aB => exact (by repeat (first | (with_reducible first | exact HB.out | apply pA' | apply pN' | apply pD' | refine pS' ?_ Gc.out) | exact HB.out)))
                  (case aF => exact (fun k_ hk => ⟨Kd.fresh' (Kd.R_lt (by (with_reducible repeat (first | apply rA' | apply rN' | apply rD')); exact Gb.out)) k_ hk, Kd.fresh' (Kd.R_lt (by (with_reducible repeat (first | apply rA' | apply rN' | apply rD')); exact HO149.out)) k_ hk⟩))
                  (case aO => exact (by (with_reducible repeat (first | apply rA' | apply rN' | apply rD')); exact HO152.out))
                  (case aS => exact (pz' (by repeat (first | (with_reducible first | exact HB.out | apply pA' | apply pN' | apply pD' | refine pS' ?_ Gc.out) | exact HB.out))))
                  (case aL => have := LMc59.out; omega)
                  intro v158 w74 ho hb hg hat
                  rw [← Ny157.out] at ho
                  have n0_ := am' (Kd.R_after (ok := (fun k_ => some k_ ≠ (.slice Ao73 y147.length co73 : Value).ownBlock)) (by (with_reducible repeat (first | apply rA' | apply rN' | apply rD')); exact Gb.out) hg hat)
                  have n1_ := am' (bG' (g := Gd) (o := .cells #[.string x102000_2, .slice none 0 0] 25 (0, 0)) (by (with_reducible repeat (first | refine bN' ?_ _ | refine bD' ?_ | refine bA' ?_ _)); exact Ga.out) hg (Kd.R_ne HO152.out Ga.out (by decide)))
                  have n2_ := am' (Kd.R_after (ok := (fun k_ => some k_ ≠ (.slice Ao61 x7_2.length co61 : Value).ownBlock)) (by (with_reducible repeat (first | apply rA' | apply rN' | apply rD')); exact HO149.out) hg hat)
                  have n3_ := am' (hb)
                  have n4_ := am' (ho)
                  clear Gb
                  clear Ga
                  clear HO149
                  clear HB
                  clear HO152
                  have Gb := n0_
                  have Ga := n1_
                  have HO149 := n2_
                  have HB := n3_
                  have HO159 := n4_
                  clear n0_ n1_ n2_ n3_ n4_
                  clear ho hb hg hat
                  refine hK.out _ _ ⟨((HB.out.cell (World.block_lt_of_cell? w _ hw146_0)).trans hw146_0), ((HB.out.cell (World.block_lt_of_cell? w _ hw146_1)).trans hw146_1)⟩ (fun hHeld => ?_)
                  clear hK K
                  refine norm_ (a' := ?_) ?_ ?_
                  rotate_left
                  ·show Act.put _ (some 94) _ = _
                   simp only [Act.put, sa', sz', ss', i64_w, i32_w]
                   rfl
                  refine pure_ (i := 15) (N := some 7) (v := ?_) (a' := ?_) #[true, true, true, true, true, true, true, true, true, true, true, true, true, true, true, true] rfl rfl (any_of HT_.out (by kernel_rfl)) (fun _ _ _ h => h) (Or.inl ⟨by rfl, ?_⟩) ?_ ?_
                  rotate_left
                  ·intro w'
                   go_simp
                   with_reducible rfl
                  rotate_left
                  ·simp only [Act.put, sa', sz', ss', i64_w, i32_w]
                   rfl
                  refine done_ (done_of HT_.out (by kernel_rfl)) ?_
                  try go_wp2
                  go_roundg k3
                  case measure => have := HK1.out; have := HK2.out; have := HK3.out; omega
                  case rel => exact ⟨(y157), (wrap64 (x39_2 + 1)), (x102000_2), (by first | rfl | (simp; done) | (simp [*]; done)), H', ⟨by have := HK1.out; have := HK2.out; have := HK3.out; omega⟩, ⟨by (with_reducible repeat (first | apply rA' | apply rN' | apply rD')); exact rM' HO159.out (fun _ hk => trivial)⟩, ⟨by (with_reducible repeat (first | refine bN' ?_ _ | refine bD' ?_ | refine bA' ?_ _)); exact Ga.out⟩, ⟨by repeat (first | (with_reducible first | exact HB.out | apply pA' | apply pN' | apply pD' | refine pS' ?_ Gc.out) | exact HB.out)⟩⟩
                 ·rw [if_neg c59] at H
                  exact absurd H (by simp)
                ·rw [if_neg c56] at H
                 exact absurd H (by simp)
               ·rw [if_neg c55] at H
                exact absurd H (by simp)
              ·rw [if_neg c54] at H
               exact absurd H (by simp)
             ·rw [if_neg c53] at H
              exact absurd H (by simp)
            ·rw [if_neg c52] at H
             exact absurd H (by simp)
           ·rw [if_neg c51] at H
            exact absurd H (by simp)
       ·rw [if_neg c15] at H
        have c15b0 : decide (x39_2 < (l1.length : Int)) = false := decide_eq_false c15
        clear c15
        by_cases c75 : (x7_2.length : Int) > 6
        ·rw [if_pos c75] at H
         have c75b0 : decide (6 < (x7_2.length : Int)) = true := decide_eq_true c75
         have c75b1 : decide (6 < x7_2.length) = true := decide_eq_true (by omega)
         clear c75
         simp only [Option.some.injEq, Prod.mk.injEq] at H
         obtain ⟨rfl, rfl, rfl⟩ := H
         obtain ⟨Ao76, co76, eo76⟩ := Kd.R_slice Gb.out
         subst eo76
         have hcz77_0 : wr.cell? ⟨Gd, 0, none⟩ = some (.string x102000_2) := (bC' Ga.out 0).trans rfl
         have hcz77_1 : wr.cell? ⟨Gd, 1, none⟩ = some (.slice none 0 0) := (bC' Ga.out 1).trans rfl
         have hfz77_0 := blk_frozen Ga.out 0
         have hfz77_1 := blk_frozen Ga.out 1
         go_wp2
         refine bodyPost_ret (results_ct rfl _ _ Gd 25 #[.string (⟨#[]⟩ : ByteArray), .slice none 0 0] (0, 0) _ rfl (by (with_reducible repeat (first | refine bN' ?_ _ | refine bD' ?_ | refine bA' ?_ _)); refine blk_put (cs := #[.string (⟨#[]⟩ : ByteArray), .slice none 0 0]) ?_ 1 _ rfl; (with_reducible repeat (first | refine bN' ?_ _ | refine bD' ?_ | refine bA' ?_ _)); refine blk_put (cs := #[.string x102000_2, .slice none 0 0]) ?_ 0 _ rfl; (with_reducible repeat (first | refine bN' ?_ _ | refine bD' ?_ | refine bA' ?_ _)); exact Ga.out) Try.underlying25 rfl (by kernel_rfl)) rfl ?_
         exact ⟨_, by first | rfl | (simp [errW_none, errW_some] <;> rfl) | (simp [*, errW_none, errW_some] <;> rfl), by first | exact Kd.R_nil _ _ _ _ _ | exact Kd.N_nil _ _ _ _ _ | exact Kd.V_nil _ _ _ _ _ | exact Kd.Q_nil _ _ _ _ _ | exact Kd.S_nil _ _ _ _ _, by repeat (first | (with_reducible first | exact HB.out | apply pA' | apply pN' | apply pD' | refine pS' ?_ Gc.out) | exact HB.out)⟩
        ·rw [if_neg c75] at H
         have c75b0 : decide (6 < (x7_2.length : Int)) = false := decide_eq_false c75
         have c75b1 : decide (6 < x7_2.length) = false := decide_eq_false (by omega)
         clear c75
         simp only [Option.some.injEq, Prod.mk.injEq] at H
         obtain ⟨rfl, rfl, rfl⟩ := H
         obtain ⟨Ao78, co78, eo78⟩ := Kd.R_slice Gb.out
         subst eo78
         have hcz79_0 : wr.cell? ⟨Gd, 0, none⟩ = some (.string x102000_2) := (bC' Ga.out 0).trans rfl
         have hcz79_1 : wr.cell? ⟨Gd, 1, none⟩ = some (.slice none 0 0) := (bC' Ga.out 1).trans rfl
         have hfz79_0 := blk_frozen Ga.out 0
         have hfz79_1 := blk_frozen Ga.out 1
         go_wp2
         refine bodyPost_ret (results_ct rfl _ _ Gd 25 #[.string a0, .slice Ao78 x7_2.length co78] (0, 0) _ rfl (by (with_reducible repeat (first | refine bN' ?_ _ | refine bD' ?_ | refine bA' ?_ _)); refine blk_put (cs := #[.string a0, .slice none 0 0]) ?_ 1 _ rfl; (with_reducible repeat (first | refine bN' ?_ _ | refine bD' ?_ | refine bA' ?_ _)); refine blk_put (cs := #[.string x102000_2, .slice none 0 0]) ?_ 0 _ rfl; (with_reducible repeat (first | refine bN' ?_ _ | refine bD' ?_ | refine bA' ?_ _)); exact Ga.out) Try.underlying25 rfl (by kernel_rfl)) rfl ?_
         exact ⟨_, by first | rfl | (simp [errW_none, errW_some] <;> rfl) | (simp [*, errW_none, errW_some] <;> rfl), by (with_reducible repeat (first | apply rA' | apply rN' | apply rD')); exact rM' (rF' (p := ⟨Gd, 1, none⟩) (rF' (p := ⟨Gd, 0, none⟩) (rT' Gb.out Ga.out (by decide)) (fun _ hk => hk.2) (.string a0)) (fun _ hk => hk.2) (.slice Ao78 x7_2.length co78)) (fun _ hk => trivial), by repeat (first | (with_reducible first | exact HB.out | apply pA' | apply pN' | apply pD' | refine pS' ?_ Gc.out) | exact HB.out)⟩
 ·replace c4 := Bool.eq_false_iff.mpr c4
  subst c4
  have H1 : (some ((⟨#[]⟩ : ByteArray), ([] : List (S32)), 7)) = some (r1, r2, r3) := by rw [if_neg (show ¬ (false = true) by decide)] at H; exact H
  clear H
  have H := H1
  clear H1
  simp only [Option.some.injEq, Prod.mk.injEq] at H
  obtain ⟨rfl, rfl, rfl⟩ := H
  go_enter Try.func7, Try.ntmps7
  go_wp2_with (first | ((with_reducible refine gate_dst (N := 4) rfl ?_); refine box_event ?hg (N := 4) ?hd (cs := #[.string (⟨#[]⟩ : ByteArray), .slice none 0 0]) (t := 25) ?hr ?_; (case hd => rfl); (case hg => rfl); (case hr => first | (go_simp; done) | (go_simp; rfl)); intro Gd hg w80 hbox hb; have n0_ := am' (below_step (by repeat (first | (with_reducible first | exact HB.out | apply pA' | apply pN' | apply pD') | exact HB.out)) hb); have n1_ := am' (hbox); have n2_ := am' ((by rw [hg]; exact (pz' (by repeat (first | (with_reducible first | exact HB.out | apply pA' | apply pN' | apply pD') | exact HB.out))) : w.heap.size ≤ Gd)); have n3_ := am' ((by rw [hg]; exact (pz' (by repeat (first | (with_reducible first | exact HB.out | apply pA' | apply pN' | apply pD') | exact HB.out))) : w.heap.size ≤ Gd)); clear HB; have HB := n0_; have Ga := n1_; have GW101 := n2_; have Gc := n3_; clear n0_ n1_ n2_ n3_; clear hb hbox hg) | ((with_reducible refine gate_callee (f := 21) rfl ?_); refine goesL_ (some 11) rfl rfl Try.func21 (by kernel_rfl) rfl #[.string a0] rfl (by (try simp only [List.map_toArray, List.map_cons, List.map_nil]); first | done | rfl | (simp only [List.length_drop, List.length_take]; rfl)) ?_; (with_reducible refine (tidemillref02_Name.calls k a0 false _ A3.out).mono ?_); rintro e w' ⟨rfl, ⟨nd, rfl⟩⟩; refine ⟨_, rfl, ?_⟩; (try (rw [drewN_self w80]; generalize hq_ : World.drewN w80 _ = w80; have n0_ : Aside0 (w80.heap[Gd]? = some (.cells #[.string (⟨#[]⟩ : ByteArray), .slice none 0 0] 25 (0, 0))) := ⟨by rw [← hq_]; exact (by (with_reducible repeat (first | refine bN' ?_ _ | refine bD' ?_ | refine bA' ?_ _)); exact Ga.out)⟩; have n1_ : Aside0 (Below w.heap.size w w80) := ⟨by rw [← hq_]; exact (by repeat (first | (with_reducible first | exact HB.out | apply pA' | apply pN' | apply pD' | refine pS' ?_ Gc.out) | exact HB.out))⟩; clear Ga HB hq_; have Ga := n0_; have HB := n1_; clear n0_ n1_)); have hcz81_0 : w80.cell? ⟨Gd, 0, none⟩ = some (.string (⟨#[]⟩ : ByteArray)) := (bC' Ga.out 0).trans rfl; have hcz81_1 : w80.cell? ⟨Gd, 1, none⟩ = some (.slice none 0 0) := (bC' Ga.out 1).trans rfl; have hfz81_0 := blk_frozen Ga.out 0; have hfz81_1 := blk_frozen Ga.out 1))
  refine bodyPost_ret (results_ct rfl _ _ Gd 25 #[.string (⟨#[]⟩ : ByteArray), .slice none 0 0] (0, 0) _ rfl (by (with_reducible repeat (first | refine bN' ?_ _ | refine bD' ?_ | refine bA' ?_ _)); refine blk_put (cs := #[.string (⟨#[]⟩ : ByteArray), .slice none 0 0]) ?_ 1 _ rfl; (with_reducible repeat (first | refine bN' ?_ _ | refine bD' ?_ | refine bA' ?_ _)); refine blk_put (cs := #[.string (⟨#[]⟩ : ByteArray), .slice none 0 0]) ?_ 0 _ rfl; (with_reducible repeat (first | refine bN' ?_ _ | refine bD' ?_ | refine bA' ?_ _)); exact Ga.out) Try.underlying25 rfl (by kernel_rfl)) rfl ?_
  exact ⟨_, by first | rfl | (simp [errW_none, errW_some] <;> rfl) | (simp [*, errW_none, errW_some] <;> rfl), by first | exact Kd.R_nil _ _ _ _ _ | exact Kd.N_nil _ _ _ _ _ | exact Kd.V_nil _ _ _ _ _ | exact Kd.Q_nil _ _ _ _ _ | exact Kd.S_nil _ _ _ _ _, by repeat (first | (with_reducible first | exact HB.out | apply pA' | apply pN' | apply pD' | refine pS' ?_ Gc.out) | exact HB.out)⟩

end Go.Proofs.Ytiddemgeehcjpaa.PM
