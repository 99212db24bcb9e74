/- A part of the proof: words, contracts and walks that the other texts of this folder use. -/
-- laid by wip/xprint.py (a program of this session) over the kit's print; Lean checks it
import Derived.Test.YtkclojakmhipnaaPCx0
namespace Go.Proofs.Ytkclojakmhipnaa.PC
open Go.RowKit Go.Proofs.Ytkclojakmhipnaa.PA Go.Proofs.Ytkclojakmhipnaa.H Go.Proofs.YtkclojakmhipnaaW.PrintWords Go.Proofs.YtkclojakmhipnaaW.PrintLast Go.Proofs.YtkclojakmhipnaaW.PrintMore
attribute [local go_sem] max2_int min2_int max_two min_two max_three min_three max_four min_four   -- for this text's walks alone
set_option linter.unusedVariables false
set_option linter.unusedSimpArgs false

/-! ### tidemilllaw02_awake: function 7 -/
def tidemilllaw02_awake.f  : Option (Bool) := (tag_Make.f (⟨#[114, 101, 113, 115]⟩ : ByteArray) (([(⟨(⟨#[122, 111, 110, 101]⟩ : ByteArray), (⟨#[98]⟩ : ByteArray)⟩ : S33), (⟨(⟨#[99, 111, 100, 101]⟩ : ByteArray), (⟨#[50, 48, 48]⟩ : ByteArray)⟩ : S33)] : List (S33)))).bind fun bt109 => (if bt109.2.2 = 0 then ((tag_Text.f bt109.1 bt109.2.1).bind fun t115 => (some (t115.toList == ([114, 101, 113, 115, 123, 99, 111, 100, 101, 61, 50, 48, 48, 44, 122, 111, 110, 101, 61, 98, 125] : List UInt8)))) else (some false))
set_option maxHeartbeats 8000000 in
set_option maxRecDepth 100000 in
theorem tidemilllaw02_awake.calls  (r : Bool) (w : World) (h : tidemilllaw02_awake.f  = some r) :
    Calls Try.prog 7 #[] w fun e w' => e = .returned (.bool r) ∧ Below w.heap.size w w' := by
  have hu33 := Try.underlying33
  have hu26 := Try.underlying26
  have HB := Aside0.mk (Below.refl w.heap.size w)
  have H : ((tag_Make.f (⟨#[114, 101, 113, 115]⟩ : ByteArray) (([(⟨(⟨#[122, 111, 110, 101]⟩ : ByteArray), (⟨#[98]⟩ : ByteArray)⟩ : S33), (⟨(⟨#[99, 111, 100, 101]⟩ : ByteArray), (⟨#[50, 48, 48]⟩ : ByteArray)⟩ : S33)] : List (S33)))).bind fun bt109 => (if bt109.2.2 = 0 then ((tag_Text.f bt109.1 bt109.2.1).bind fun t115 => (some (t115.toList == ([114, 101, 113, 115, 123, 99, 111, 100, 101, 61, 50, 48, 48, 44, 122, 111, 110, 101, 61, 98, 125] : List UInt8)))) else (some false))) = some r := h
  clear h
  obtain ⟨y106, hy106⟩ : ∃ y_ : List (S33), y_ = (([(⟨(⟨#[122, 111, 110, 101]⟩ : ByteArray), (⟨#[98]⟩ : ByteArray)⟩ : S33), (⟨(⟨#[99, 111, 100, 101]⟩ : ByteArray), (⟨#[50, 48, 48]⟩ : ByteArray)⟩ : S33)] : List (S33))) := ⟨_, rfl⟩
  replace H : ((tag_Make.f (⟨#[114, 101, 113, 115]⟩ : ByteArray) y106).bind fun bt109 => (if bt109.2.2 = 0 then ((tag_Text.f bt109.1 bt109.2.1).bind fun t115 => (some (t115.toList == ([114, 101, 113, 115, 123, 99, 111, 100, 101, 61, 50, 48, 48, 44, 122, 111, 110, 101, 61, 98, 125] : List UInt8)))) else (some false))) = some r := by first | (rw [hy106]; with_reducible exact H) | (have H2_ := (Option.bind_some _ _).symm.trans H; rw [hy106]; with_reducible exact H2_) | (have H2_ := (Option.bind_some _ _).symm.trans H; with_reducible exact H2_) | with_reducible exact H | (rw [hy106]; exact H) | exact H
  have Ny106 := Aside0.mk hy106
  clear hy106
  replace H := Option.bind_eq_some_iff.mp H
  obtain ⟨⟨t109, t110, t113⟩, A10, H⟩ := H
  replace H : (if t113 = 0 then ((tag_Text.f t109 t110).bind fun t115 => (some (t115.toList == ([114, 101, 113, 115, 123, 99, 111, 100, 101, 61, 50, 48, 48, 44, 122, 111, 110, 101, 61, 98, 125] : List UInt8)))) else (some false)) = some r := H
  have A1 := Aside0.mk A10
  clear A10
  by_cases c2 : t113 = 0
  · rw [if_pos c2] at H
    have c2b0 : (t113 == 0) = true := beq_iff_eq.mpr c2
    have c2b1 : (t113 != 0) = false := bne_eq_false_iff_eq.mpr c2
    clear c2
    replace H := Option.bind_eq_some_iff.mp H
    obtain ⟨t115, A30, H⟩ := H
    replace H : (some (t115.toList == ([114, 101, 113, 115, 123, 99, 111, 100, 101, 61, 50, 48, 48, 44, 122, 111, 110, 101, 61, 98, 125] : List UInt8))) = some r := H
    have A3 := Aside0.mk A30
    clear A30
    obtain rfl := Option.some.inj H
    go_enter Try.func7, Try.ntmps7
    go_wp2_with (first | ((with_reducible refine gate_dst (N := 6) rfl ?_); refine Kd.R_lit k33 _ 33 ?hg (N := 6) ?hd (xs := ([(⟨(⟨#[122, 111, 110, 101]⟩ : ByteArray), (⟨#[98]⟩ : ByteArray)⟩ : S33), (⟨(⟨#[99, 111, 100, 101]⟩ : ByteArray), (⟨#[50, 48, 48]⟩ : ByteArray)⟩ : S33)] : List (S33))) (inner := [.string (⟨#[122, 111, 110, 101]⟩ : ByteArray), .string (⟨#[98]⟩ : ByteArray), .string (⟨#[99, 111, 100, 101]⟩ : ByteArray), .string (⟨#[50, 48, 48]⟩ : ByteArray)]) (ok := fun _ => True) (okp := fun _ => True) ?hr ?hp (fun _ hk => hk) trivial (Below.refl _ _) (Nat.le_refl _) (by simp) ?_; (case hd => rfl); (case hg => rfl); (case hr => first | (go_simp; done) | (go_simp; rfl)); (case hp => exact (Reps.c2 (show Kd.M k33 _ _ _ (⟨(⟨#[122, 111, 110, 101]⟩ : ByteArray), (⟨#[98]⟩ : ByteArray)⟩ : S33) [.string (⟨#[122, 111, 110, 101]⟩ : ByteArray), .string (⟨#[98]⟩ : ByteArray)] from (k33_mkM _ _ _ (⟨(⟨#[122, 111, 110, 101]⟩ : ByteArray), (⟨#[98]⟩ : ByteArray)⟩ : S33) )) (Reps.c2 (show Kd.M k33 _ _ _ (⟨(⟨#[99, 111, 100, 101]⟩ : ByteArray), (⟨#[50, 48, 48]⟩ : ByteArray)⟩ : S33) [.string (⟨#[99, 111, 100, 101]⟩ : ByteArray), .string (⟨#[50, 48, 48]⟩ : ByteArray)] from (k33_mkM _ _ _ (⟨(⟨#[99, 111, 100, 101]⟩ : ByteArray), (⟨#[50, 48, 48]⟩ : ByteArray)⟩ : S33) )) (Reps.none _ _)))); intro v107 w4 ho5 hb hg_ hnew_; clear hg_ hnew_; (first | rw [← Ny106.out] at ho5 | (simp only [Int.reduceToNat] at ho5; rw [← Ny106.out] at ho5)); have n0_ := Aside0.mk (Kd.R_lower ho5 (below_size (by repeat (first | (with_reducible first | exact HB.out | apply below_alloc | apply pw_below_drewN | apply below_drew1) | exact HB.out)))); have n1_ := Aside0.mk (below_step (by repeat (first | (with_reducible first | exact HB.out | apply below_alloc | apply pw_below_drewN | apply below_drew1) | exact HB.out)) hb); clear HB; have HO108 := n0_; have HB := n1_; clear n0_ n1_; clear hb ho5; obtain ⟨Ao6, co6, eo6⟩ := Kd.R_slice HO108.out; subst eo6) | ((with_reducible refine gate_callee (f := 12) rfl ?_); refine goesL_ (some 7) rfl rfl Try.func12 (by kernel_rfl) rfl #[.string (⟨#[114, 101, 113, 115]⟩ : ByteArray), .slice Ao6 y106.length co6] rfl (by (try simp only [List.map_toArray, List.map_cons, List.map_nil]); first | done | rfl | (simp only [List.length_drop, List.length_take]; rfl)) ?_; (with_reducible refine (tag_Make.calls (⟨#[114, 101, 113, 115]⟩ : ByteArray) _ _ y106 t109 t110 t113 _ ?side1 ?side2 A1.out).mono ?_); (case side1 => repeat (first | exact (Kd.R_reads' HO108.out).2.2 | (with_reducible refine Kd.C_alloc ?_ _) | (with_reducible refine Kd.C_drewN ?_ _) | (with_reducible refine Kd.C_drew ?_))); (case side2 => exact (Kd.R_reads' HO108.out).2.1); rintro e w7 ⟨v111, rfl, ho0, hb⟩; refine ⟨_, rfl, ?_⟩; have n0_ := Aside0.mk (Kd.R_elder' (by (with_reducible repeat (first | apply Kd.R_alloc | apply Kd.R_drewN | apply Kd.R_drew)); exact HO108.out) (Kd.R_base ho0) hb); have n1_ := Aside0.mk (Kd.R_lower (Kd.R_new' ho0 (Kd.R_lt (by (with_reducible repeat (first | apply Kd.R_alloc | apply Kd.R_drewN | apply Kd.R_drew)); exact HO108.out))) (below_size (by repeat (first | (with_reducible first | exact HB.out | apply below_alloc | apply pw_below_drewN | apply below_drew1) | exact HB.out)))); have n2_ := Aside0.mk (below_step (by repeat (first | (with_reducible first | exact HB.out | apply below_alloc | apply pw_below_drewN | apply below_drew1) | exact HB.out)) hb); clear HO108; clear HB; have HO108 := n0_; have HO112 := n1_; have HB := n2_; clear n0_ n1_ n2_; (try clear hb); (try clear hb2); (try clear hk); (try clear hi); (try clear ho0)) | ((with_reducible refine gate_dst (N := 1) rfl ?_); refine box_event ?hg (N := 1) ?hd (cs := #[.string (⟨#[]⟩ : ByteArray), .slice none 0 0]) (t := 26) ?hr ?_; (case hd => rfl); (case hg => rfl); (case hr => first | (go_simp; done) | (go_simp; rfl)); intro gb114 hg w8 hbox hb; have n0_ := Aside0.mk (Kd.R_below (by (with_reducible repeat (first | apply Kd.R_alloc | apply Kd.R_drewN | apply Kd.R_drew)); exact HO108.out) hb); have n1_ := Aside0.mk (Kd.R_below (by (with_reducible repeat (first | apply Kd.R_alloc | apply Kd.R_drewN | apply Kd.R_drew)); exact HO112.out) hb); have n2_ := Aside0.mk (below_step (by repeat (first | (with_reducible first | exact HB.out | apply below_alloc | apply pw_below_drewN | apply below_drew1) | exact HB.out)) hb); have n3_ := Aside0.mk (hbox); have n4_ := Aside0.mk ((by rw [hg]; exact (below_size (by repeat (first | (with_reducible first | exact HB.out | apply below_alloc | apply pw_below_drewN | apply below_drew1) | exact HB.out))) : w.heap.size ≤ gb114)); have n5_ := Aside0.mk ((by rw [hg]; exact (below_size (by repeat (first | (with_reducible first | exact HB.out | apply below_alloc | apply pw_below_drewN | apply below_drew1) | exact HB.out))) : w.heap.size ≤ gb114)); clear HO108; clear HO112; clear HB; have HO108 := n0_; have HO112 := n1_; have HB := n2_; have BK114 := n3_; have GW114 := n4_; have GE114 := n5_; clear n0_ n1_ n2_ n3_ n4_ n5_; clear hb hbox hg; have hcz9_0 : w8.cell? ⟨gb114, 0, none⟩ = some (.string (⟨#[]⟩ : ByteArray)) := (blk_cell BK114.out 0).trans rfl; have hcz9_1 : w8.cell? ⟨gb114, 1, none⟩ = some (.slice none 0 0) := (blk_cell BK114.out 1).trans rfl; have hfz9_0 := blk_frozen BK114.out 0; have hfz9_1 := blk_frozen BK114.out 1; obtain ⟨Ao10, co10, eo10⟩ := Kd.R_slice HO112.out; subst eo10) | (go_at_call 23; (with_reducible refine (tag_Text.calls t109 _ _ t110 t115 _ ?side1 ?side2 A3.out).mono ?_); (case side1 => refine (Kd.R_reads' (e := 33) (base := w.heap.size) (ok := fun k_ => (True ∧ some k_ ≠ (.slice Ao6 y106.length co6 : Value).ownBlock)) (n := t110.length) (c := co10) ?_).2.2; exact (by (with_reducible repeat (first | apply Kd.R_alloc | apply Kd.R_drewN | apply Kd.R_drew)); exact (Kd.R_mono (Kd.R_far (p := ⟨gb114, 1, none⟩) (Kd.R_far (p := ⟨gb114, 0, none⟩) (Kd.R_types HO112.out BK114.out (by decide)) (fun _ hk => hk.2) (.string t109)) (fun _ hk => hk.2) (.slice Ao10 t110.length co10)) (fun _ h_ => h_.1)))); (case side2 => exact (Kd.R_reads' HO112.out).2.1); rintro e w11 ⟨rfl, hb⟩; have n0_ := Aside0.mk (Kd.R_below (by (with_reducible repeat (first | apply Kd.R_alloc | apply Kd.R_drewN | apply Kd.R_drew)); exact (Kd.R_mono (Kd.R_far (p := ⟨gb114, 1, none⟩) (Kd.R_far (p := ⟨gb114, 0, none⟩) (Kd.R_types HO108.out BK114.out (by decide)) (fun _ hk => hk.2) (.string t109)) (fun _ hk => hk.2) (.slice Ao10 t110.length co10)) (fun _ h_ => h_.1))) hb); have n1_ := Aside0.mk (Kd.R_below (by (with_reducible repeat (first | apply Kd.R_alloc | apply Kd.R_drewN | apply Kd.R_drew)); exact (Kd.R_mono (Kd.R_far (p := ⟨gb114, 1, none⟩) (Kd.R_far (p := ⟨gb114, 0, none⟩) (Kd.R_types HO112.out BK114.out (by decide)) (fun _ hk => hk.2) (.string t109)) (fun _ hk => hk.2) (.slice Ao10 t110.length co10)) (fun _ h_ => h_.1))) hb); have n2_ := Aside0.mk (blk_below (g := gb114) (o := .cells #[.string t109, .slice Ao10 t110.length co10] 26 (0, 0)) (by (with_reducible repeat (first | refine blk_drewN ?_ _ | refine blk_drew ?_ | refine blk_alloc ?_ _)); refine blk_put (cs := #[.string t109, .slice none 0 0]) ?_ 1 _ rfl; (with_reducible repeat (first | refine blk_drewN ?_ _ | refine blk_drew ?_ | refine blk_alloc ?_ _)); refine blk_put (cs := #[.string (⟨#[]⟩ : ByteArray), .slice none 0 0]) ?_ 0 _ rfl; (with_reducible repeat (first | refine blk_drewN ?_ _ | refine blk_drew ?_ | refine blk_alloc ?_ _)); exact BK114.out) hb); have n3_ := Aside0.mk (below_step (by repeat (first | (with_reducible first | exact HB.out | apply below_alloc | apply pw_below_drewN | apply below_drew1 | refine below_set ?_ GE114.out) | exact HB.out)) hb); clear HO108; clear HO112; clear BK114; clear HB; have HO108 := n0_; have HO112 := n1_; have BK114 := n2_; have HB := n3_; clear n0_ n1_ n2_ n3_; (try clear hb); (try clear hb2); (try clear hk); (try clear hi)))
    go_ret
    exact ⟨by first | rfl | (simp [errW_none, errW_some] <;> rfl) | (simp [*, errW_none, errW_some] <;> rfl), by repeat (first | (with_reducible first | exact HB.out | apply below_alloc | apply pw_below_drewN | apply below_drew1 | refine below_set ?_ GE114.out) | exact HB.out)⟩
  · rw [if_neg c2] at H
    have c2b0 : (t113 == 0) = false := beq_eq_false_iff_ne.mpr c2
    have c2b1 : (t113 != 0) = true := bne_iff_ne.mpr c2
    obtain rfl := Option.some.inj H
    go_enter Try.func7, Try.ntmps7
    go_wp2_with (first | ((with_reducible refine gate_dst (N := 6) rfl ?_); refine Kd.R_lit k33 _ 33 ?hg (N := 6) ?hd (xs := ([(⟨(⟨#[122, 111, 110, 101]⟩ : ByteArray), (⟨#[98]⟩ : ByteArray)⟩ : S33), (⟨(⟨#[99, 111, 100, 101]⟩ : ByteArray), (⟨#[50, 48, 48]⟩ : ByteArray)⟩ : S33)] : List (S33))) (inner := [.string (⟨#[122, 111, 110, 101]⟩ : ByteArray), .string (⟨#[98]⟩ : ByteArray), .string (⟨#[99, 111, 100, 101]⟩ : ByteArray), .string (⟨#[50, 48, 48]⟩ : ByteArray)]) (ok := fun _ => True) (okp := fun _ => True) ?hr ?hp (fun _ hk => hk) trivial (Below.refl _ _) (Nat.le_refl _) (by simp) ?_; (case hd => rfl); (case hg => rfl); (case hr => first | (go_simp; done) | (go_simp; rfl)); (case hp => exact (Reps.c2 (show Kd.M k33 _ _ _ (⟨(⟨#[122, 111, 110, 101]⟩ : ByteArray), (⟨#[98]⟩ : ByteArray)⟩ : S33) [.string (⟨#[122, 111, 110, 101]⟩ : ByteArray), .string (⟨#[98]⟩ : ByteArray)] from (k33_mkM _ _ _ (⟨(⟨#[122, 111, 110, 101]⟩ : ByteArray), (⟨#[98]⟩ : ByteArray)⟩ : S33) )) (Reps.c2 (show Kd.M k33 _ _ _ (⟨(⟨#[99, 111, 100, 101]⟩ : ByteArray), (⟨#[50, 48, 48]⟩ : ByteArray)⟩ : S33) [.string (⟨#[99, 111, 100, 101]⟩ : ByteArray), .string (⟨#[50, 48, 48]⟩ : ByteArray)] from (k33_mkM _ _ _ (⟨(⟨#[99, 111, 100, 101]⟩ : ByteArray), (⟨#[50, 48, 48]⟩ : ByteArray)⟩ : S33) )) (Reps.none _ _)))); intro v107 w12 ho13 hb hg_ hnew_; clear hg_ hnew_; (first | rw [← Ny106.out] at ho13 | (simp only [Int.reduceToNat] at ho13; rw [← Ny106.out] at ho13)); have n0_ := Aside0.mk (Kd.R_lower ho13 (below_size (by repeat (first | (with_reducible first | exact HB.out | apply below_alloc | apply pw_below_drewN | apply below_drew1) | exact HB.out)))); have n1_ := Aside0.mk (below_step (by repeat (first | (with_reducible first | exact HB.out | apply below_alloc | apply pw_below_drewN | apply below_drew1) | exact HB.out)) hb); clear HB; have HO108 := n0_; have HB := n1_; clear n0_ n1_; clear hb ho13; obtain ⟨Ao14, co14, eo14⟩ := Kd.R_slice HO108.out; subst eo14) | ((with_reducible refine gate_callee (f := 12) rfl ?_); refine goesL_ (some 7) rfl rfl Try.func12 (by kernel_rfl) rfl #[.string (⟨#[114, 101, 113, 115]⟩ : ByteArray), .slice Ao14 y106.length co14] rfl (by (try simp only [List.map_toArray, List.map_cons, List.map_nil]); first | done | rfl | (simp only [List.length_drop, List.length_take]; rfl)) ?_; (with_reducible refine (tag_Make.calls (⟨#[114, 101, 113, 115]⟩ : ByteArray) _ _ y106 t109 t110 t113 _ ?side1 ?side2 A1.out).mono ?_); (case side1 => repeat (first | exact (Kd.R_reads' HO108.out).2.2 | (with_reducible refine Kd.C_alloc ?_ _) | (with_reducible refine Kd.C_drewN ?_ _) | (with_reducible refine Kd.C_drew ?_))); (case side2 => exact (Kd.R_reads' HO108.out).2.1); rintro e w15 ⟨v111, rfl, ho0, hb⟩; refine ⟨_, rfl, ?_⟩; have n0_ := Aside0.mk (Kd.R_elder' (by (with_reducible repeat (first | apply Kd.R_alloc | apply Kd.R_drewN | apply Kd.R_drew)); exact HO108.out) (Kd.R_base ho0) hb); have n1_ := Aside0.mk (Kd.R_lower (Kd.R_new' ho0 (Kd.R_lt (by (with_reducible repeat (first | apply Kd.R_alloc | apply Kd.R_drewN | apply Kd.R_drew)); exact HO108.out))) (below_size (by repeat (first | (with_reducible first | exact HB.out | apply below_alloc | apply pw_below_drewN | apply below_drew1) | exact HB.out)))); have n2_ := Aside0.mk (below_step (by repeat (first | (with_reducible first | exact HB.out | apply below_alloc | apply pw_below_drewN | apply below_drew1) | exact HB.out)) hb); clear HO108; clear HB; have HO108 := n0_; have HO112 := n1_; have HB := n2_; clear n0_ n1_ n2_; (try clear hb); (try clear hb2); (try clear hk); (try clear hi); (try clear ho0)) | ((with_reducible refine gate_dst (N := 1) rfl ?_); refine box_event ?hg (N := 1) ?hd (cs := #[.string (⟨#[]⟩ : ByteArray), .slice none 0 0]) (t := 26) ?hr ?_; (case hd => rfl); (case hg => rfl); (case hr => first | (go_simp; done) | (go_simp; rfl)); intro gb114 hg w16 hbox hb; have n0_ := Aside0.mk (Kd.R_below (by (with_reducible repeat (first | apply Kd.R_alloc | apply Kd.R_drewN | apply Kd.R_drew)); exact HO108.out) hb); have n1_ := Aside0.mk (Kd.R_below (by (with_reducible repeat (first | apply Kd.R_alloc | apply Kd.R_drewN | apply Kd.R_drew)); exact HO112.out) hb); have n2_ := Aside0.mk (below_step (by repeat (first | (with_reducible first | exact HB.out | apply below_alloc | apply pw_below_drewN | apply below_drew1) | exact HB.out)) hb); have n3_ := Aside0.mk (hbox); have n4_ := Aside0.mk ((by rw [hg]; exact (below_size (by repeat (first | (with_reducible first | exact HB.out | apply below_alloc | apply pw_below_drewN | apply below_drew1) | exact HB.out))) : w.heap.size ≤ gb114)); have n5_ := Aside0.mk ((by rw [hg]; exact (below_size (by repeat (first | (with_reducible first | exact HB.out | apply below_alloc | apply pw_below_drewN | apply below_drew1) | exact HB.out))) : w.heap.size ≤ gb114)); clear HO108; clear HO112; clear HB; have HO108 := n0_; have HO112 := n1_; have HB := n2_; have BK114 := n3_; have GW114 := n4_; have GE114 := n5_; clear n0_ n1_ n2_ n3_ n4_ n5_; clear hb hbox hg; have hcz17_0 : w16.cell? ⟨gb114, 0, none⟩ = some (.string (⟨#[]⟩ : ByteArray)) := (blk_cell BK114.out 0).trans rfl; have hcz17_1 : w16.cell? ⟨gb114, 1, none⟩ = some (.slice none 0 0) := (blk_cell BK114.out 1).trans rfl; have hfz17_0 := blk_frozen BK114.out 0; have hfz17_1 := blk_frozen BK114.out 1; obtain ⟨Ao18, co18, eo18⟩ := Kd.R_slice HO112.out; subst eo18))
    go_ret
    exact ⟨by first | rfl | (simp [errW_none, errW_some] <;> rfl) | (simp [*, errW_none, errW_some] <;> rfl), by repeat (first | (with_reducible first | exact HB.out | apply below_alloc | apply pw_below_drewN | apply below_drew1 | refine below_set ?_ GE114.out) | exact HB.out)⟩

/-! ### tidemilllaw02_TagNames: function 3 -/
def tidemilllaw02_TagNames.f (k : Nat) (a0 : ByteArray) : Option (Bool) := (tidemilllaw02_awake.f).bind fun t116 => (if t116 = true then (if (a0.size : Int) > 1000 then (some true) else ((tag_Name.f k a0).bind fun t117 => ((tidemillref02_Name.f k a0).bind fun t118 => (if (t117 == t118) = true then ((tag_Value.f k a0).bind fun t119 => ((tidemillref02_Value.f k a0).bind fun t120 => (some (t119 == t120)))) else (some false))))) else (some false))
set_option maxHeartbeats 8000000 in
set_option maxRecDepth 100000 in
theorem tidemilllaw02_TagNames.calls (k : Nat) (a0 : ByteArray) (r : Bool) (w : World) (h : tidemilllaw02_TagNames.f k a0 = some r) :
    Calls Try.prog 3 #[.string a0] w fun e w' => e = .returned (.bool r) ∧ Below w.heap.size w w' := by
  have HB := Aside0.mk (Below.refl w.heap.size w)
  have H : ((tidemilllaw02_awake.f).bind fun t116 => (if t116 = true then (if (a0.size : Int) > 1000 then (some true) else ((tag_Name.f k a0).bind fun t117 => ((tidemillref02_Name.f k a0).bind fun t118 => (if (t117 == t118) = true then ((tag_Value.f k a0).bind fun t119 => ((tidemillref02_Value.f k a0).bind fun t120 => (some (t119 == t120)))) else (some false))))) else (some false))) = some r := h
  clear h
  replace H := Option.bind_eq_some_iff.mp H
  obtain ⟨t116, A20, H⟩ := H
  replace H : (if t116 = true then (if (a0.size : Int) > 1000 then (some true) else ((tag_Name.f k a0).bind fun t117 => ((tidemillref02_Name.f k a0).bind fun t118 => (if (t117 == t118) = true then ((tag_Value.f k a0).bind fun t119 => ((tidemillref02_Value.f k a0).bind fun t120 => (some (t119 == t120)))) else (some false))))) else (some false)) = some r := H
  have A2 := Aside0.mk A20
  clear A20
  by_cases c3 : t116 = true
  · subst c3
    have H1 : (if (a0.size : Int) > 1000 then (some true) else ((tag_Name.f k a0).bind fun t117 => ((tidemillref02_Name.f k a0).bind fun t118 => (if (t117 == t118) = true then ((tag_Value.f k a0).bind fun t119 => ((tidemillref02_Value.f k a0).bind fun t120 => (some (t119 == t120)))) else (some false))))) = some r := by rw [if_pos rfl] at H; exact H
    clear H
    have H := H1
    clear H1
    by_cases c4 : (a0.size : Int) > 1000
    · rw [if_pos c4] at H
      have c4b0 : decide (1000 < (a0.size : Int)) = true := decide_eq_true c4
      have c4b1 : decide (1000 < a0.size) = true := decide_eq_true (by omega)
      clear c4
      obtain rfl := Option.some.inj H
      go_enter Try.func3, Try.ntmps3
      go_wp2_with (first | ((with_reducible refine gate_callee (f := 7) rfl ?_); refine goesL_ (some 3) rfl rfl Try.func7 (by kernel_rfl) rfl #[] rfl (by (try simp only [List.map_toArray, List.map_cons, List.map_nil]); first | done | rfl | (simp only [List.length_drop, List.length_take]; rfl)) ?_; (with_reducible refine (tidemilllaw02_awake.calls  true _ A2.out).mono ?_); rintro e w5 ⟨rfl, hb⟩; refine ⟨_, rfl, ?_⟩; have n0_ := Aside0.mk (below_step (by repeat (first | (with_reducible first | exact HB.out | apply below_alloc | apply pw_below_drewN | apply below_drew1) | exact HB.out)) hb); clear HB; have HB := n0_; clear n0_; (try clear hb); (try clear hb2); (try clear hk); (try clear hi)))
      go_ret
      exact ⟨by first | rfl | (simp [errW_none, errW_some] <;> rfl) | (simp [*, errW_none, errW_some] <;> rfl), by repeat (first | (with_reducible first | exact HB.out | apply below_alloc | apply pw_below_drewN | apply below_drew1) | exact HB.out)⟩
    · rw [if_neg c4] at H
      have c4b0 : decide (1000 < (a0.size : Int)) = false := decide_eq_false c4
      have c4b1 : decide (1000 < a0.size) = false := decide_eq_false (by omega)
      clear c4
      replace H := Option.bind_eq_some_iff.mp H
      obtain ⟨t117, A60, H⟩ := H
      replace H : ((tidemillref02_Name.f k a0).bind fun t118 => (if (t117 == t118) = true then ((tag_Value.f k a0).bind fun t119 => ((tidemillref02_Value.f k a0).bind fun t120 => (some (t119 == t120)))) else (some false))) = some r := H
      have A6 := Aside0.mk A60
      clear A60
      replace H := Option.bind_eq_some_iff.mp H
      obtain ⟨t118, A70, H⟩ := H
      replace H : (if (t117 == t118) = true then ((tag_Value.f k a0).bind fun t119 => ((tidemillref02_Value.f k a0).bind fun t120 => (some (t119 == t120)))) else (some false)) = some r := H
      have A7 := Aside0.mk A70
      clear A70
      by_cases c8 : (t117 == t118) = true
      · rw [if_pos c8] at H
        have c8b0 : (t117 == t118) = true := c8
        (try (have c8b1 : decide (t117 = t118) = true := by simpa using c8))
        (try (have c8b2 : (t117 == t118) = true := by simpa using c8))
        clear c8
        replace H := Option.bind_eq_some_iff.mp H
        obtain ⟨t119, A90, H⟩ := H
        replace H : ((tidemillref02_Value.f k a0).bind fun t120 => (some (t119 == t120))) = some r := H
        have A9 := Aside0.mk A90
        clear A90
        replace H := Option.bind_eq_some_iff.mp H
        obtain ⟨t120, A100, H⟩ := H
        replace H : (some (t119 == t120)) = some r := H
        have A10 := Aside0.mk A100
        clear A100
        obtain rfl := Option.some.inj H
        go_enter Try.func3, Try.ntmps3
        go_wp2_with (first | ((with_reducible refine gate_callee (f := 7) rfl ?_); refine goesL_ (some 3) rfl rfl Try.func7 (by kernel_rfl) rfl #[] rfl (by (try simp only [List.map_toArray, List.map_cons, List.map_nil]); first | done | rfl | (simp only [List.length_drop, List.length_take]; rfl)) ?_; (with_reducible refine (tidemilllaw02_awake.calls  true _ A2.out).mono ?_); rintro e w11 ⟨rfl, hb⟩; refine ⟨_, rfl, ?_⟩; have n0_ := Aside0.mk (below_step (by repeat (first | (with_reducible first | exact HB.out | apply below_alloc | apply pw_below_drewN | apply below_drew1) | exact HB.out)) hb); clear HB; have HB := n0_; clear n0_; (try clear hb); (try clear hb2); (try clear hk); (try clear hi)) | (go_at_call 8; (with_reducible refine (tag_Name.calls k a0 t117 _ A6.out).mono ?_); rintro e w' ⟨rfl, ⟨nd, rfl⟩⟩) | (go_at_call 9; (with_reducible refine (tidemillref02_Name.calls k a0 t118 _ A7.out).mono ?_); rintro e w' ⟨rfl, ⟨nd, rfl⟩⟩) | (go_at_call 10; (with_reducible refine (tag_Value.calls k a0 t119 _ A9.out).mono ?_); rintro e w' ⟨rfl, ⟨nd, rfl⟩⟩) | (go_at_call 11; (with_reducible refine (tidemillref02_Value.calls k a0 t120 _ A10.out).mono ?_); rintro e w' ⟨rfl, ⟨nd, rfl⟩⟩))
        go_ret
        exact ⟨by first | rfl | (simp [errW_none, errW_some] <;> rfl) | (simp [*, errW_none, errW_some] <;> rfl), by repeat (first | (with_reducible first | exact HB.out | apply below_alloc | apply pw_below_drewN | apply below_drew1) | exact HB.out)⟩
      · rw [if_neg c8] at H
        have c8b0 : (t117 == t118) = false := by simpa using c8
        (try (have c8b1 : decide (t117 = t118) = false := by simpa using c8))
        (try (have c8b2 : (t117 == t118) = false := by simpa using c8))
        (try (have c8b3 : ¬ (t117 = t118) := by simpa using c8))
        clear c8
        obtain rfl := Option.some.inj H
        go_enter Try.func3, Try.ntmps3
        go_wp2_with (first | ((with_reducible refine gate_callee (f := 7) rfl ?_); refine goesL_ (some 3) rfl rfl Try.func7 (by kernel_rfl) rfl #[] rfl (by (try simp only [List.map_toArray, List.map_cons, List.map_nil]); first | done | rfl | (simp only [List.length_drop, List.length_take]; rfl)) ?_; (with_reducible refine (tidemilllaw02_awake.calls  true _ A2.out).mono ?_); rintro e w12 ⟨rfl, hb⟩; refine ⟨_, rfl, ?_⟩; have n0_ := Aside0.mk (below_step (by repeat (first | (with_reducible first | exact HB.out | apply below_alloc | apply pw_below_drewN | apply below_drew1) | exact HB.out)) hb); clear HB; have HB := n0_; clear n0_; (try clear hb); (try clear hb2); (try clear hk); (try clear hi)) | (go_at_call 8; (with_reducible refine (tag_Name.calls k a0 t117 _ A6.out).mono ?_); rintro e w' ⟨rfl, ⟨nd, rfl⟩⟩) | (go_at_call 9; (with_reducible refine (tidemillref02_Name.calls k a0 t118 _ A7.out).mono ?_); rintro e w' ⟨rfl, ⟨nd, rfl⟩⟩))
        go_ret
        exact ⟨by first | rfl | (simp [errW_none, errW_some] <;> rfl) | (simp [*, errW_none, errW_some] <;> rfl), by repeat (first | (with_reducible first | exact HB.out | apply below_alloc | apply pw_below_drewN | apply below_drew1) | exact HB.out)⟩
  · replace c3 := Bool.eq_false_iff.mpr c3
    subst c3
    have H1 : (some false) = some r := by rw [if_neg (show ¬ (false = true) by decide)] at H; exact H
    clear H
    have H := H1
    clear H1
    obtain rfl := Option.some.inj H
    go_enter Try.func3, Try.ntmps3
    go_wp2_with (first | ((with_reducible refine gate_callee (f := 7) rfl ?_); refine goesL_ (some 3) rfl rfl Try.func7 (by kernel_rfl) rfl #[] rfl (by (try simp only [List.map_toArray, List.map_cons, List.map_nil]); first | done | rfl | (simp only [List.length_drop, List.length_take]; rfl)) ?_; (with_reducible refine (tidemilllaw02_awake.calls  false _ A2.out).mono ?_); rintro e w13 ⟨rfl, hb⟩; refine ⟨_, rfl, ?_⟩; have n0_ := Aside0.mk (below_step (by repeat (first | (with_reducible first | exact HB.out | apply below_alloc | apply pw_below_drewN | apply below_drew1) | exact HB.out)) hb); clear HB; have HB := n0_; clear n0_; (try clear hb); (try clear hb2); (try clear hk); (try clear hi)))
    go_ret
    exact ⟨by first | rfl | (simp [errW_none, errW_some] <;> rfl) | (simp [*, errW_none, errW_some] <;> rfl), by repeat (first | (with_reducible first | exact HB.out | apply below_alloc | apply pw_below_drewN | apply below_drew1) | exact HB.out)⟩

/-- THE ONE PURE STATEMENT of tidemilllaw02_TagNames: yours. -/
def tidemilllaw02_TagNames.Pure : Prop := ∀ (a0 : ByteArray), a0.size ≤ 140737488351232 → ∃ k, tidemilllaw02_TagNames.f k a0 = some true
end Go.Proofs.Ytkclojakmhipnaa.PC
