/- A reel: Append. Laid by wip/rd_bl.py. -/
import Derived.Test.YtdooajmgfoobfaaGreatDoorZz
import Derived.Test.YtdooajmgfoobfaaGreatDoorRdB
namespace Go.Proofs.YtdooajmgfoobfaaGreatDoor.H
attribute [local go_sem] Oper.semAt_some
open Go.RowKit Go.Shelf Go.Proofs.YtdooajmgfoobfaaGreatDoor.PA Go.Proofs.YtdooajmgfoobfaaGreatDoorW.PrintWords Go.Proofs.YtdooajmgfoobfaaGreatDoorW.PrintLast Go.Proofs.YtdooajmgfoobfaaGreatDoorW.PrintMore
set_option linter.unusedVariables false
set_option linter.unusedSimpArgs false
def segZ (n : Int) : ByteArray := segK n.toNat
def Rl.place (m : Rl) (fl : Int) : Int × Int := if m.last < m.first ∨ (m.tail > 0 ∧ fl > m.roll - m.tail) then (m.last + 1, 0) else (m.last, m.tail)
/-- A record behind the place that was found for it. -/
def rput (m : Rl) (D : Dk) (n t : Int) (f : List Int) : (Rl × Dk) × Int :=
 if (D.append (segZ n) f).2 = 0 then
  (if ((D.append (segZ n) f).1.sync (segZ n)).2 = 0 then (({ m with last := n, tail := t + f.length, size := m.size + f.length }, ((D.append (segZ n) f).1.sync (segZ n)).1), 0)
   else ((m.note ((D.append (segZ n) f).1.sync (segZ n)).2, ((D.append (segZ n) f).1.sync (segZ n)).1), ((D.append (segZ n) f).1.sync (segZ n)).2))
 else ((m.note (D.append (segZ n) f).2, (D.append (segZ n) f).1), (D.append (segZ n) f).2)
def rappend (m : Rl) (D : Dk) (b : List Int) : (Rl × Dk) × Int :=
 if b.length > 199000 then ((m, D), 3) else if m.down = true then ((m, D), 23) else rput m D (m.place (frameB b).length).1 (m.place (frameB b).length).2 (frameB b)
theorem note_zero (m : Rl) : m.note 0 = m := by
 unfold Rl.note
 simp
/-- The bounds in which a reel stays. -/
structure RlOk (m : Rl) : Prop where
 roll : 1 ≤ m.roll ∧ m.roll ≤ 60000
 first : 0 ≤ m.first ∧ m.first ≤ 100
 last : 0 ≤ m.last ∧ m.last ≤ 98
 size : 0 ≤ m.size ∧ m.size ≤ 1000000000
 tail : 0 ≤ m.tail ∧ m.tail ≤ 1000000000
def q9.T6 : Bool × List (List Nat × List Nat) := (true, [([], []), ([0], [0]), ([1], [1]), ([2], [2]), ([], []), ([4], [4]), ([5], [5]), ([6], [6]), ([3, 0, 1, 2, 3], [3]), ([7, 8, 0, 1, 2, 3, 4, 5, 6, 7, 8], [7])])
def q9.B6 : List Nat := [0, 1, 3, 7, 0, 16, 48, 112, 15, 511]
theorem q9.tab6 : rtab .any (opsOf Tryz.f9 6) = q9.T6 := by kernel_rfl
theorem q9.bits6 : waitsOk q9.T6.2 q9.B6 = true := by kernel_rfl
def q9.T9 : Bool × List (List Nat × List Nat) := (true, [([], []), ([], []), ([1], [1]), ([2], [2]), ([3], [3]), ([], []), ([5], [5]), ([], []), ([4, 6, 7, 6], [4, 6, 7]), ([0, 8, 8], [0, 8]), ([9, 9, 0, 1, 2, 3, 4, 5, 6, 7, 8, 9], [9])])
def q9.B9 : List Nat := [0, 0, 2, 6, 14, 0, 32, 0, 254, 511, 1023]
theorem q9.tab9 : rtab .any (opsOf Tryz.f9 9) = q9.T9 := by kernel_rfl
theorem q9.bits9 : waitsOk q9.T9.2 q9.B9 = true := by kernel_rfl
def q9.T12 : Bool × List (List Nat × List Nat) := (true, [([], []), ([], []), ([1], [1]), ([2], [2]), ([3], [3]), ([], []), ([5], [5]), ([4, 6, 6], [4, 6]), ([0, 7, 7], [0, 7]), ([8, 8, 0, 1, 2, 3, 4, 5, 6, 7, 8], [8])])
def q9.B12 : List Nat := [0, 0, 2, 6, 14, 0, 32, 126, 255, 511]
theorem q9.tab12 : rtab .any (opsOf Tryz.f9 12) = q9.T12 := by kernel_rfl
theorem q9.bits12 : waitsOk q9.T12.2 q9.B12 = true := by kernel_rfl
set_option maxRecDepth 100000 in
set_option maxHeartbeats 8000000 in
theorem append_p1 (w : World) (g s : Nat) (F : Nat → Prop) (m : Rl) (D : Dk) (A : Option Addr) (c : Nat) (b : List Int) (h : RlAt w g s F m D) (ok : RlOk m) (hd : m.down = false) (hC : Kd.C (Kd.int .u8) w A b.length b) (hu : ∀ x ∈ b, 0 ≤ x ∧ x ≤ 255) (hl : b.length ≤ 199000) (hN : Nib w) (hgn : 1 < w.heap.size)
  (h1 : m.last < m.first) :
  Calls Tryz.prog 9 #[.pointer (some ⟨g, 0, none⟩), .slice A b.length c] w (RlOut g s F (rput m D (m.last + 1) 0 (frameB b)) w) := by
 have hfr := Frame_calls A c b w hC hu (by omega) hN hgn
 have hfl := frameB_len b (by omega)
 have HFU := Aside0.mk (frameB_u8 hu)
 have HST := Aside0.mk (RSt.start h)
 have d6 : w.cell? ⟨g, 6, none⟩ = some (.bool false) := (blk_cell h.blk 6).trans (by rw [← hd]; rfl)
 have hfr2 : Calls Tryz.prog 22 #[.slice A b.length c] w fun e w' => ∃ fA fc, e = .returned (.tuple #[.slice fA (frameB b).length fc, .int .i64 0]) ∧ Kd.R (Kd.int .u8) 5 w' w.heap.size (fun _ => True) (.slice fA (frameB b).length fc) (frameB b) ∧ Below w.heap.size w w' := hfr.mono (by
  rintro e w' ⟨⟨v, rfl, hR⟩, hb⟩
  obtain ⟨fA, fc, rfl⟩ := Kd.R_slice hR
  exact ⟨fA, fc, rfl, hR, hb⟩)
 clear hfr
 generalize frameB b = fb at hfr2 hfl HFU ⊢
 obtain ⟨fl, hfl2⟩ : ∃ fl, fb.length = fl := ⟨_, rfl⟩
 rw [hfl2] at hfr2 hfl
 have HFL := Aside0.mk hfl2
 clear hfl2
 obtain ⟨roll, first, last, size, tail, down⟩ := m
 obtain rfl : down = false := hd
 obtain ⟨⟨o1, o2⟩, ⟨o3, o4⟩, ⟨o5, o6⟩, ⟨o7, o8⟩, ⟨o9, o10⟩⟩ := ok
 simp only at h1 o1 o2 o3 o4 o5 o6 o7 o8 o9 o10 ⊢
 have hb0 : decide ((b.length : Int) > 199000) = false := decide_eq_false (by omega)
 have k1 : decide (last < first) = true := decide_eq_true h1
 obtain ⟨n, hn⟩ : ∃ n : Nat, (n : Int) = last + 1 := ⟨(last + 1).toNat, by omega⟩
 have hn100 : n < 100 := by omega
 have HN100 := Aside0.mk hn100
 have HLN := Aside0.mk hn
 have HZN := Aside0.mk (show segZ (last + 1) = segK n by unfold segZ; rw [← hn, Int.toNat_natCast])
 have HLE := Aside0.mk (show fl ≤ 1000000000 by omega)
 have q1 : -9223372036854775808 ≤ last + 1 ∧ last + 1 ≤ 9223372036854775807 := by omega
 have q2 : -9223372036854775808 ≤ 0 + (fl : Int) ∧ 0 + (fl : Int) ≤ 9223372036854775807 := by omega
 have q3 : -9223372036854775808 ≤ size + (fl : Int) ∧ size + (fl : Int) ≤ 9223372036854775807 := by omega
 generalize b.length = bl at hfr2 hb0
 clear h hC hu hl hN hgn hfl o1 o2 o3 o4 o5 o6 o7 o8 o9 o10 hn100 h1 hn
 have hwn : wrap64 (last + 1) = (last + 1) := wrap_in q1.1 q1.2
 have hwt : wrap64 (0 + (fl : Int)) = 0 + fl := wrap_in q2.1 q2.2
 have hws : wrap64 (size + (fl : Int)) = size + fl := wrap_in q3.1 q3.2
 clear q1 q2 q3
 have hwz : wrap64 (fl : Int) = fl := (congrArg wrap64 (Int.zero_add (fl : Int)).symm).trans (hwt.trans (Int.zero_add _))
 generalize hrp : rput ⟨roll, first, last, size, tail, false⟩ D (last + 1) 0 fb = rp
 unfold rput at hrp
 rw [HZN.out] at hrp
 have HPUT := Aside0.mk hrp
 clear hrp
 go_enter Tryz.func9, Tryz.ntmps9
 go_upto_region 6 with (go_at_call 22; refine hfr2.mono ?_; rintro e w1 ⟨fA, fc, rfl, hR, hb⟩; have HR := Aside0.mk hR; have HS1 := Aside0.mk (HST.out.below hb); clear hR hb hfr2 d6)
 refine wp_mono (Q := fun e a w => e = .normal ∧ _) ?_ (fun e a w h => h.2)
 refine start_ (n := 10) (S := fun w' => w'.cell? ⟨g, 3, none⟩ = some (.int .i64 last) ∧ w'.cell? ⟨g, 5, none⟩ = some (.int .i64 tail)) (ds := []) #[ff,ff,ff,ff,ff,ff,ff,ff,ff,ff] (by kernel_rfl) rfl rfl ⟨((blk_cell (blk_drew HS1.out.blk) 3).trans rfl), ((blk_cell (blk_drew HS1.out.blk) 5).trans rfl)⟩ (fun hHeld => ?_)
 refine with_tabW q9.tab6 q9.bits6 (fun HT_ HW_ => ?_)
 refine pure_ (i := 0) (N := some 23) (v := ?_) (a' := ?_) #[tt,ff,ff,ff,ff,ff,ff,ff,ff,ff] rfl rfl (any_of HT_.out (by kernel_rfl)) (fun _ _ _ h => nomatch h.1) (Or.inl ⟨by rfl, ?_⟩) ?_ ?_
 rotate_left
 ·intro w'
  go_simp
  with_reducible rfl
 rotate_left
 ·simp only [Act.put, sA, sB, sC, i64_w, i32_w]
  rfl
 refine pure_ (i := 1) (N := some 24) (v := ?_) (a' := ?_) #[tt,tt,ff,ff,ff,ff,ff,ff,ff,ff] rfl rfl (any_of HT_.out (by kernel_rfl)) (fun _ _ _ h => nomatch h.1) (Or.inl ⟨by rfl, ?_⟩) ?_ ?_
 rotate_left
 ·intro w'
  go_simp
  with_reducible rfl
 rotate_left
 ·simp only [Act.put, sA, sB, sC, i64_w, i32_w]
  rfl
 refine pure_ (i := 2) (N := some 25) (v := ?_) (a' := ?_) #[tt,tt,tt,ff,ff,ff,ff,ff,ff,ff] rfl rfl (any_of HT_.out (by kernel_rfl)) (fun _ _ _ h => nomatch h.1) (Or.inl ⟨by rfl, ?_⟩) ?_ ?_
 rotate_left
 ·intro w'
  go_simp
  with_reducible rfl
 rotate_left
 ·simp only [Act.put, sA, sB, sC, i64_w, i32_w]
  rfl
 refine pure_ (i := 4) (N := some 27) (v := ?_) (a' := ?_) #[tt,tt,tt,ff,tt,ff,ff,ff,ff,ff] rfl rfl (any_of HT_.out (by kernel_rfl)) (fun _ _ _ h => nomatch h.1) (Or.inl ⟨by rfl, ?_⟩) ?_ ?_
 rotate_left
 ·intro w'
  go_simp
  with_reducible rfl
 rotate_left
 ·simp only [Act.put, sA, sB, sC, i64_w, i32_w]
  rfl
 refine pure_ (i := 5) (N := some 28) (v := ?_) (a' := ?_) #[tt,tt,tt,ff,tt,tt,ff,ff,ff,ff] rfl rfl (any_of HT_.out (by kernel_rfl)) (fun _ _ _ h => nomatch h.1) (Or.inl ⟨by rfl, ?_⟩) ?_ ?_
 rotate_left
 ·intro w'
  go_simp
  with_reducible rfl
 rotate_left
 ·simp only [Act.put, sA, sB, sC, i64_w, i32_w]
  rfl
 refine pure_ (i := 6) (N := some 29) (v := ?_) (a' := ?_) #[tt,tt,tt,ff,tt,tt,tt,ff,ff,ff] rfl rfl (any_of HT_.out (by kernel_rfl)) (fun _ _ _ h => nomatch h.1) (Or.inl ⟨by rfl, ?_⟩) ?_ ?_
 rotate_left
 ·intro w'
  go_simp
  with_reducible rfl
 rotate_left
 ·simp only [Act.put, sA, sB, sC, i64_w, i32_w]
  rfl
 refine take_ (i := 3) (N := some 26) (v := ?_) (a' := ?_) #[tt,tt,tt,tt,tt,tt,tt,ff,ff,ff] rfl rfl (take_ofW HT_.out HW_.out (by kernel_rfl)) (fun _ _ _ h => nomatch h.1) (Or.inl ⟨by rfl, ?_⟩) hHeld ?_ ?_
 rotate_left
 ·rintro w' ⟨s0, s1⟩
  go_simp
  with_reducible rfl
 rotate_left
 ·simp only [Act.put, sA, sB, sC, i64_w, i32_w]
  rfl
 refine pure_ (i := 8) (N := some 7) (v := ?_) (a' := ?_) #[tt,tt,tt,tt,tt,tt,tt,ff,tt,ff] rfl rfl (any_of HT_.out (by kernel_rfl)) (fun _ _ _ h => nomatch h.1) (Or.inl ⟨by rfl, ?_⟩) ?_ ?_
 rotate_left
 ·intro w'
  go_simp
  with_reducible rfl
 rotate_left
 ·simp only [Act.put, sA, sB, sC, i64_w, i32_w]
  rfl
 refine take_ (i := 7) (N := some 30) (v := ?_) (a' := ?_) #[tt,tt,tt,tt,tt,tt,tt,tt,tt,ff] rfl rfl (take_ofW HT_.out HW_.out (by kernel_rfl)) (fun _ _ _ h => nomatch h.1) (Or.inl ⟨by rfl, ?_⟩) hHeld ?_ ?_
 rotate_left
 ·rintro w' ⟨s0, s1⟩
  go_simp
  with_reducible rfl
 rotate_left
 ·simp only [Act.put, sA, sB, sC, i64_w, i32_w]
  rfl
 refine pure_ (i := 9) (N := some 8) (v := ?_) (a' := ?_) #[tt,tt,tt,tt,tt,tt,tt,tt,tt,tt] rfl rfl (any_of HT_.out (by kernel_rfl)) (fun _ _ _ h => nomatch h.1) (Or.inl ⟨by rfl, ?_⟩) ?_ ?_
 rotate_left
 ·intro w'
  go_simp
  with_reducible rfl
 rotate_left
 ·simp only [Act.put, sA, sB, sC, i64_w, i32_w]
  rfl
 refine done_ (done_of HT_.out (by kernel_rfl)) ?_
 refine ⟨rfl, ?_⟩
 clear hHeld HT_ HW_
 have HS2 := Aside0.mk (HS1.out.below (below_drew1 (Below.refl _ w1)))
 have HR2 := Aside0.mk (Kd.R_below HR.out (below_drew1 (Below.refl _ w1)))
 clear HST HS1 HR
 generalize w1.drew = w2 at HS2 HR2 ⊢
 have d2 : w2.cell? ⟨g, 2, none⟩ = some (.int .i64 first) := (blk_cell HS2.out.blk 2).trans rfl
 have d1 : w2.cell? ⟨g, 1, none⟩ = some (.int .i64 roll) := (blk_cell HS2.out.blk 1).trans rfl
 go_upto_region 9 with fail
 clear d1 d2 k1
 have hseg : ∀ W, Calls Tryz.prog 25 #[.int .i64 (last + 1)] W fun e w' => e = .returned (.string (segK n)) ∧ w' = W := fun W => by rw [← HLN.out]; exact segment_calls n HN100.out W
 have HS3 := Aside0.mk (HS2.out.below (below_drew1 (Below.refl _ w2)))
 have HR3 := Aside0.mk (Kd.R_below HR2.out (below_drew1 (Below.refl _ w2)))
 have hap := HS3.out.append (segK n) (seg_named HN100.out) HR3.out HFU.out (by rw [HFL.out]; exact HLE.out)
 generalize D.append (segK n) fb = r1 at hap HPUT
 obtain ⟨D1, e1⟩ := r1
 simp only at HPUT
 refine wp_mono (Q := fun e a w => e = .normal ∧ _) ?_ (fun e a w h => h.2)
 refine start_ (n := 11) (S := fun w' => w'.cell? ⟨g, 0, none⟩ = some (.pointer (some ⟨s, 0, none⟩))) (ds := []) #[ff,ff,ff,ff,ff,ff,ff,ff,ff,ff,ff] (by kernel_rfl) rfl rfl (((blk_cell HS3.out.blk 0).trans rfl)) (fun hHeld => ?_)
 refine with_tabW q9.tab9 q9.bits9 (fun HT_ HW_ => ?_)
 refine pure_ (i := 0) (N := some 54) (v := ?_) (a' := ?_) #[tt,ff,ff,ff,ff,ff,ff,ff,ff,ff,ff] rfl rfl (any_of HT_.out (by kernel_rfl)) (fun _ _ _ h => nomatch h.1) (Or.inl ⟨by rfl, ?_⟩) ?_ ?_
 rotate_left
 ·intro w'
  go_simp
  with_reducible rfl
 rotate_left
 ·simp only [Act.put, sA, sB, sC, i64_w, i32_w]
  rfl
 refine pure_ (i := 1) (N := some 55) (v := ?_) (a' := ?_) #[tt,tt,ff,ff,ff,ff,ff,ff,ff,ff,ff] rfl rfl (any_of HT_.out (by kernel_rfl)) (fun _ _ _ h => nomatch h.1) (Or.inl ⟨by rfl, ?_⟩) ?_ ?_
 rotate_left
 ·intro w'
  go_simp
  with_reducible rfl
 rotate_left
 ·simp only [Act.put, sA, sB, sC, i64_w, i32_w]
  rfl
 refine pure_ (i := 2) (N := some 56) (v := ?_) (a' := ?_) #[tt,tt,tt,ff,ff,ff,ff,ff,ff,ff,ff] rfl rfl (any_of HT_.out (by kernel_rfl)) (fun _ _ _ h => nomatch h.1) (Or.inl ⟨by rfl, ?_⟩) ?_ ?_
 rotate_left
 ·intro w'
  go_simp
  with_reducible rfl
 rotate_left
 ·simp only [Act.put, sA, sB, sC, i64_w, i32_w]
  rfl
 refine pure_ (i := 3) (N := some 57) (v := ?_) (a' := ?_) #[tt,tt,tt,tt,ff,ff,ff,ff,ff,ff,ff] rfl rfl (any_of HT_.out (by kernel_rfl)) (fun _ _ _ h => nomatch h.1) (Or.inl ⟨by rfl, ?_⟩) ?_ ?_
 rotate_left
 ·intro w'
  go_simp
  with_reducible rfl
 rotate_left
 ·simp only [Act.put, sA, sB, sC, i64_w, i32_w]
  rfl
 refine pure_ (i := 5) (N := some 59) (v := ?_) (a' := ?_) #[tt,tt,tt,tt,ff,tt,ff,ff,ff,ff,ff] rfl rfl (any_of HT_.out (by kernel_rfl)) (fun _ _ _ h => nomatch h.1) (Or.inl ⟨by rfl, ?_⟩) ?_ ?_
 rotate_left
 ·intro w'
  go_simp
  with_reducible rfl
 rotate_left
 ·simp only [Act.put, sA, sB, sC, i64_w, i32_w]
  rfl
 refine pure_ (i := 7) (N := some 61) (v := ?_) (a' := ?_) #[tt,tt,tt,tt,ff,tt,ff,tt,ff,ff,ff] rfl rfl (any_of HT_.out (by kernel_rfl)) (fun _ _ _ h => nomatch h.1) (Or.inl ⟨by rfl, ?_⟩) ?_ ?_
 rotate_left
 ·intro w'
  go_simp
  with_reducible rfl
 rotate_left
 ·simp only [Act.put, sA, sB, sC, i64_w, i32_w]
  rfl
 refine take_ (i := 4) (N := some 58) (v := ?_) (a' := ?_) #[tt,tt,tt,tt,tt,tt,ff,tt,ff,ff,ff] rfl rfl (take_ofW HT_.out HW_.out (by kernel_rfl)) (fun _ _ _ h => nomatch h.1) (Or.inl ⟨by rfl, ?_⟩) hHeld ?_ ?_
 rotate_left
 ·intro w' s0
  go_simp
  with_reducible rfl
 rotate_left
 ·simp only [Act.put, sA, sB, sC, i64_w, i32_w]
  rfl
 refine one_ (i := 6) (N := some 60) #[tt,tt,tt,tt,tt,tt,tt,tt,ff,ff,ff] rfl rfl (one_of HT_.out (by kernel_rfl)) (by decide) (fun K hK => ?_)
 refine goes_ Tryz.func25 (by kernel_rfl) rfl #[.int .i64 (last + 1)] (by rfl) rfl rfl (by simp only [List.map_toArray, List.map_cons, List.map_nil]; rfl) ?_
 with_reducible refine (hseg _).mono ?_
 rintro e w3 ⟨rfl, rfl⟩
 refine ⟨_, rfl, ?_⟩
 refine hK.out _ _ (((blk_cell HS3.out.blk 0).trans rfl)) (fun hHeld => ?_)
 clear hK K
 refine norm_ (a' := ?_) ?_ ?_
 rotate_left
 ·show Act.put _ (some 60) _ = _
  simp only [Act.put, sA, sB, sC, i64_w, i32_w]
  rfl
 refine one_ (i := 8) (N := some 62) #[tt,tt,tt,tt,tt,tt,tt,tt,tt,ff,ff] rfl rfl (one_of HT_.out (by kernel_rfl)) (by decide) (fun K hK => ?_)
 refine goes_ Tryz.func24 (by kernel_rfl) rfl #[.pointer (some ⟨s, 0, none⟩), .string (segK n), .slice fA fl fc] (by rfl) rfl rfl (by simp only [List.map_toArray, List.map_cons, List.map_nil]; rfl) ?_
 with_reducible refine ((show Calls _ _ _ _ _ from hap)).mono ?_
 rintro e w5x ⟨rfl, hst, hkp⟩
 refine ⟨_, rfl, ?_⟩
 have p_S := Aside0.mk hst
 have p_R := Aside0.mk (hkp.rd HR3.out)
 have hnt := hst.note e1
 clear hst hkp hap
 refine hK.out _ _ (((blk_cell p_S.out.blk 0).trans rfl)) (fun hHeld => ?_)
 clear hK K
 refine norm_ (a' := ?_) ?_ ?_
 rotate_left
 ·show Act.put _ (some 62) _ = _
  simp only [Act.put, sA, sB, sC, i64_w, i32_w]
  rfl
 refine one_ (i := 9) (N := some 63) #[tt,tt,tt,tt,tt,tt,tt,tt,tt,tt,ff] rfl rfl (one_of HT_.out (by kernel_rfl)) (by decide) (fun K hK => ?_)
 refine goes_ Tryz.func23 (by kernel_rfl) rfl #[.pointer (some ⟨g, 0, none⟩), .int .i64 e1] (by rfl) rfl rfl (by simp only [List.map_toArray, List.map_cons, List.map_nil]; rfl) ?_
 with_reducible refine ((show Calls _ _ _ _ _ from hnt)).mono ?_
 rintro e w6x ⟨rfl, hst, hkp⟩
 refine ⟨_, rfl, ?_⟩
 have r_S := Aside0.mk hst
 have r_R := Aside0.mk (hkp.rd p_R.out)
 clear hst hkp hnt p_S p_R
 refine hK.out _ _ (((blk_cell r_S.out.blk 0).trans rfl)) (fun hHeld => ?_)
 clear hK K
 refine norm_ (a' := ?_) ?_ ?_
 rotate_left
 ·show Act.put _ (some 63) _ = _
  simp only [Act.put, sA, sB, sC, i64_w, i32_w]
  rfl
 refine pure_ (i := 10) (N := some 9) (v := ?_) (a' := ?_) #[tt,tt,tt,tt,tt,tt,tt,tt,tt,tt,tt] rfl rfl (any_of HT_.out (by kernel_rfl)) (fun _ _ _ h => nomatch h.1) (Or.inl ⟨by rfl, ?_⟩) ?_ ?_
 rotate_left
 ·intro w'
  go_simp
  with_reducible rfl
 rotate_left
 ·simp only [Act.put, sA, sB, sC, i64_w, i32_w]
  rfl
 refine done_ (done_of HT_.out (by kernel_rfl)) ?_
 refine ⟨rfl, ?_⟩
 clear hHeld HT_ HW_
 clear HS2 HR2 HS3 HR3
 generalize w6x = w7 at r_S r_R ⊢
 by_cases h0 : e1 = 0
 ·subst h0
  rw [note_zero] at r_S
  have hsy := (r_S.out.below (below_drew1 (Below.refl _ w7))).disk (fun F' hd => Sync_disk w7.drew s F' D1 (segK n) hd)
  have HSS := Aside0.mk (r_S.out.below (below_drew1 (Below.refl _ w7)))
  have HRR := Aside0.mk (Kd.R_below r_R.out (below_drew1 (Below.refl _ w7)))
  simp only [if_pos trivial] at HPUT
  generalize D1.sync (segK n) = r2 at hsy HPUT
  obtain ⟨D2, e2⟩ := r2
  simp only at HPUT
  go_upto_region 12 with fail
  refine wp_mono (Q := fun e a w => e = .normal ∧ _) ?_ (fun e a w h => h.2)
  refine start_ (n := 10) (S := fun w' => w'.cell? ⟨g, 0, none⟩ = some (.pointer (some ⟨s, 0, none⟩))) (ds := []) #[ff,ff,ff,ff,ff,ff,ff,ff,ff,ff] (by kernel_rfl) rfl rfl (((blk_cell HSS.out.blk 0).trans rfl)) (fun hHeld => ?_)
  refine with_tabW q9.tab12 q9.bits12 (fun HT_ HW_ => ?_)
  refine pure_ (i := 0) (N := some 67) (v := ?_) (a' := ?_) #[tt,ff,ff,ff,ff,ff,ff,ff,ff,ff] rfl rfl (any_of HT_.out (by kernel_rfl)) (fun _ _ _ h => nomatch h.1) (Or.inl ⟨by rfl, ?_⟩) ?_ ?_
  rotate_left
  ·intro w'
   go_simp
   with_reducible rfl
  rotate_left
  ·simp only [Act.put, sA, sB, sC, i64_w, i32_w]
   rfl
  refine pure_ (i := 1) (N := some 68) (v := ?_) (a' := ?_) #[tt,tt,ff,ff,ff,ff,ff,ff,ff,ff] rfl rfl (any_of HT_.out (by kernel_rfl)) (fun _ _ _ h => nomatch h.1) (Or.inl ⟨by rfl, ?_⟩) ?_ ?_
  rotate_left
  ·intro w'
   go_simp
   with_reducible rfl
  rotate_left
  ·simp only [Act.put, sA, sB, sC, i64_w, i32_w]
   rfl
  refine pure_ (i := 2) (N := some 69) (v := ?_) (a' := ?_) #[tt,tt,tt,ff,ff,ff,ff,ff,ff,ff] rfl rfl (any_of HT_.out (by kernel_rfl)) (fun _ _ _ h => nomatch h.1) (Or.inl ⟨by rfl, ?_⟩) ?_ ?_
  rotate_left
  ·intro w'
   go_simp
   with_reducible rfl
  rotate_left
  ·simp only [Act.put, sA, sB, sC, i64_w, i32_w]
   rfl
  refine pure_ (i := 3) (N := some 70) (v := ?_) (a' := ?_) #[tt,tt,tt,tt,ff,ff,ff,ff,ff,ff] rfl rfl (any_of HT_.out (by kernel_rfl)) (fun _ _ _ h => nomatch h.1) (Or.inl ⟨by rfl, ?_⟩) ?_ ?_
  rotate_left
  ·intro w'
   go_simp
   with_reducible rfl
  rotate_left
  ·simp only [Act.put, sA, sB, sC, i64_w, i32_w]
   rfl
  refine pure_ (i := 5) (N := some 72) (v := ?_) (a' := ?_) #[tt,tt,tt,tt,ff,tt,ff,ff,ff,ff] rfl rfl (any_of HT_.out (by kernel_rfl)) (fun _ _ _ h => nomatch h.1) (Or.inl ⟨by rfl, ?_⟩) ?_ ?_
  rotate_left
  ·intro w'
   go_simp
   with_reducible rfl
  rotate_left
  ·simp only [Act.put, sA, sB, sC, i64_w, i32_w]
   rfl
  refine take_ (i := 4) (N := some 71) (v := ?_) (a' := ?_) #[tt,tt,tt,tt,tt,tt,ff,ff,ff,ff] rfl rfl (take_ofW HT_.out HW_.out (by kernel_rfl)) (fun _ _ _ h => nomatch h.1) (Or.inl ⟨by rfl, ?_⟩) hHeld ?_ ?_
  rotate_left
  ·intro w' s0
   go_simp
   with_reducible rfl
  rotate_left
  ·simp only [Act.put, sA, sB, sC, i64_w, i32_w]
   rfl
  refine one_ (i := 6) (N := some 73) #[tt,tt,tt,tt,tt,tt,tt,ff,ff,ff] rfl rfl (one_of HT_.out (by kernel_rfl)) (by decide) (fun K hK => ?_)
  refine goes_ Tryz.func25 (by kernel_rfl) rfl #[.int .i64 (last + 1)] (by rfl) rfl rfl (by simp only [List.map_toArray, List.map_cons, List.map_nil]; rfl) ?_
  with_reducible refine (hseg _).mono ?_
  rintro e w3 ⟨rfl, rfl⟩
  refine ⟨_, rfl, ?_⟩
  refine hK.out _ _ (((blk_cell HSS.out.blk 0).trans rfl)) (fun hHeld => ?_)
  clear hK K
  refine norm_ (a' := ?_) ?_ ?_
  rotate_left
  ·show Act.put _ (some 73) _ = _
   simp only [Act.put, sA, sB, sC, i64_w, i32_w]
   rfl
  refine one_ (i := 7) (N := some 74) #[tt,tt,tt,tt,tt,tt,tt,tt,ff,ff] rfl rfl (one_of HT_.out (by kernel_rfl)) (by decide) (fun K hK => ?_)
  refine goes_ Tryz.func26 (by kernel_rfl) rfl #[.pointer (some ⟨s, 0, none⟩), .string (segK n)] (by rfl) rfl rfl (by simp only [List.map_toArray, List.map_cons, List.map_nil]; rfl) ?_
  with_reducible refine ((show Calls _ _ _ _ _ from hsy)).mono ?_
  rintro e w9x ⟨rfl, hst, hkp⟩
  refine ⟨_, rfl, ?_⟩
  have q_S := Aside0.mk hst
  have q_R := Aside0.mk (hkp.rd HRR.out)
  have hnt := hst.note e2
  clear hst hkp hsy
  refine hK.out _ _ (((blk_cell q_S.out.blk 0).trans rfl)) (fun hHeld => ?_)
  clear hK K
  refine norm_ (a' := ?_) ?_ ?_
  rotate_left
  ·show Act.put _ (some 74) _ = _
   simp only [Act.put, sA, sB, sC, i64_w, i32_w]
   rfl
  refine one_ (i := 8) (N := some 75) #[tt,tt,tt,tt,tt,tt,tt,tt,tt,ff] rfl rfl (one_of HT_.out (by kernel_rfl)) (by decide) (fun K hK => ?_)
  refine goes_ Tryz.func23 (by kernel_rfl) rfl #[.pointer (some ⟨g, 0, none⟩), .int .i64 e2] (by rfl) rfl rfl (by simp only [List.map_toArray, List.map_cons, List.map_nil]; rfl) ?_
  with_reducible refine ((show Calls _ _ _ _ _ from hnt)).mono ?_
  rintro e w10x ⟨rfl, hst, hkp⟩
  refine ⟨_, rfl, ?_⟩
  have s_S := Aside0.mk hst
  have s_R := Aside0.mk (hkp.rd q_R.out)
  clear hst hkp hnt q_S q_R
  refine hK.out _ _ (((blk_cell s_S.out.blk 0).trans rfl)) (fun hHeld => ?_)
  clear hK K
  refine norm_ (a' := ?_) ?_ ?_
  rotate_left
  ·show Act.put _ (some 75) _ = _
   simp only [Act.put, sA, sB, sC, i64_w, i32_w]
   rfl
  refine pure_ (i := 9) (N := some 10) (v := ?_) (a' := ?_) #[tt,tt,tt,tt,tt,tt,tt,tt,tt,tt] rfl rfl (any_of HT_.out (by kernel_rfl)) (fun _ _ _ h => nomatch h.1) (Or.inl ⟨by rfl, ?_⟩) ?_ ?_
  rotate_left
  ·intro w'
   go_simp
   with_reducible rfl
  rotate_left
  ·simp only [Act.put, sA, sB, sC, i64_w, i32_w]
   rfl
  refine done_ (done_of HT_.out (by kernel_rfl)) ?_
  refine ⟨rfl, ?_⟩
  clear hHeld HT_ HW_
  clear HSS HRR r_S r_R
  generalize w10x = w11 at s_S s_R ⊢
  by_cases h1 : e2 = 0
  ·subst h1
   rw [note_zero] at s_S
   simp only [if_pos trivial] at HPUT
   have d4 : w11.cell? ⟨g, 4, none⟩ = some (.int .i64 size) := (blk_cell s_S.out.blk 4).trans rfl
   have d3 : w11.cell? ⟨g, 3, none⟩ = some (.int .i64 last) := (blk_cell s_S.out.blk 3).trans rfl
   have d5 : w11.cell? ⟨g, 5, none⟩ = some (.int .i64 tail) := (blk_cell s_S.out.blk 5).trans rfl
   have f3 := blk_frozen s_S.out.blk 3
   have f4 := blk_frozen s_S.out.blk 4
   have f5 := blk_frozen s_S.out.blk 5
   rw [HFL.out] at HPUT
   have h3 := (s_S.out.set 3 (.int .i64 (last + 1)) (m' := ⟨roll, first, last + 1, size, tail, false⟩) rfl).1
   have h5 := (h3.set 5 (.int .i64 (fl : Int)) (m' := ⟨roll, first, last + 1, size, 0 + (fl : Int), false⟩) (by first | rfl | (rw [Int.zero_add]; rfl))).1
   have h4 := (h5.set 4 (.int .i64 (size + (fl : Int))) (m' := ⟨roll, first, last + 1, size + (fl : Int), 0 + (fl : Int), false⟩) rfl).1
   have FIN := Aside0.mk (RSt.out (r := ((_, _), 0)) h4)
   clear h3 h5 h4
   go_wp2_with fail
   (try simp only [hwn, hwt, hws, hwz])
   exact bodyPost_ret (v := .int .i64 0) (by simp [results, Tryz.results9, go_sem]) rfl (by rw [← HPUT.out]; exact FIN.out)
  ·have hb1 : (e2 != 0) = true := by simpa using h1
   rw [if_neg h1] at HPUT
   go_wp2_with fail
   exact bodyPost_ret (v := .int .i64 e2) (by simp [results, Tryz.results9, go_sem]) rfl (by rw [← HPUT.out]; exact RSt.out (r := ((_, _), _)) s_S.out)
 ·have hb1 : (e1 != 0) = true := by simpa using h0
  rw [if_neg h0] at HPUT
  go_wp2_with fail
  exact bodyPost_ret (v := .int .i64 e1) (by simp [results, Tryz.results9, go_sem]) rfl (by rw [← HPUT.out]; exact RSt.out (r := ((_, _), _)) r_S.out)
set_option maxRecDepth 100000 in
set_option maxHeartbeats 8000000 in
theorem append_p2 (w : World) (g s : Nat) (F : Nat → Prop) (m : Rl) (D : Dk) (A : Option Addr) (c : Nat) (b : List Int) (h : RlAt w g s F m D) (ok : RlOk m) (hd : m.down = false) (hC : Kd.C (Kd.int .u8) w A b.length b) (hu : ∀ x ∈ b, 0 ≤ x ∧ x ≤ 255) (hl : b.length ≤ 199000) (hN : Nib w) (hgn : 1 < w.heap.size)
  (h1 : ¬ m.last < m.first) (h2 : m.tail > 0) (h3 : ((frameB b).length : Int) > m.roll - m.tail) :
  Calls Tryz.prog 9 #[.pointer (some ⟨g, 0, none⟩), .slice A b.length c] w (RlOut g s F (rput m D (m.last + 1) 0 (frameB b)) w) := by
 have hfr := Frame_calls A c b w hC hu (by omega) hN hgn
 have hfl := frameB_len b (by omega)
 have HFU := Aside0.mk (frameB_u8 hu)
 have HST := Aside0.mk (RSt.start h)
 have d6 : w.cell? ⟨g, 6, none⟩ = some (.bool false) := (blk_cell h.blk 6).trans (by rw [← hd]; rfl)
 have hfr2 : Calls Tryz.prog 22 #[.slice A b.length c] w fun e w' => ∃ fA fc, e = .returned (.tuple #[.slice fA (frameB b).length fc, .int .i64 0]) ∧ Kd.R (Kd.int .u8) 5 w' w.heap.size (fun _ => True) (.slice fA (frameB b).length fc) (frameB b) ∧ Below w.heap.size w w' := hfr.mono (by
  rintro e w' ⟨⟨v, rfl, hR⟩, hb⟩
  obtain ⟨fA, fc, rfl⟩ := Kd.R_slice hR
  exact ⟨fA, fc, rfl, hR, hb⟩)
 clear hfr
 generalize frameB b = fb at hfr2 hfl HFU h3 ⊢
 obtain ⟨fl, hfl2⟩ : ∃ fl, fb.length = fl := ⟨_, rfl⟩
 rw [hfl2] at hfr2 hfl h3
 have HFL := Aside0.mk hfl2
 clear hfl2
 obtain ⟨roll, first, last, size, tail, down⟩ := m
 obtain rfl : down = false := hd
 obtain ⟨⟨o1, o2⟩, ⟨o3, o4⟩, ⟨o5, o6⟩, ⟨o7, o8⟩, ⟨o9, o10⟩⟩ := ok
 simp only at h1 h2 h3 o1 o2 o3 o4 o5 o6 o7 o8 o9 o10 ⊢
 have hb0 : decide ((b.length : Int) > 199000) = false := decide_eq_false (by omega)
 have k1 : decide (last < first) = false := decide_eq_false h1
 have k2 : decide (tail > 0) = true := decide_eq_true h2
 have k3 : decide ((fl : Int) > roll - tail) = true := decide_eq_true h3
 obtain ⟨n, hn⟩ : ∃ n : Nat, (n : Int) = last + 1 := ⟨(last + 1).toNat, by omega⟩
 have hn100 : n < 100 := by omega
 have HN100 := Aside0.mk hn100
 have HLN := Aside0.mk hn
 have HZN := Aside0.mk (show segZ (last + 1) = segK n by unfold segZ; rw [← hn, Int.toNat_natCast])
 have HLE := Aside0.mk (show fl ≤ 1000000000 by omega)
 have q1 : -9223372036854775808 ≤ last + 1 ∧ last + 1 ≤ 9223372036854775807 := by omega
 have q2 : -9223372036854775808 ≤ 0 + (fl : Int) ∧ 0 + (fl : Int) ≤ 9223372036854775807 := by omega
 have q3 : -9223372036854775808 ≤ size + (fl : Int) ∧ size + (fl : Int) ≤ 9223372036854775807 := by omega
 have kw : wrap64 (roll - tail) = roll - tail := wrap_in (by omega) (by omega)
 generalize b.length = bl at hfr2 hb0
 clear h hC hu hl hN hgn hfl o1 o2 o3 o4 o5 o6 o7 o8 o9 o10 hn100 h1 h2 h3 hn
 have hwn : wrap64 (last + 1) = (last + 1) := wrap_in q1.1 q1.2
 have hwt : wrap64 (0 + (fl : Int)) = 0 + fl := wrap_in q2.1 q2.2
 have hws : wrap64 (size + (fl : Int)) = size + fl := wrap_in q3.1 q3.2
 clear q1 q2 q3
 have hwz : wrap64 (fl : Int) = fl := (congrArg wrap64 (Int.zero_add (fl : Int)).symm).trans (hwt.trans (Int.zero_add _))
 generalize hrp : rput ⟨roll, first, last, size, tail, false⟩ D (last + 1) 0 fb = rp
 unfold rput at hrp
 rw [HZN.out] at hrp
 have HPUT := Aside0.mk hrp
 clear hrp
 go_enter Tryz.func9, Tryz.ntmps9
 go_upto_region 6 with (go_at_call 22; refine hfr2.mono ?_; rintro e w1 ⟨fA, fc, rfl, hR, hb⟩; have HR := Aside0.mk hR; have HS1 := Aside0.mk (HST.out.below hb); clear hR hb hfr2 d6)
 refine wp_mono (Q := fun e a w => e = .normal ∧ _) ?_ (fun e a w h => h.2)
 refine start_ (n := 10) (S := fun w' => w'.cell? ⟨g, 3, none⟩ = some (.int .i64 last) ∧ w'.cell? ⟨g, 5, none⟩ = some (.int .i64 tail)) (ds := []) #[ff,ff,ff,ff,ff,ff,ff,ff,ff,ff] (by kernel_rfl) rfl rfl ⟨((blk_cell (blk_drew HS1.out.blk) 3).trans rfl), ((blk_cell (blk_drew HS1.out.blk) 5).trans rfl)⟩ (fun hHeld => ?_)
 refine with_tabW q9.tab6 q9.bits6 (fun HT_ HW_ => ?_)
 refine pure_ (i := 0) (N := some 23) (v := ?_) (a' := ?_) #[tt,ff,ff,ff,ff,ff,ff,ff,ff,ff] rfl rfl (any_of HT_.out (by kernel_rfl)) (fun _ _ _ h => nomatch h.1) (Or.inl ⟨by rfl, ?_⟩) ?_ ?_
 rotate_left
 ·intro w'
  go_simp
  with_reducible rfl
 rotate_left
 ·simp only [Act.put, sA, sB, sC, i64_w, i32_w]
  rfl
 refine pure_ (i := 1) (N := some 24) (v := ?_) (a' := ?_) #[tt,tt,ff,ff,ff,ff,ff,ff,ff,ff] rfl rfl (any_of HT_.out (by kernel_rfl)) (fun _ _ _ h => nomatch h.1) (Or.inl ⟨by rfl, ?_⟩) ?_ ?_
 rotate_left
 ·intro w'
  go_simp
  with_reducible rfl
 rotate_left
 ·simp only [Act.put, sA, sB, sC, i64_w, i32_w]
  rfl
 refine pure_ (i := 2) (N := some 25) (v := ?_) (a' := ?_) #[tt,tt,tt,ff,ff,ff,ff,ff,ff,ff] rfl rfl (any_of HT_.out (by kernel_rfl)) (fun _ _ _ h => nomatch h.1) (Or.inl ⟨by rfl, ?_⟩) ?_ ?_
 rotate_left
 ·intro w'
  go_simp
  with_reducible rfl
 rotate_left
 ·simp only [Act.put, sA, sB, sC, i64_w, i32_w]
  rfl
 refine pure_ (i := 4) (N := some 27) (v := ?_) (a' := ?_) #[tt,tt,tt,ff,tt,ff,ff,ff,ff,ff] rfl rfl (any_of HT_.out (by kernel_rfl)) (fun _ _ _ h => nomatch h.1) (Or.inl ⟨by rfl, ?_⟩) ?_ ?_
 rotate_left
 ·intro w'
  go_simp
  with_reducible rfl
 rotate_left
 ·simp only [Act.put, sA, sB, sC, i64_w, i32_w]
  rfl
 refine pure_ (i := 5) (N := some 28) (v := ?_) (a' := ?_) #[tt,tt,tt,ff,tt,tt,ff,ff,ff,ff] rfl rfl (any_of HT_.out (by kernel_rfl)) (fun _ _ _ h => nomatch h.1) (Or.inl ⟨by rfl, ?_⟩) ?_ ?_
 rotate_left
 ·intro w'
  go_simp
  with_reducible rfl
 rotate_left
 ·simp only [Act.put, sA, sB, sC, i64_w, i32_w]
  rfl
 refine pure_ (i := 6) (N := some 29) (v := ?_) (a' := ?_) #[tt,tt,tt,ff,tt,tt,tt,ff,ff,ff] rfl rfl (any_of HT_.out (by kernel_rfl)) (fun _ _ _ h => nomatch h.1) (Or.inl ⟨by rfl, ?_⟩) ?_ ?_
 rotate_left
 ·intro w'
  go_simp
  with_reducible rfl
 rotate_left
 ·simp only [Act.put, sA, sB, sC, i64_w, i32_w]
  rfl
 refine take_ (i := 3) (N := some 26) (v := ?_) (a' := ?_) #[tt,tt,tt,tt,tt,tt,tt,ff,ff,ff] rfl rfl (take_ofW HT_.out HW_.out (by kernel_rfl)) (fun _ _ _ h => nomatch h.1) (Or.inl ⟨by rfl, ?_⟩) hHeld ?_ ?_
 rotate_left
 ·rintro w' ⟨s0, s1⟩
  go_simp
  with_reducible rfl
 rotate_left
 ·simp only [Act.put, sA, sB, sC, i64_w, i32_w]
  rfl
 refine pure_ (i := 8) (N := some 7) (v := ?_) (a' := ?_) #[tt,tt,tt,tt,tt,tt,tt,ff,tt,ff] rfl rfl (any_of HT_.out (by kernel_rfl)) (fun _ _ _ h => nomatch h.1) (Or.inl ⟨by rfl, ?_⟩) ?_ ?_
 rotate_left
 ·intro w'
  go_simp
  with_reducible rfl
 rotate_left
 ·simp only [Act.put, sA, sB, sC, i64_w, i32_w]
  rfl
 refine take_ (i := 7) (N := some 30) (v := ?_) (a' := ?_) #[tt,tt,tt,tt,tt,tt,tt,tt,tt,ff] rfl rfl (take_ofW HT_.out HW_.out (by kernel_rfl)) (fun _ _ _ h => nomatch h.1) (Or.inl ⟨by rfl, ?_⟩) hHeld ?_ ?_
 rotate_left
 ·rintro w' ⟨s0, s1⟩
  go_simp
  with_reducible rfl
 rotate_left
 ·simp only [Act.put, sA, sB, sC, i64_w, i32_w]
  rfl
 refine pure_ (i := 9) (N := some 8) (v := ?_) (a' := ?_) #[tt,tt,tt,tt,tt,tt,tt,tt,tt,tt] rfl rfl (any_of HT_.out (by kernel_rfl)) (fun _ _ _ h => nomatch h.1) (Or.inl ⟨by rfl, ?_⟩) ?_ ?_
 rotate_left
 ·intro w'
  go_simp
  with_reducible rfl
 rotate_left
 ·simp only [Act.put, sA, sB, sC, i64_w, i32_w]
  rfl
 refine done_ (done_of HT_.out (by kernel_rfl)) ?_
 refine ⟨rfl, ?_⟩
 clear hHeld HT_ HW_
 have HS2 := Aside0.mk (HS1.out.below (below_drew1 (Below.refl _ w1)))
 have HR2 := Aside0.mk (Kd.R_below HR.out (below_drew1 (Below.refl _ w1)))
 clear HST HS1 HR
 generalize w1.drew = w2 at HS2 HR2 ⊢
 have d2 : w2.cell? ⟨g, 2, none⟩ = some (.int .i64 first) := (blk_cell HS2.out.blk 2).trans rfl
 have d1 : w2.cell? ⟨g, 1, none⟩ = some (.int .i64 roll) := (blk_cell HS2.out.blk 1).trans rfl
 go_upto_region 9 with fail
 clear d1 d2 k1 k2 k3 kw
 have hseg : ∀ W, Calls Tryz.prog 25 #[.int .i64 (last + 1)] W fun e w' => e = .returned (.string (segK n)) ∧ w' = W := fun W => by rw [← HLN.out]; exact segment_calls n HN100.out W
 have HS3 := Aside0.mk (HS2.out.below (below_drew1 (Below.refl _ w2)))
 have HR3 := Aside0.mk (Kd.R_below HR2.out (below_drew1 (Below.refl _ w2)))
 have hap := HS3.out.append (segK n) (seg_named HN100.out) HR3.out HFU.out (by rw [HFL.out]; exact HLE.out)
 generalize D.append (segK n) fb = r1 at hap HPUT
 obtain ⟨D1, e1⟩ := r1
 simp only at HPUT
 refine wp_mono (Q := fun e a w => e = .normal ∧ _) ?_ (fun e a w h => h.2)
 refine start_ (n := 11) (S := fun w' => w'.cell? ⟨g, 0, none⟩ = some (.pointer (some ⟨s, 0, none⟩))) (ds := []) #[ff,ff,ff,ff,ff,ff,ff,ff,ff,ff,ff] (by kernel_rfl) rfl rfl (((blk_cell HS3.out.blk 0).trans rfl)) (fun hHeld => ?_)
 refine with_tabW q9.tab9 q9.bits9 (fun HT_ HW_ => ?_)
 refine pure_ (i := 0) (N := some 54) (v := ?_) (a' := ?_) #[tt,ff,ff,ff,ff,ff,ff,ff,ff,ff,ff] rfl rfl (any_of HT_.out (by kernel_rfl)) (fun _ _ _ h => nomatch h.1) (Or.inl ⟨by rfl, ?_⟩) ?_ ?_
 rotate_left
 ·intro w'
  go_simp
  with_reducible rfl
 rotate_left
 ·simp only [Act.put, sA, sB, sC, i64_w, i32_w]
  rfl
 refine pure_ (i := 1) (N := some 55) (v := ?_) (a' := ?_) #[tt,tt,ff,ff,ff,ff,ff,ff,ff,ff,ff] rfl rfl (any_of HT_.out (by kernel_rfl)) (fun _ _ _ h => nomatch h.1) (Or.inl ⟨by rfl, ?_⟩) ?_ ?_
 rotate_left
 ·intro w'
  go_simp
  with_reducible rfl
 rotate_left
 ·simp only [Act.put, sA, sB, sC, i64_w, i32_w]
  rfl
 refine pure_ (i := 2) (N := some 56) (v := ?_) (a' := ?_) #[tt,tt,tt,ff,ff,ff,ff,ff,ff,ff,ff] rfl rfl (any_of HT_.out (by kernel_rfl)) (fun _ _ _ h => nomatch h.1) (Or.inl ⟨by rfl, ?_⟩) ?_ ?_
 rotate_left
 ·intro w'
  go_simp
  with_reducible rfl
 rotate_left
 ·simp only [Act.put, sA, sB, sC, i64_w, i32_w]
  rfl
 refine pure_ (i := 3) (N := some 57) (v := ?_) (a' := ?_) #[tt,tt,tt,tt,ff,ff,ff,ff,ff,ff,ff] rfl rfl (any_of HT_.out (by kernel_rfl)) (fun _ _ _ h => nomatch h.1) (Or.inl ⟨by rfl, ?_⟩) ?_ ?_
 rotate_left
 ·intro w'
  go_simp
  with_reducible rfl
 rotate_left
 ·simp only [Act.put, sA, sB, sC, i64_w, i32_w]
  rfl
 refine pure_ (i := 5) (N := some 59) (v := ?_) (a' := ?_) #[tt,tt,tt,tt,ff,tt,ff,ff,ff,ff,ff] rfl rfl (any_of HT_.out (by kernel_rfl)) (fun _ _ _ h => nomatch h.1) (Or.inl ⟨by rfl, ?_⟩) ?_ ?_
 rotate_left
 ·intro w'
  go_simp
  with_reducible rfl
 rotate_left
 ·simp only [Act.put, sA, sB, sC, i64_w, i32_w]
  rfl
 refine pure_ (i := 7) (N := some 61) (v := ?_) (a' := ?_) #[tt,tt,tt,tt,ff,tt,ff,tt,ff,ff,ff] rfl rfl (any_of HT_.out (by kernel_rfl)) (fun _ _ _ h => nomatch h.1) (Or.inl ⟨by rfl, ?_⟩) ?_ ?_
 rotate_left
 ·intro w'
  go_simp
  with_reducible rfl
 rotate_left
 ·simp only [Act.put, sA, sB, sC, i64_w, i32_w]
  rfl
 refine take_ (i := 4) (N := some 58) (v := ?_) (a' := ?_) #[tt,tt,tt,tt,tt,tt,ff,tt,ff,ff,ff] rfl rfl (take_ofW HT_.out HW_.out (by kernel_rfl)) (fun _ _ _ h => nomatch h.1) (Or.inl ⟨by rfl, ?_⟩) hHeld ?_ ?_
 rotate_left
 ·intro w' s0
  go_simp
  with_reducible rfl
 rotate_left
 ·simp only [Act.put, sA, sB, sC, i64_w, i32_w]
  rfl
 refine one_ (i := 6) (N := some 60) #[tt,tt,tt,tt,tt,tt,tt,tt,ff,ff,ff] rfl rfl (one_of HT_.out (by kernel_rfl)) (by decide) (fun K hK => ?_)
 refine goes_ Tryz.func25 (by kernel_rfl) rfl #[.int .i64 (last + 1)] (by rfl) rfl rfl (by simp only [List.map_toArray, List.map_cons, List.map_nil]; rfl) ?_
 with_reducible refine (hseg _).mono ?_
 rintro e w3 ⟨rfl, rfl⟩
 refine ⟨_, rfl, ?_⟩
 refine hK.out _ _ (((blk_cell HS3.out.blk 0).trans rfl)) (fun hHeld => ?_)
 clear hK K
 refine norm_ (a' := ?_) ?_ ?_
 rotate_left
 ·show Act.put _ (some 60) _ = _
  simp only [Act.put, sA, sB, sC, i64_w, i32_w]
  rfl
 refine one_ (i := 8) (N := some 62) #[tt,tt,tt,tt,tt,tt,tt,tt,tt,ff,ff] rfl rfl (one_of HT_.out (by kernel_rfl)) (by decide) (fun K hK => ?_)
 refine goes_ Tryz.func24 (by kernel_rfl) rfl #[.pointer (some ⟨s, 0, none⟩), .string (segK n), .slice fA fl fc] (by rfl) rfl rfl (by simp only [List.map_toArray, List.map_cons, List.map_nil]; rfl) ?_
 with_reducible refine ((show Calls _ _ _ _ _ from hap)).mono ?_
 rintro e w5x ⟨rfl, hst, hkp⟩
 refine ⟨_, rfl, ?_⟩
 have p_S := Aside0.mk hst
 have p_R := Aside0.mk (hkp.rd HR3.out)
 have hnt := hst.note e1
 clear hst hkp hap
 refine hK.out _ _ (((blk_cell p_S.out.blk 0).trans rfl)) (fun hHeld => ?_)
 clear hK K
 refine norm_ (a' := ?_) ?_ ?_
 rotate_left
 ·show Act.put _ (some 62) _ = _
  simp only [Act.put, sA, sB, sC, i64_w, i32_w]
  rfl
 refine one_ (i := 9) (N := some 63) #[tt,tt,tt,tt,tt,tt,tt,tt,tt,tt,ff] rfl rfl (one_of HT_.out (by kernel_rfl)) (by decide) (fun K hK => ?_)
 refine goes_ Tryz.func23 (by kernel_rfl) rfl #[.pointer (some ⟨g, 0, none⟩), .int .i64 e1] (by rfl) rfl rfl (by simp only [List.map_toArray, List.map_cons, List.map_nil]; rfl) ?_
 with_reducible refine ((show Calls _ _ _ _ _ from hnt)).mono ?_
 rintro e w6x ⟨rfl, hst, hkp⟩
 refine ⟨_, rfl, ?_⟩
 have r_S := Aside0.mk hst
 have r_R := Aside0.mk (hkp.rd p_R.out)
 clear hst hkp hnt p_S p_R
 refine hK.out _ _ (((blk_cell r_S.out.blk 0).trans rfl)) (fun hHeld => ?_)
 clear hK K
 refine norm_ (a' := ?_) ?_ ?_
 rotate_left
 ·show Act.put _ (some 63) _ = _
  simp only [Act.put, sA, sB, sC, i64_w, i32_w]
  rfl
 refine pure_ (i := 10) (N := some 9) (v := ?_) (a' := ?_) #[tt,tt,tt,tt,tt,tt,tt,tt,tt,tt,tt] rfl rfl (any_of HT_.out (by kernel_rfl)) (fun _ _ _ h => nomatch h.1) (Or.inl ⟨by rfl, ?_⟩) ?_ ?_
 rotate_left
 ·intro w'
  go_simp
  with_reducible rfl
 rotate_left
 ·simp only [Act.put, sA, sB, sC, i64_w, i32_w]
  rfl
 refine done_ (done_of HT_.out (by kernel_rfl)) ?_
 refine ⟨rfl, ?_⟩
 clear hHeld HT_ HW_
 clear HS2 HR2 HS3 HR3
 generalize w6x = w7 at r_S r_R ⊢
 by_cases h0 : e1 = 0
 ·subst h0
  rw [note_zero] at r_S
  have hsy := (r_S.out.below (below_drew1 (Below.refl _ w7))).disk (fun F' hd => Sync_disk w7.drew s F' D1 (segK n) hd)
  have HSS := Aside0.mk (r_S.out.below (below_drew1 (Below.refl _ w7)))
  have HRR := Aside0.mk (Kd.R_below r_R.out (below_drew1 (Below.refl _ w7)))
  simp only [if_pos trivial] at HPUT
  generalize D1.sync (segK n) = r2 at hsy HPUT
  obtain ⟨D2, e2⟩ := r2
  simp only at HPUT
  go_upto_region 12 with fail
  refine wp_mono (Q := fun e a w => e = .normal ∧ _) ?_ (fun e a w h => h.2)
  refine start_ (n := 10) (S := fun w' => w'.cell? ⟨g, 0, none⟩ = some (.pointer (some ⟨s, 0, none⟩))) (ds := []) #[ff,ff,ff,ff,ff,ff,ff,ff,ff,ff] (by kernel_rfl) rfl rfl (((blk_cell HSS.out.blk 0).trans rfl)) (fun hHeld => ?_)
  refine with_tabW q9.tab12 q9.bits12 (fun HT_ HW_ => ?_)
  refine pure_ (i := 0) (N := some 67) (v := ?_) (a' := ?_) #[tt,ff,ff,ff,ff,ff,ff,ff,ff,ff] rfl rfl (any_of HT_.out (by kernel_rfl)) (fun _ _ _ h => nomatch h.1) (Or.inl ⟨by rfl, ?_⟩) ?_ ?_
  rotate_left
  ·intro w'
   go_simp
   with_reducible rfl
  rotate_left
  ·simp only [Act.put, sA, sB, sC, i64_w, i32_w]
   rfl
  refine pure_ (i := 1) (N := some 68) (v := ?_) (a' := ?_) #[tt,tt,ff,ff,ff,ff,ff,ff,ff,ff] rfl rfl (any_of HT_.out (by kernel_rfl)) (fun _ _ _ h => nomatch h.1) (Or.inl ⟨by rfl, ?_⟩) ?_ ?_
  rotate_left
  ·intro w'
   go_simp
   with_reducible rfl
  rotate_left
  ·simp only [Act.put, sA, sB, sC, i64_w, i32_w]
   rfl
  refine pure_ (i := 2) (N := some 69) (v := ?_) (a' := ?_) #[tt,tt,tt,ff,ff,ff,ff,ff,ff,ff] rfl rfl (any_of HT_.out (by kernel_rfl)) (fun _ _ _ h => nomatch h.1) (Or.inl ⟨by rfl, ?_⟩) ?_ ?_
  rotate_left
  ·intro w'
   go_simp
   with_reducible rfl
  rotate_left
  ·simp only [Act.put, sA, sB, sC, i64_w, i32_w]
   rfl
  refine pure_ (i := 3) (N := some 70) (v := ?_) (a' := ?_) #[tt,tt,tt,tt,ff,ff,ff,ff,ff,ff] rfl rfl (any_of HT_.out (by kernel_rfl)) (fun _ _ _ h => nomatch h.1) (Or.inl ⟨by rfl, ?_⟩) ?_ ?_
  rotate_left
  ·intro w'
   go_simp
   with_reducible rfl
  rotate_left
  ·simp only [Act.put, sA, sB, sC, i64_w, i32_w]
   rfl
  refine pure_ (i := 5) (N := some 72) (v := ?_) (a' := ?_) #[tt,tt,tt,tt,ff,tt,ff,ff,ff,ff] rfl rfl (any_of HT_.out (by kernel_rfl)) (fun _ _ _ h => nomatch h.1) (Or.inl ⟨by rfl, ?_⟩) ?_ ?_
  rotate_left
  ·intro w'
   go_simp
   with_reducible rfl
  rotate_left
  ·simp only [Act.put, sA, sB, sC, i64_w, i32_w]
   rfl
  refine take_ (i := 4) (N := some 71) (v := ?_) (a' := ?_) #[tt,tt,tt,tt,tt,tt,ff,ff,ff,ff] rfl rfl (take_ofW HT_.out HW_.out (by kernel_rfl)) (fun _ _ _ h => nomatch h.1) (Or.inl ⟨by rfl, ?_⟩) hHeld ?_ ?_
  rotate_left
  ·intro w' s0
   go_simp
   with_reducible rfl
  rotate_left
  ·simp only [Act.put, sA, sB, sC, i64_w, i32_w]
   rfl
  refine one_ (i := 6) (N := some 73) #[tt,tt,tt,tt,tt,tt,tt,ff,ff,ff] rfl rfl (one_of HT_.out (by kernel_rfl)) (by decide) (fun K hK => ?_)
  refine goes_ Tryz.func25 (by kernel_rfl) rfl #[.int .i64 (last + 1)] (by rfl) rfl rfl (by simp only [List.map_toArray, List.map_cons, List.map_nil]; rfl) ?_
  with_reducible refine (hseg _).mono ?_
  rintro e w3 ⟨rfl, rfl⟩
  refine ⟨_, rfl, ?_⟩
  refine hK.out _ _ (((blk_cell HSS.out.blk 0).trans rfl)) (fun hHeld => ?_)
  clear hK K
  refine norm_ (a' := ?_) ?_ ?_
  rotate_left
  ·show Act.put _ (some 73) _ = _
   simp only [Act.put, sA, sB, sC, i64_w, i32_w]
   rfl
  refine one_ (i := 7) (N := some 74) #[tt,tt,tt,tt,tt,tt,tt,tt,ff,ff] rfl rfl (one_of HT_.out (by kernel_rfl)) (by decide) (fun K hK => ?_)
  refine goes_ Tryz.func26 (by kernel_rfl) rfl #[.pointer (some ⟨s, 0, none⟩), .string (segK n)] (by rfl) rfl rfl (by simp only [List.map_toArray, List.map_cons, List.map_nil]; rfl) ?_
  with_reducible refine ((show Calls _ _ _ _ _ from hsy)).mono ?_
  rintro e w9x ⟨rfl, hst, hkp⟩
  refine ⟨_, rfl, ?_⟩
  have q_S := Aside0.mk hst
  have q_R := Aside0.mk (hkp.rd HRR.out)
  have hnt := hst.note e2
  clear hst hkp hsy
  refine hK.out _ _ (((blk_cell q_S.out.blk 0).trans rfl)) (fun hHeld => ?_)
  clear hK K
  refine norm_ (a' := ?_) ?_ ?_
  rotate_left
  ·show Act.put _ (some 74) _ = _
   simp only [Act.put, sA, sB, sC, i64_w, i32_w]
   rfl
  refine one_ (i := 8) (N := some 75) #[tt,tt,tt,tt,tt,tt,tt,tt,tt,ff] rfl rfl (one_of HT_.out (by kernel_rfl)) (by decide) (fun K hK => ?_)
  refine goes_ Tryz.func23 (by kernel_rfl) rfl #[.pointer (some ⟨g, 0, none⟩), .int .i64 e2] (by rfl) rfl rfl (by simp only [List.map_toArray, List.map_cons, List.map_nil]; rfl) ?_
  with_reducible refine ((show Calls _ _ _ _ _ from hnt)).mono ?_
  rintro e w10x ⟨rfl, hst, hkp⟩
  refine ⟨_, rfl, ?_⟩
  have s_S := Aside0.mk hst
  have s_R := Aside0.mk (hkp.rd q_R.out)
  clear hst hkp hnt q_S q_R
  refine hK.out _ _ (((blk_cell s_S.out.blk 0).trans rfl)) (fun hHeld => ?_)
  clear hK K
  refine norm_ (a' := ?_) ?_ ?_
  rotate_left
  ·show Act.put _ (some 75) _ = _
   simp only [Act.put, sA, sB, sC, i64_w, i32_w]
   rfl
  refine pure_ (i := 9) (N := some 10) (v := ?_) (a' := ?_) #[tt,tt,tt,tt,tt,tt,tt,tt,tt,tt] rfl rfl (any_of HT_.out (by kernel_rfl)) (fun _ _ _ h => nomatch h.1) (Or.inl ⟨by rfl, ?_⟩) ?_ ?_
  rotate_left
  ·intro w'
   go_simp
   with_reducible rfl
  rotate_left
  ·simp only [Act.put, sA, sB, sC, i64_w, i32_w]
   rfl
  refine done_ (done_of HT_.out (by kernel_rfl)) ?_
  refine ⟨rfl, ?_⟩
  clear hHeld HT_ HW_
  clear HSS HRR r_S r_R
  generalize w10x = w11 at s_S s_R ⊢
  by_cases h1 : e2 = 0
  ·subst h1
   rw [note_zero] at s_S
   simp only [if_pos trivial] at HPUT
   have d4 : w11.cell? ⟨g, 4, none⟩ = some (.int .i64 size) := (blk_cell s_S.out.blk 4).trans rfl
   have d3 : w11.cell? ⟨g, 3, none⟩ = some (.int .i64 last) := (blk_cell s_S.out.blk 3).trans rfl
   have d5 : w11.cell? ⟨g, 5, none⟩ = some (.int .i64 tail) := (blk_cell s_S.out.blk 5).trans rfl
   have f3 := blk_frozen s_S.out.blk 3
   have f4 := blk_frozen s_S.out.blk 4
   have f5 := blk_frozen s_S.out.blk 5
   rw [HFL.out] at HPUT
   have h3 := (s_S.out.set 3 (.int .i64 (last + 1)) (m' := ⟨roll, first, last + 1, size, tail, false⟩) rfl).1
   have h5 := (h3.set 5 (.int .i64 (fl : Int)) (m' := ⟨roll, first, last + 1, size, 0 + (fl : Int), false⟩) (by first | rfl | (rw [Int.zero_add]; rfl))).1
   have h4 := (h5.set 4 (.int .i64 (size + (fl : Int))) (m' := ⟨roll, first, last + 1, size + (fl : Int), 0 + (fl : Int), false⟩) rfl).1
   have FIN := Aside0.mk (RSt.out (r := ((_, _), 0)) h4)
   clear h3 h5 h4
   go_wp2_with fail
   (try simp only [hwn, hwt, hws, hwz])
   exact bodyPost_ret (v := .int .i64 0) (by simp [results, Tryz.results9, go_sem]) rfl (by rw [← HPUT.out]; exact FIN.out)
  ·have hb1 : (e2 != 0) = true := by simpa using h1
   rw [if_neg h1] at HPUT
   go_wp2_with fail
   exact bodyPost_ret (v := .int .i64 e2) (by simp [results, Tryz.results9, go_sem]) rfl (by rw [← HPUT.out]; exact RSt.out (r := ((_, _), _)) s_S.out)
 ·have hb1 : (e1 != 0) = true := by simpa using h0
  rw [if_neg h0] at HPUT
  go_wp2_with fail
  exact bodyPost_ret (v := .int .i64 e1) (by simp [results, Tryz.results9, go_sem]) rfl (by rw [← HPUT.out]; exact RSt.out (r := ((_, _), _)) r_S.out)
set_option maxRecDepth 100000 in
set_option maxHeartbeats 8000000 in
theorem append_p3 (w : World) (g s : Nat) (F : Nat → Prop) (m : Rl) (D : Dk) (A : Option Addr) (c : Nat) (b : List Int) (h : RlAt w g s F m D) (ok : RlOk m) (hd : m.down = false) (hC : Kd.C (Kd.int .u8) w A b.length b) (hu : ∀ x ∈ b, 0 ≤ x ∧ x ≤ 255) (hl : b.length ≤ 199000) (hN : Nib w) (hgn : 1 < w.heap.size)
  (h1 : ¬ m.last < m.first) (h2 : m.tail > 0) (h3 : ¬ ((frameB b).length : Int) > m.roll - m.tail) :
  Calls Tryz.prog 9 #[.pointer (some ⟨g, 0, none⟩), .slice A b.length c] w (RlOut g s F (rput m D m.last m.tail (frameB b)) w) := by
 have hfr := Frame_calls A c b w hC hu (by omega) hN hgn
 have hfl := frameB_len b (by omega)
 have HFU := Aside0.mk (frameB_u8 hu)
 have HST := Aside0.mk (RSt.start h)
 have d6 : w.cell? ⟨g, 6, none⟩ = some (.bool false) := (blk_cell h.blk 6).trans (by rw [← hd]; rfl)
 have hfr2 : Calls Tryz.prog 22 #[.slice A b.length c] w fun e w' => ∃ fA fc, e = .returned (.tuple #[.slice fA (frameB b).length fc, .int .i64 0]) ∧ Kd.R (Kd.int .u8) 5 w' w.heap.size (fun _ => True) (.slice fA (frameB b).length fc) (frameB b) ∧ Below w.heap.size w w' := hfr.mono (by
  rintro e w' ⟨⟨v, rfl, hR⟩, hb⟩
  obtain ⟨fA, fc, rfl⟩ := Kd.R_slice hR
  exact ⟨fA, fc, rfl, hR, hb⟩)
 clear hfr
 generalize frameB b = fb at hfr2 hfl HFU h3 ⊢
 obtain ⟨fl, hfl2⟩ : ∃ fl, fb.length = fl := ⟨_, rfl⟩
 rw [hfl2] at hfr2 hfl h3
 have HFL := Aside0.mk hfl2
 clear hfl2
 obtain ⟨roll, first, last, size, tail, down⟩ := m
 obtain rfl : down = false := hd
 obtain ⟨⟨o1, o2⟩, ⟨o3, o4⟩, ⟨o5, o6⟩, ⟨o7, o8⟩, ⟨o9, o10⟩⟩ := ok
 simp only at h1 h2 h3 o1 o2 o3 o4 o5 o6 o7 o8 o9 o10 ⊢
 have hb0 : decide ((b.length : Int) > 199000) = false := decide_eq_false (by omega)
 have k1 : decide (last < first) = false := decide_eq_false h1
 have k2 : decide (tail > 0) = true := decide_eq_true h2
 have k3 : decide ((fl : Int) > roll - tail) = false := decide_eq_false h3
 obtain ⟨n, hn⟩ : ∃ n : Nat, (n : Int) = last := ⟨(last).toNat, by omega⟩
 have hn100 : n < 100 := by omega
 have HN100 := Aside0.mk hn100
 have HLN := Aside0.mk hn
 have HZN := Aside0.mk (show segZ (last) = segK n by unfold segZ; rw [← hn, Int.toNat_natCast])
 have HLE := Aside0.mk (show fl ≤ 1000000000 by omega)
 have q1 : -9223372036854775808 ≤ last + 1 ∧ last + 1 ≤ 9223372036854775807 := by omega
 have q2 : -9223372036854775808 ≤ tail + (fl : Int) ∧ tail + (fl : Int) ≤ 9223372036854775807 := by omega
 have q3 : -9223372036854775808 ≤ size + (fl : Int) ∧ size + (fl : Int) ≤ 9223372036854775807 := by omega
 have kw : wrap64 (roll - tail) = roll - tail := wrap_in (by omega) (by omega)
 generalize b.length = bl at hfr2 hb0
 clear h hC hu hl hN hgn hfl o1 o2 o3 o4 o5 o6 o7 o8 o9 o10 hn100 h1 h2 h3 hn
 have hwn : wrap64 (last + 1) = (last + 1) := wrap_in q1.1 q1.2
 have hwt : wrap64 (tail + (fl : Int)) = tail + fl := wrap_in q2.1 q2.2
 have hws : wrap64 (size + (fl : Int)) = size + fl := wrap_in q3.1 q3.2
 clear q1 q2 q3
 generalize hrp : rput ⟨roll, first, last, size, tail, false⟩ D (last) tail fb = rp
 unfold rput at hrp
 rw [HZN.out] at hrp
 have HPUT := Aside0.mk hrp
 clear hrp
 go_enter Tryz.func9, Tryz.ntmps9
 go_upto_region 6 with (go_at_call 22; refine hfr2.mono ?_; rintro e w1 ⟨fA, fc, rfl, hR, hb⟩; have HR := Aside0.mk hR; have HS1 := Aside0.mk (HST.out.below hb); clear hR hb hfr2 d6)
 refine wp_mono (Q := fun e a w => e = .normal ∧ _) ?_ (fun e a w h => h.2)
 refine start_ (n := 10) (S := fun w' => w'.cell? ⟨g, 3, none⟩ = some (.int .i64 last) ∧ w'.cell? ⟨g, 5, none⟩ = some (.int .i64 tail)) (ds := []) #[ff,ff,ff,ff,ff,ff,ff,ff,ff,ff] (by kernel_rfl) rfl rfl ⟨((blk_cell (blk_drew HS1.out.blk) 3).trans rfl), ((blk_cell (blk_drew HS1.out.blk) 5).trans rfl)⟩ (fun hHeld => ?_)
 refine with_tabW q9.tab6 q9.bits6 (fun HT_ HW_ => ?_)
 refine pure_ (i := 0) (N := some 23) (v := ?_) (a' := ?_) #[tt,ff,ff,ff,ff,ff,ff,ff,ff,ff] rfl rfl (any_of HT_.out (by kernel_rfl)) (fun _ _ _ h => nomatch h.1) (Or.inl ⟨by rfl, ?_⟩) ?_ ?_
 rotate_left
 ·intro w'
  go_simp
  with_reducible rfl
 rotate_left
 ·simp only [Act.put, sA, sB, sC, i64_w, i32_w]
  rfl
 refine pure_ (i := 1) (N := some 24) (v := ?_) (a' := ?_) #[tt,tt,ff,ff,ff,ff,ff,ff,ff,ff] rfl rfl (any_of HT_.out (by kernel_rfl)) (fun _ _ _ h => nomatch h.1) (Or.inl ⟨by rfl, ?_⟩) ?_ ?_
 rotate_left
 ·intro w'
  go_simp
  with_reducible rfl
 rotate_left
 ·simp only [Act.put, sA, sB, sC, i64_w, i32_w]
  rfl
 refine pure_ (i := 2) (N := some 25) (v := ?_) (a' := ?_) #[tt,tt,tt,ff,ff,ff,ff,ff,ff,ff] rfl rfl (any_of HT_.out (by kernel_rfl)) (fun _ _ _ h => nomatch h.1) (Or.inl ⟨by rfl, ?_⟩) ?_ ?_
 rotate_left
 ·intro w'
  go_simp
  with_reducible rfl
 rotate_left
 ·simp only [Act.put, sA, sB, sC, i64_w, i32_w]
  rfl
 refine pure_ (i := 4) (N := some 27) (v := ?_) (a' := ?_) #[tt,tt,tt,ff,tt,ff,ff,ff,ff,ff] rfl rfl (any_of HT_.out (by kernel_rfl)) (fun _ _ _ h => nomatch h.1) (Or.inl ⟨by rfl, ?_⟩) ?_ ?_
 rotate_left
 ·intro w'
  go_simp
  with_reducible rfl
 rotate_left
 ·simp only [Act.put, sA, sB, sC, i64_w, i32_w]
  rfl
 refine pure_ (i := 5) (N := some 28) (v := ?_) (a' := ?_) #[tt,tt,tt,ff,tt,tt,ff,ff,ff,ff] rfl rfl (any_of HT_.out (by kernel_rfl)) (fun _ _ _ h => nomatch h.1) (Or.inl ⟨by rfl, ?_⟩) ?_ ?_
 rotate_left
 ·intro w'
  go_simp
  with_reducible rfl
 rotate_left
 ·simp only [Act.put, sA, sB, sC, i64_w, i32_w]
  rfl
 refine pure_ (i := 6) (N := some 29) (v := ?_) (a' := ?_) #[tt,tt,tt,ff,tt,tt,tt,ff,ff,ff] rfl rfl (any_of HT_.out (by kernel_rfl)) (fun _ _ _ h => nomatch h.1) (Or.inl ⟨by rfl, ?_⟩) ?_ ?_
 rotate_left
 ·intro w'
  go_simp
  with_reducible rfl
 rotate_left
 ·simp only [Act.put, sA, sB, sC, i64_w, i32_w]
  rfl
 refine take_ (i := 3) (N := some 26) (v := ?_) (a' := ?_) #[tt,tt,tt,tt,tt,tt,tt,ff,ff,ff] rfl rfl (take_ofW HT_.out HW_.out (by kernel_rfl)) (fun _ _ _ h => nomatch h.1) (Or.inl ⟨by rfl, ?_⟩) hHeld ?_ ?_
 rotate_left
 ·rintro w' ⟨s0, s1⟩
  go_simp
  with_reducible rfl
 rotate_left
 ·simp only [Act.put, sA, sB, sC, i64_w, i32_w]
  rfl
 refine pure_ (i := 8) (N := some 7) (v := ?_) (a' := ?_) #[tt,tt,tt,tt,tt,tt,tt,ff,tt,ff] rfl rfl (any_of HT_.out (by kernel_rfl)) (fun _ _ _ h => nomatch h.1) (Or.inl ⟨by rfl, ?_⟩) ?_ ?_
 rotate_left
 ·intro w'
  go_simp
  with_reducible rfl
 rotate_left
 ·simp only [Act.put, sA, sB, sC, i64_w, i32_w]
  rfl
 refine take_ (i := 7) (N := some 30) (v := ?_) (a' := ?_) #[tt,tt,tt,tt,tt,tt,tt,tt,tt,ff] rfl rfl (take_ofW HT_.out HW_.out (by kernel_rfl)) (fun _ _ _ h => nomatch h.1) (Or.inl ⟨by rfl, ?_⟩) hHeld ?_ ?_
 rotate_left
 ·rintro w' ⟨s0, s1⟩
  go_simp
  with_reducible rfl
 rotate_left
 ·simp only [Act.put, sA, sB, sC, i64_w, i32_w]
  rfl
 refine pure_ (i := 9) (N := some 8) (v := ?_) (a' := ?_) #[tt,tt,tt,tt,tt,tt,tt,tt,tt,tt] rfl rfl (any_of HT_.out (by kernel_rfl)) (fun _ _ _ h => nomatch h.1) (Or.inl ⟨by rfl, ?_⟩) ?_ ?_
 rotate_left
 ·intro w'
  go_simp
  with_reducible rfl
 rotate_left
 ·simp only [Act.put, sA, sB, sC, i64_w, i32_w]
  rfl
 refine done_ (done_of HT_.out (by kernel_rfl)) ?_
 refine ⟨rfl, ?_⟩
 clear hHeld HT_ HW_
 have HS2 := Aside0.mk (HS1.out.below (below_drew1 (Below.refl _ w1)))
 have HR2 := Aside0.mk (Kd.R_below HR.out (below_drew1 (Below.refl _ w1)))
 clear HST HS1 HR
 generalize w1.drew = w2 at HS2 HR2 ⊢
 have d2 : w2.cell? ⟨g, 2, none⟩ = some (.int .i64 first) := (blk_cell HS2.out.blk 2).trans rfl
 have d1 : w2.cell? ⟨g, 1, none⟩ = some (.int .i64 roll) := (blk_cell HS2.out.blk 1).trans rfl
 go_upto_region 9 with fail
 clear d1 d2 k1 k2 k3 kw
 have hseg : ∀ W, Calls Tryz.prog 25 #[.int .i64 (last)] W fun e w' => e = .returned (.string (segK n)) ∧ w' = W := fun W => by rw [← HLN.out]; exact segment_calls n HN100.out W
 have HS3 := Aside0.mk (HS2.out.below (below_drew1 (Below.refl _ w2)))
 have HR3 := Aside0.mk (Kd.R_below HR2.out (below_drew1 (Below.refl _ w2)))
 have hap := HS3.out.append (segK n) (seg_named HN100.out) HR3.out HFU.out (by rw [HFL.out]; exact HLE.out)
 generalize D.append (segK n) fb = r1 at hap HPUT
 obtain ⟨D1, e1⟩ := r1
 simp only at HPUT
 refine wp_mono (Q := fun e a w => e = .normal ∧ _) ?_ (fun e a w h => h.2)
 refine start_ (n := 11) (S := fun w' => w'.cell? ⟨g, 0, none⟩ = some (.pointer (some ⟨s, 0, none⟩))) (ds := []) #[ff,ff,ff,ff,ff,ff,ff,ff,ff,ff,ff] (by kernel_rfl) rfl rfl (((blk_cell HS3.out.blk 0).trans rfl)) (fun hHeld => ?_)
 refine with_tabW q9.tab9 q9.bits9 (fun HT_ HW_ => ?_)
 refine pure_ (i := 0) (N := some 54) (v := ?_) (a' := ?_) #[tt,ff,ff,ff,ff,ff,ff,ff,ff,ff,ff] rfl rfl (any_of HT_.out (by kernel_rfl)) (fun _ _ _ h => nomatch h.1) (Or.inl ⟨by rfl, ?_⟩) ?_ ?_
 rotate_left
 ·intro w'
  go_simp
  with_reducible rfl
 rotate_left
 ·simp only [Act.put, sA, sB, sC, i64_w, i32_w]
  rfl
 refine pure_ (i := 1) (N := some 55) (v := ?_) (a' := ?_) #[tt,tt,ff,ff,ff,ff,ff,ff,ff,ff,ff] rfl rfl (any_of HT_.out (by kernel_rfl)) (fun _ _ _ h => nomatch h.1) (Or.inl ⟨by rfl, ?_⟩) ?_ ?_
 rotate_left
 ·intro w'
  go_simp
  with_reducible rfl
 rotate_left
 ·simp only [Act.put, sA, sB, sC, i64_w, i32_w]
  rfl
 refine pure_ (i := 2) (N := some 56) (v := ?_) (a' := ?_) #[tt,tt,tt,ff,ff,ff,ff,ff,ff,ff,ff] rfl rfl (any_of HT_.out (by kernel_rfl)) (fun _ _ _ h => nomatch h.1) (Or.inl ⟨by rfl, ?_⟩) ?_ ?_
 rotate_left
 ·intro w'
  go_simp
  with_reducible rfl
 rotate_left
 ·simp only [Act.put, sA, sB, sC, i64_w, i32_w]
  rfl
 refine pure_ (i := 3) (N := some 57) (v := ?_) (a' := ?_) #[tt,tt,tt,tt,ff,ff,ff,ff,ff,ff,ff] rfl rfl (any_of HT_.out (by kernel_rfl)) (fun _ _ _ h => nomatch h.1) (Or.inl ⟨by rfl, ?_⟩) ?_ ?_
 rotate_left
 ·intro w'
  go_simp
  with_reducible rfl
 rotate_left
 ·simp only [Act.put, sA, sB, sC, i64_w, i32_w]
  rfl
 refine pure_ (i := 5) (N := some 59) (v := ?_) (a' := ?_) #[tt,tt,tt,tt,ff,tt,ff,ff,ff,ff,ff] rfl rfl (any_of HT_.out (by kernel_rfl)) (fun _ _ _ h => nomatch h.1) (Or.inl ⟨by rfl, ?_⟩) ?_ ?_
 rotate_left
 ·intro w'
  go_simp
  with_reducible rfl
 rotate_left
 ·simp only [Act.put, sA, sB, sC, i64_w, i32_w]
  rfl
 refine pure_ (i := 7) (N := some 61) (v := ?_) (a' := ?_) #[tt,tt,tt,tt,ff,tt,ff,tt,ff,ff,ff] rfl rfl (any_of HT_.out (by kernel_rfl)) (fun _ _ _ h => nomatch h.1) (Or.inl ⟨by rfl, ?_⟩) ?_ ?_
 rotate_left
 ·intro w'
  go_simp
  with_reducible rfl
 rotate_left
 ·simp only [Act.put, sA, sB, sC, i64_w, i32_w]
  rfl
 refine take_ (i := 4) (N := some 58) (v := ?_) (a' := ?_) #[tt,tt,tt,tt,tt,tt,ff,tt,ff,ff,ff] rfl rfl (take_ofW HT_.out HW_.out (by kernel_rfl)) (fun _ _ _ h => nomatch h.1) (Or.inl ⟨by rfl, ?_⟩) hHeld ?_ ?_
 rotate_left
 ·intro w' s0
  go_simp
  with_reducible rfl
 rotate_left
 ·simp only [Act.put, sA, sB, sC, i64_w, i32_w]
  rfl
 refine one_ (i := 6) (N := some 60) #[tt,tt,tt,tt,tt,tt,tt,tt,ff,ff,ff] rfl rfl (one_of HT_.out (by kernel_rfl)) (by decide) (fun K hK => ?_)
 refine goes_ Tryz.func25 (by kernel_rfl) rfl #[.int .i64 (last)] (by rfl) rfl rfl (by simp only [List.map_toArray, List.map_cons, List.map_nil]; rfl) ?_
 with_reducible refine (hseg _).mono ?_
 rintro e w3 ⟨rfl, rfl⟩
 refine ⟨_, rfl, ?_⟩
 refine hK.out _ _ (((blk_cell HS3.out.blk 0).trans rfl)) (fun hHeld => ?_)
 clear hK K
 refine norm_ (a' := ?_) ?_ ?_
 rotate_left
 ·show Act.put _ (some 60) _ = _
  simp only [Act.put, sA, sB, sC, i64_w, i32_w]
  rfl
 refine one_ (i := 8) (N := some 62) #[tt,tt,tt,tt,tt,tt,tt,tt,tt,ff,ff] rfl rfl (one_of HT_.out (by kernel_rfl)) (by decide) (fun K hK => ?_)
 refine goes_ Tryz.func24 (by kernel_rfl) rfl #[.pointer (some ⟨s, 0, none⟩), .string (segK n), .slice fA fl fc] (by rfl) rfl rfl (by simp only [List.map_toArray, List.map_cons, List.map_nil]; rfl) ?_
 with_reducible refine ((show Calls _ _ _ _ _ from hap)).mono ?_
 rintro e w5x ⟨rfl, hst, hkp⟩
 refine ⟨_, rfl, ?_⟩
 have p_S := Aside0.mk hst
 have p_R := Aside0.mk (hkp.rd HR3.out)
 have hnt := hst.note e1
 clear hst hkp hap
 refine hK.out _ _ (((blk_cell p_S.out.blk 0).trans rfl)) (fun hHeld => ?_)
 clear hK K
 refine norm_ (a' := ?_) ?_ ?_
 rotate_left
 ·show Act.put _ (some 62) _ = _
  simp only [Act.put, sA, sB, sC, i64_w, i32_w]
  rfl
 refine one_ (i := 9) (N := some 63) #[tt,tt,tt,tt,tt,tt,tt,tt,tt,tt,ff] rfl rfl (one_of HT_.out (by kernel_rfl)) (by decide) (fun K hK => ?_)
 refine goes_ Tryz.func23 (by kernel_rfl) rfl #[.pointer (some ⟨g, 0, none⟩), .int .i64 e1] (by rfl) rfl rfl (by simp only [List.map_toArray, List.map_cons, List.map_nil]; rfl) ?_
 with_reducible refine ((show Calls _ _ _ _ _ from hnt)).mono ?_
 rintro e w6x ⟨rfl, hst, hkp⟩
 refine ⟨_, rfl, ?_⟩
 have r_S := Aside0.mk hst
 have r_R := Aside0.mk (hkp.rd p_R.out)
 clear hst hkp hnt p_S p_R
 refine hK.out _ _ (((blk_cell r_S.out.blk 0).trans rfl)) (fun hHeld => ?_)
 clear hK K
 refine norm_ (a' := ?_) ?_ ?_
 rotate_left
 ·show Act.put _ (some 63) _ = _
  simp only [Act.put, sA, sB, sC, i64_w, i32_w]
  rfl
 refine pure_ (i := 10) (N := some 9) (v := ?_) (a' := ?_) #[tt,tt,tt,tt,tt,tt,tt,tt,tt,tt,tt] rfl rfl (any_of HT_.out (by kernel_rfl)) (fun _ _ _ h => nomatch h.1) (Or.inl ⟨by rfl, ?_⟩) ?_ ?_
 rotate_left
 ·intro w'
  go_simp
  with_reducible rfl
 rotate_left
 ·simp only [Act.put, sA, sB, sC, i64_w, i32_w]
  rfl
 refine done_ (done_of HT_.out (by kernel_rfl)) ?_
 refine ⟨rfl, ?_⟩
 clear hHeld HT_ HW_
 clear HS2 HR2 HS3 HR3
 generalize w6x = w7 at r_S r_R ⊢
 by_cases h0 : e1 = 0
 ·subst h0
  rw [note_zero] at r_S
  have hsy := (r_S.out.below (below_drew1 (Below.refl _ w7))).disk (fun F' hd => Sync_disk w7.drew s F' D1 (segK n) hd)
  have HSS := Aside0.mk (r_S.out.below (below_drew1 (Below.refl _ w7)))
  have HRR := Aside0.mk (Kd.R_below r_R.out (below_drew1 (Below.refl _ w7)))
  simp only [if_pos trivial] at HPUT
  generalize D1.sync (segK n) = r2 at hsy HPUT
  obtain ⟨D2, e2⟩ := r2
  simp only at HPUT
  go_upto_region 12 with fail
  refine wp_mono (Q := fun e a w => e = .normal ∧ _) ?_ (fun e a w h => h.2)
  refine start_ (n := 10) (S := fun w' => w'.cell? ⟨g, 0, none⟩ = some (.pointer (some ⟨s, 0, none⟩))) (ds := []) #[ff,ff,ff,ff,ff,ff,ff,ff,ff,ff] (by kernel_rfl) rfl rfl (((blk_cell HSS.out.blk 0).trans rfl)) (fun hHeld => ?_)
  refine with_tabW q9.tab12 q9.bits12 (fun HT_ HW_ => ?_)
  refine pure_ (i := 0) (N := some 67) (v := ?_) (a' := ?_) #[tt,ff,ff,ff,ff,ff,ff,ff,ff,ff] rfl rfl (any_of HT_.out (by kernel_rfl)) (fun _ _ _ h => nomatch h.1) (Or.inl ⟨by rfl, ?_⟩) ?_ ?_
  rotate_left
  ·intro w'
   go_simp
   with_reducible rfl
  rotate_left
  ·simp only [Act.put, sA, sB, sC, i64_w, i32_w]
   rfl
  refine pure_ (i := 1) (N := some 68) (v := ?_) (a' := ?_) #[tt,tt,ff,ff,ff,ff,ff,ff,ff,ff] rfl rfl (any_of HT_.out (by kernel_rfl)) (fun _ _ _ h => nomatch h.1) (Or.inl ⟨by rfl, ?_⟩) ?_ ?_
  rotate_left
  ·intro w'
   go_simp
   with_reducible rfl
  rotate_left
  ·simp only [Act.put, sA, sB, sC, i64_w, i32_w]
   rfl
  refine pure_ (i := 2) (N := some 69) (v := ?_) (a' := ?_) #[tt,tt,tt,ff,ff,ff,ff,ff,ff,ff] rfl rfl (any_of HT_.out (by kernel_rfl)) (fun _ _ _ h => nomatch h.1) (Or.inl ⟨by rfl, ?_⟩) ?_ ?_
  rotate_left
  ·intro w'
   go_simp
   with_reducible rfl
  rotate_left
  ·simp only [Act.put, sA, sB, sC, i64_w, i32_w]
   rfl
  refine pure_ (i := 3) (N := some 70) (v := ?_) (a' := ?_) #[tt,tt,tt,tt,ff,ff,ff,ff,ff,ff] rfl rfl (any_of HT_.out (by kernel_rfl)) (fun _ _ _ h => nomatch h.1) (Or.inl ⟨by rfl, ?_⟩) ?_ ?_
  rotate_left
  ·intro w'
   go_simp
   with_reducible rfl
  rotate_left
  ·simp only [Act.put, sA, sB, sC, i64_w, i32_w]
   rfl
  refine pure_ (i := 5) (N := some 72) (v := ?_) (a' := ?_) #[tt,tt,tt,tt,ff,tt,ff,ff,ff,ff] rfl rfl (any_of HT_.out (by kernel_rfl)) (fun _ _ _ h => nomatch h.1) (Or.inl ⟨by rfl, ?_⟩) ?_ ?_
  rotate_left
  ·intro w'
   go_simp
   with_reducible rfl
  rotate_left
  ·simp only [Act.put, sA, sB, sC, i64_w, i32_w]
   rfl
  refine take_ (i := 4) (N := some 71) (v := ?_) (a' := ?_) #[tt,tt,tt,tt,tt,tt,ff,ff,ff,ff] rfl rfl (take_ofW HT_.out HW_.out (by kernel_rfl)) (fun _ _ _ h => nomatch h.1) (Or.inl ⟨by rfl, ?_⟩) hHeld ?_ ?_
  rotate_left
  ·intro w' s0
   go_simp
   with_reducible rfl
  rotate_left
  ·simp only [Act.put, sA, sB, sC, i64_w, i32_w]
   rfl
  refine one_ (i := 6) (N := some 73) #[tt,tt,tt,tt,tt,tt,tt,ff,ff,ff] rfl rfl (one_of HT_.out (by kernel_rfl)) (by decide) (fun K hK => ?_)
  refine goes_ Tryz.func25 (by kernel_rfl) rfl #[.int .i64 (last)] (by rfl) rfl rfl (by simp only [List.map_toArray, List.map_cons, List.map_nil]; rfl) ?_
  with_reducible refine (hseg _).mono ?_
  rintro e w3 ⟨rfl, rfl⟩
  refine ⟨_, rfl, ?_⟩
  refine hK.out _ _ (((blk_cell HSS.out.blk 0).trans rfl)) (fun hHeld => ?_)
  clear hK K
  refine norm_ (a' := ?_) ?_ ?_
  rotate_left
  ·show Act.put _ (some 73) _ = _
   simp only [Act.put, sA, sB, sC, i64_w, i32_w]
   rfl
  refine one_ (i := 7) (N := some 74) #[tt,tt,tt,tt,tt,tt,tt,tt,ff,ff] rfl rfl (one_of HT_.out (by kernel_rfl)) (by decide) (fun K hK => ?_)
  refine goes_ Tryz.func26 (by kernel_rfl) rfl #[.pointer (some ⟨s, 0, none⟩), .string (segK n)] (by rfl) rfl rfl (by simp only [List.map_toArray, List.map_cons, List.map_nil]; rfl) ?_
  with_reducible refine ((show Calls _ _ _ _ _ from hsy)).mono ?_
  rintro e w9x ⟨rfl, hst, hkp⟩
  refine ⟨_, rfl, ?_⟩
  have q_S := Aside0.mk hst
  have q_R := Aside0.mk (hkp.rd HRR.out)
  have hnt := hst.note e2
  clear hst hkp hsy
  refine hK.out _ _ (((blk_cell q_S.out.blk 0).trans rfl)) (fun hHeld => ?_)
  clear hK K
  refine norm_ (a' := ?_) ?_ ?_
  rotate_left
  ·show Act.put _ (some 74) _ = _
   simp only [Act.put, sA, sB, sC, i64_w, i32_w]
   rfl
  refine one_ (i := 8) (N := some 75) #[tt,tt,tt,tt,tt,tt,tt,tt,tt,ff] rfl rfl (one_of HT_.out (by kernel_rfl)) (by decide) (fun K hK => ?_)
  refine goes_ Tryz.func23 (by kernel_rfl) rfl #[.pointer (some ⟨g, 0, none⟩), .int .i64 e2] (by rfl) rfl rfl (by simp only [List.map_toArray, List.map_cons, List.map_nil]; rfl) ?_
  with_reducible refine ((show Calls _ _ _ _ _ from hnt)).mono ?_
  rintro e w10x ⟨rfl, hst, hkp⟩
  refine ⟨_, rfl, ?_⟩
  have s_S := Aside0.mk hst
  have s_R := Aside0.mk (hkp.rd q_R.out)
  clear hst hkp hnt q_S q_R
  refine hK.out _ _ (((blk_cell s_S.out.blk 0).trans rfl)) (fun hHeld => ?_)
  clear hK K
  refine norm_ (a' := ?_) ?_ ?_
  rotate_left
  ·show Act.put _ (some 75) _ = _
   simp only [Act.put, sA, sB, sC, i64_w, i32_w]
   rfl
  refine pure_ (i := 9) (N := some 10) (v := ?_) (a' := ?_) #[tt,tt,tt,tt,tt,tt,tt,tt,tt,tt] rfl rfl (any_of HT_.out (by kernel_rfl)) (fun _ _ _ h => nomatch h.1) (Or.inl ⟨by rfl, ?_⟩) ?_ ?_
  rotate_left
  ·intro w'
   go_simp
   with_reducible rfl
  rotate_left
  ·simp only [Act.put, sA, sB, sC, i64_w, i32_w]
   rfl
  refine done_ (done_of HT_.out (by kernel_rfl)) ?_
  refine ⟨rfl, ?_⟩
  clear hHeld HT_ HW_
  clear HSS HRR r_S r_R
  generalize w10x = w11 at s_S s_R ⊢
  by_cases h1 : e2 = 0
  ·subst h1
   rw [note_zero] at s_S
   simp only [if_pos trivial] at HPUT
   have d4 : w11.cell? ⟨g, 4, none⟩ = some (.int .i64 size) := (blk_cell s_S.out.blk 4).trans rfl
   have d3 : w11.cell? ⟨g, 3, none⟩ = some (.int .i64 last) := (blk_cell s_S.out.blk 3).trans rfl
   have d5 : w11.cell? ⟨g, 5, none⟩ = some (.int .i64 tail) := (blk_cell s_S.out.blk 5).trans rfl
   have f3 := blk_frozen s_S.out.blk 3
   have f4 := blk_frozen s_S.out.blk 4
   have f5 := blk_frozen s_S.out.blk 5
   rw [HFL.out] at HPUT
   have h3 := (s_S.out.set 3 (.int .i64 (last)) (m' := ⟨roll, first, last, size, tail, false⟩) rfl).1
   have h5 := (h3.set 5 (.int .i64 (tail + (fl : Int))) (m' := ⟨roll, first, last, size, tail + (fl : Int), false⟩) (by first | rfl | (rw [Int.zero_add]; rfl))).1
   have h4 := (h5.set 4 (.int .i64 (size + (fl : Int))) (m' := ⟨roll, first, last, size + (fl : Int), tail + (fl : Int), false⟩) rfl).1
   have FIN := Aside0.mk (RSt.out (r := ((_, _), 0)) h4)
   clear h3 h5 h4
   go_wp2_with fail
   (try simp only [hwn, hwt, hws])
   exact bodyPost_ret (v := .int .i64 0) (by simp [results, Tryz.results9, go_sem]) rfl (by rw [← HPUT.out]; exact FIN.out)
  ·have hb1 : (e2 != 0) = true := by simpa using h1
   rw [if_neg h1] at HPUT
   go_wp2_with fail
   exact bodyPost_ret (v := .int .i64 e2) (by simp [results, Tryz.results9, go_sem]) rfl (by rw [← HPUT.out]; exact RSt.out (r := ((_, _), _)) s_S.out)
 ·have hb1 : (e1 != 0) = true := by simpa using h0
  rw [if_neg h0] at HPUT
  go_wp2_with fail
  exact bodyPost_ret (v := .int .i64 e1) (by simp [results, Tryz.results9, go_sem]) rfl (by rw [← HPUT.out]; exact RSt.out (r := ((_, _), _)) r_S.out)
set_option maxRecDepth 100000 in
set_option maxHeartbeats 8000000 in
theorem append_p4 (w : World) (g s : Nat) (F : Nat → Prop) (m : Rl) (D : Dk) (A : Option Addr) (c : Nat) (b : List Int) (h : RlAt w g s F m D) (ok : RlOk m) (hd : m.down = false) (hC : Kd.C (Kd.int .u8) w A b.length b) (hu : ∀ x ∈ b, 0 ≤ x ∧ x ≤ 255) (hl : b.length ≤ 199000) (hN : Nib w) (hgn : 1 < w.heap.size)
  (h1 : ¬ m.last < m.first) (h2 : ¬ m.tail > 0) :
  Calls Tryz.prog 9 #[.pointer (some ⟨g, 0, none⟩), .slice A b.length c] w (RlOut g s F (rput m D m.last m.tail (frameB b)) w) := by
 have hfr := Frame_calls A c b w hC hu (by omega) hN hgn
 have hfl := frameB_len b (by omega)
 have HFU := Aside0.mk (frameB_u8 hu)
 have HST := Aside0.mk (RSt.start h)
 have d6 : w.cell? ⟨g, 6, none⟩ = some (.bool false) := (blk_cell h.blk 6).trans (by rw [← hd]; rfl)
 have hfr2 : Calls Tryz.prog 22 #[.slice A b.length c] w fun e w' => ∃ fA fc, e = .returned (.tuple #[.slice fA (frameB b).length fc, .int .i64 0]) ∧ Kd.R (Kd.int .u8) 5 w' w.heap.size (fun _ => True) (.slice fA (frameB b).length fc) (frameB b) ∧ Below w.heap.size w w' := hfr.mono (by
  rintro e w' ⟨⟨v, rfl, hR⟩, hb⟩
  obtain ⟨fA, fc, rfl⟩ := Kd.R_slice hR
  exact ⟨fA, fc, rfl, hR, hb⟩)
 clear hfr
 generalize frameB b = fb at hfr2 hfl HFU ⊢
 obtain ⟨fl, hfl2⟩ : ∃ fl, fb.length = fl := ⟨_, rfl⟩
 rw [hfl2] at hfr2 hfl
 have HFL := Aside0.mk hfl2
 clear hfl2
 obtain ⟨roll, first, last, size, tail, down⟩ := m
 obtain rfl : down = false := hd
 obtain ⟨⟨o1, o2⟩, ⟨o3, o4⟩, ⟨o5, o6⟩, ⟨o7, o8⟩, ⟨o9, o10⟩⟩ := ok
 simp only at h1 h2 o1 o2 o3 o4 o5 o6 o7 o8 o9 o10 ⊢
 have hb0 : decide ((b.length : Int) > 199000) = false := decide_eq_false (by omega)
 have k1 : decide (last < first) = false := decide_eq_false h1
 have k2 : decide (tail > 0) = false := decide_eq_false h2
 obtain ⟨n, hn⟩ : ∃ n : Nat, (n : Int) = last := ⟨(last).toNat, by omega⟩
 have hn100 : n < 100 := by omega
 have HN100 := Aside0.mk hn100
 have HLN := Aside0.mk hn
 have HZN := Aside0.mk (show segZ (last) = segK n by unfold segZ; rw [← hn, Int.toNat_natCast])
 have HLE := Aside0.mk (show fl ≤ 1000000000 by omega)
 have q1 : -9223372036854775808 ≤ last + 1 ∧ last + 1 ≤ 9223372036854775807 := by omega
 have q2 : -9223372036854775808 ≤ tail + (fl : Int) ∧ tail + (fl : Int) ≤ 9223372036854775807 := by omega
 have q3 : -9223372036854775808 ≤ size + (fl : Int) ∧ size + (fl : Int) ≤ 9223372036854775807 := by omega
 generalize b.length = bl at hfr2 hb0
 clear h hC hu hl hN hgn hfl o1 o2 o3 o4 o5 o6 o7 o8 o9 o10 hn100 h1 h2 hn
 have hwn : wrap64 (last + 1) = (last + 1) := wrap_in q1.1 q1.2
 have hwt : wrap64 (tail + (fl : Int)) = tail + fl := wrap_in q2.1 q2.2
 have hws : wrap64 (size + (fl : Int)) = size + fl := wrap_in q3.1 q3.2
 clear q1 q2 q3
 generalize hrp : rput ⟨roll, first, last, size, tail, false⟩ D (last) tail fb = rp
 unfold rput at hrp
 rw [HZN.out] at hrp
 have HPUT := Aside0.mk hrp
 clear hrp
 go_enter Tryz.func9, Tryz.ntmps9
 go_upto_region 6 with (go_at_call 22; refine hfr2.mono ?_; rintro e w1 ⟨fA, fc, rfl, hR, hb⟩; have HR := Aside0.mk hR; have HS1 := Aside0.mk (HST.out.below hb); clear hR hb hfr2 d6)
 refine wp_mono (Q := fun e a w => e = .normal ∧ _) ?_ (fun e a w h => h.2)
 refine start_ (n := 10) (S := fun w' => w'.cell? ⟨g, 3, none⟩ = some (.int .i64 last) ∧ w'.cell? ⟨g, 5, none⟩ = some (.int .i64 tail)) (ds := []) #[ff,ff,ff,ff,ff,ff,ff,ff,ff,ff] (by kernel_rfl) rfl rfl ⟨((blk_cell (blk_drew HS1.out.blk) 3).trans rfl), ((blk_cell (blk_drew HS1.out.blk) 5).trans rfl)⟩ (fun hHeld => ?_)
 refine with_tabW q9.tab6 q9.bits6 (fun HT_ HW_ => ?_)
 refine pure_ (i := 0) (N := some 23) (v := ?_) (a' := ?_) #[tt,ff,ff,ff,ff,ff,ff,ff,ff,ff] rfl rfl (any_of HT_.out (by kernel_rfl)) (fun _ _ _ h => nomatch h.1) (Or.inl ⟨by rfl, ?_⟩) ?_ ?_
 rotate_left
 ·intro w'
  go_simp
  with_reducible rfl
 rotate_left
 ·simp only [Act.put, sA, sB, sC, i64_w, i32_w]
  rfl
 refine pure_ (i := 1) (N := some 24) (v := ?_) (a' := ?_) #[tt,tt,ff,ff,ff,ff,ff,ff,ff,ff] rfl rfl (any_of HT_.out (by kernel_rfl)) (fun _ _ _ h => nomatch h.1) (Or.inl ⟨by rfl, ?_⟩) ?_ ?_
 rotate_left
 ·intro w'
  go_simp
  with_reducible rfl
 rotate_left
 ·simp only [Act.put, sA, sB, sC, i64_w, i32_w]
  rfl
 refine pure_ (i := 2) (N := some 25) (v := ?_) (a' := ?_) #[tt,tt,tt,ff,ff,ff,ff,ff,ff,ff] rfl rfl (any_of HT_.out (by kernel_rfl)) (fun _ _ _ h => nomatch h.1) (Or.inl ⟨by rfl, ?_⟩) ?_ ?_
 rotate_left
 ·intro w'
  go_simp
  with_reducible rfl
 rotate_left
 ·simp only [Act.put, sA, sB, sC, i64_w, i32_w]
  rfl
 refine pure_ (i := 4) (N := some 27) (v := ?_) (a' := ?_) #[tt,tt,tt,ff,tt,ff,ff,ff,ff,ff] rfl rfl (any_of HT_.out (by kernel_rfl)) (fun _ _ _ h => nomatch h.1) (Or.inl ⟨by rfl, ?_⟩) ?_ ?_
 rotate_left
 ·intro w'
  go_simp
  with_reducible rfl
 rotate_left
 ·simp only [Act.put, sA, sB, sC, i64_w, i32_w]
  rfl
 refine pure_ (i := 5) (N := some 28) (v := ?_) (a' := ?_) #[tt,tt,tt,ff,tt,tt,ff,ff,ff,ff] rfl rfl (any_of HT_.out (by kernel_rfl)) (fun _ _ _ h => nomatch h.1) (Or.inl ⟨by rfl, ?_⟩) ?_ ?_
 rotate_left
 ·intro w'
  go_simp
  with_reducible rfl
 rotate_left
 ·simp only [Act.put, sA, sB, sC, i64_w, i32_w]
  rfl
 refine pure_ (i := 6) (N := some 29) (v := ?_) (a' := ?_) #[tt,tt,tt,ff,tt,tt,tt,ff,ff,ff] rfl rfl (any_of HT_.out (by kernel_rfl)) (fun _ _ _ h => nomatch h.1) (Or.inl ⟨by rfl, ?_⟩) ?_ ?_
 rotate_left
 ·intro w'
  go_simp
  with_reducible rfl
 rotate_left
 ·simp only [Act.put, sA, sB, sC, i64_w, i32_w]
  rfl
 refine take_ (i := 3) (N := some 26) (v := ?_) (a' := ?_) #[tt,tt,tt,tt,tt,tt,tt,ff,ff,ff] rfl rfl (take_ofW HT_.out HW_.out (by kernel_rfl)) (fun _ _ _ h => nomatch h.1) (Or.inl ⟨by rfl, ?_⟩) hHeld ?_ ?_
 rotate_left
 ·rintro w' ⟨s0, s1⟩
  go_simp
  with_reducible rfl
 rotate_left
 ·simp only [Act.put, sA, sB, sC, i64_w, i32_w]
  rfl
 refine pure_ (i := 8) (N := some 7) (v := ?_) (a' := ?_) #[tt,tt,tt,tt,tt,tt,tt,ff,tt,ff] rfl rfl (any_of HT_.out (by kernel_rfl)) (fun _ _ _ h => nomatch h.1) (Or.inl ⟨by rfl, ?_⟩) ?_ ?_
 rotate_left
 ·intro w'
  go_simp
  with_reducible rfl
 rotate_left
 ·simp only [Act.put, sA, sB, sC, i64_w, i32_w]
  rfl
 refine take_ (i := 7) (N := some 30) (v := ?_) (a' := ?_) #[tt,tt,tt,tt,tt,tt,tt,tt,tt,ff] rfl rfl (take_ofW HT_.out HW_.out (by kernel_rfl)) (fun _ _ _ h => nomatch h.1) (Or.inl ⟨by rfl, ?_⟩) hHeld ?_ ?_
 rotate_left
 ·rintro w' ⟨s0, s1⟩
  go_simp
  with_reducible rfl
 rotate_left
 ·simp only [Act.put, sA, sB, sC, i64_w, i32_w]
  rfl
 refine pure_ (i := 9) (N := some 8) (v := ?_) (a' := ?_) #[tt,tt,tt,tt,tt,tt,tt,tt,tt,tt] rfl rfl (any_of HT_.out (by kernel_rfl)) (fun _ _ _ h => nomatch h.1) (Or.inl ⟨by rfl, ?_⟩) ?_ ?_
 rotate_left
 ·intro w'
  go_simp
  with_reducible rfl
 rotate_left
 ·simp only [Act.put, sA, sB, sC, i64_w, i32_w]
  rfl
 refine done_ (done_of HT_.out (by kernel_rfl)) ?_
 refine ⟨rfl, ?_⟩
 clear hHeld HT_ HW_
 have HS2 := Aside0.mk (HS1.out.below (below_drew1 (Below.refl _ w1)))
 have HR2 := Aside0.mk (Kd.R_below HR.out (below_drew1 (Below.refl _ w1)))
 clear HST HS1 HR
 generalize w1.drew = w2 at HS2 HR2 ⊢
 have d2 : w2.cell? ⟨g, 2, none⟩ = some (.int .i64 first) := (blk_cell HS2.out.blk 2).trans rfl
 have d1 : w2.cell? ⟨g, 1, none⟩ = some (.int .i64 roll) := (blk_cell HS2.out.blk 1).trans rfl
 go_upto_region 9 with fail
 clear d1 d2 k1 k2
 have hseg : ∀ W, Calls Tryz.prog 25 #[.int .i64 (last)] W fun e w' => e = .returned (.string (segK n)) ∧ w' = W := fun W => by rw [← HLN.out]; exact segment_calls n HN100.out W
 have HS3 := Aside0.mk (HS2.out.below (below_drew1 (Below.refl _ w2)))
 have HR3 := Aside0.mk (Kd.R_below HR2.out (below_drew1 (Below.refl _ w2)))
 have hap := HS3.out.append (segK n) (seg_named HN100.out) HR3.out HFU.out (by rw [HFL.out]; exact HLE.out)
 generalize D.append (segK n) fb = r1 at hap HPUT
 obtain ⟨D1, e1⟩ := r1
 simp only at HPUT
 refine wp_mono (Q := fun e a w => e = .normal ∧ _) ?_ (fun e a w h => h.2)
 refine start_ (n := 11) (S := fun w' => w'.cell? ⟨g, 0, none⟩ = some (.pointer (some ⟨s, 0, none⟩))) (ds := []) #[ff,ff,ff,ff,ff,ff,ff,ff,ff,ff,ff] (by kernel_rfl) rfl rfl (((blk_cell HS3.out.blk 0).trans rfl)) (fun hHeld => ?_)
 refine with_tabW q9.tab9 q9.bits9 (fun HT_ HW_ => ?_)
 refine pure_ (i := 0) (N := some 54) (v := ?_) (a' := ?_) #[tt,ff,ff,ff,ff,ff,ff,ff,ff,ff,ff] rfl rfl (any_of HT_.out (by kernel_rfl)) (fun _ _ _ h => nomatch h.1) (Or.inl ⟨by rfl, ?_⟩) ?_ ?_
 rotate_left
 ·intro w'
  go_simp
  with_reducible rfl
 rotate_left
 ·simp only [Act.put, sA, sB, sC, i64_w, i32_w]
  rfl
 refine pure_ (i := 1) (N := some 55) (v := ?_) (a' := ?_) #[tt,tt,ff,ff,ff,ff,ff,ff,ff,ff,ff] rfl rfl (any_of HT_.out (by kernel_rfl)) (fun _ _ _ h => nomatch h.1) (Or.inl ⟨by rfl, ?_⟩) ?_ ?_
 rotate_left
 ·intro w'
  go_simp
  with_reducible rfl
 rotate_left
 ·simp only [Act.put, sA, sB, sC, i64_w, i32_w]
  rfl
 refine pure_ (i := 2) (N := some 56) (v := ?_) (a' := ?_) #[tt,tt,tt,ff,ff,ff,ff,ff,ff,ff,ff] rfl rfl (any_of HT_.out (by kernel_rfl)) (fun _ _ _ h => nomatch h.1) (Or.inl ⟨by rfl, ?_⟩) ?_ ?_
 rotate_left
 ·intro w'
  go_simp
  with_reducible rfl
 rotate_left
 ·simp only [Act.put, sA, sB, sC, i64_w, i32_w]
  rfl
 refine pure_ (i := 3) (N := some 57) (v := ?_) (a' := ?_) #[tt,tt,tt,tt,ff,ff,ff,ff,ff,ff,ff] rfl rfl (any_of HT_.out (by kernel_rfl)) (fun _ _ _ h => nomatch h.1) (Or.inl ⟨by rfl, ?_⟩) ?_ ?_
 rotate_left
 ·intro w'
  go_simp
  with_reducible rfl
 rotate_left
 ·simp only [Act.put, sA, sB, sC, i64_w, i32_w]
  rfl
 refine pure_ (i := 5) (N := some 59) (v := ?_) (a' := ?_) #[tt,tt,tt,tt,ff,tt,ff,ff,ff,ff,ff] rfl rfl (any_of HT_.out (by kernel_rfl)) (fun _ _ _ h => nomatch h.1) (Or.inl ⟨by rfl, ?_⟩) ?_ ?_
 rotate_left
 ·intro w'
  go_simp
  with_reducible rfl
 rotate_left
 ·simp only [Act.put, sA, sB, sC, i64_w, i32_w]
  rfl
 refine pure_ (i := 7) (N := some 61) (v := ?_) (a' := ?_) #[tt,tt,tt,tt,ff,tt,ff,tt,ff,ff,ff] rfl rfl (any_of HT_.out (by kernel_rfl)) (fun _ _ _ h => nomatch h.1) (Or.inl ⟨by rfl, ?_⟩) ?_ ?_
 rotate_left
 ·intro w'
  go_simp
  with_reducible rfl
 rotate_left
 ·simp only [Act.put, sA, sB, sC, i64_w, i32_w]
  rfl
 refine take_ (i := 4) (N := some 58) (v := ?_) (a' := ?_) #[tt,tt,tt,tt,tt,tt,ff,tt,ff,ff,ff] rfl rfl (take_ofW HT_.out HW_.out (by kernel_rfl)) (fun _ _ _ h => nomatch h.1) (Or.inl ⟨by rfl, ?_⟩) hHeld ?_ ?_
 rotate_left
 ·intro w' s0
  go_simp
  with_reducible rfl
 rotate_left
 ·simp only [Act.put, sA, sB, sC, i64_w, i32_w]
  rfl
 refine one_ (i := 6) (N := some 60) #[tt,tt,tt,tt,tt,tt,tt,tt,ff,ff,ff] rfl rfl (one_of HT_.out (by kernel_rfl)) (by decide) (fun K hK => ?_)
 refine goes_ Tryz.func25 (by kernel_rfl) rfl #[.int .i64 (last)] (by rfl) rfl rfl (by simp only [List.map_toArray, List.map_cons, List.map_nil]; rfl) ?_
 with_reducible refine (hseg _).mono ?_
 rintro e w3 ⟨rfl, rfl⟩
 refine ⟨_, rfl, ?_⟩
 refine hK.out _ _ (((blk_cell HS3.out.blk 0).trans rfl)) (fun hHeld => ?_)
 clear hK K
 refine norm_ (a' := ?_) ?_ ?_
 rotate_left
 ·show Act.put _ (some 60) _ = _
  simp only [Act.put, sA, sB, sC, i64_w, i32_w]
  rfl
 refine one_ (i := 8) (N := some 62) #[tt,tt,tt,tt,tt,tt,tt,tt,tt,ff,ff] rfl rfl (one_of HT_.out (by kernel_rfl)) (by decide) (fun K hK => ?_)
 refine goes_ Tryz.func24 (by kernel_rfl) rfl #[.pointer (some ⟨s, 0, none⟩), .string (segK n), .slice fA fl fc] (by rfl) rfl rfl (by simp only [List.map_toArray, List.map_cons, List.map_nil]; rfl) ?_
 with_reducible refine ((show Calls _ _ _ _ _ from hap)).mono ?_
 rintro e w5x ⟨rfl, hst, hkp⟩
 refine ⟨_, rfl, ?_⟩
 have p_S := Aside0.mk hst
 have p_R := Aside0.mk (hkp.rd HR3.out)
 have hnt := hst.note e1
 clear hst hkp hap
 refine hK.out _ _ (((blk_cell p_S.out.blk 0).trans rfl)) (fun hHeld => ?_)
 clear hK K
 refine norm_ (a' := ?_) ?_ ?_
 rotate_left
 ·show Act.put _ (some 62) _ = _
  simp only [Act.put, sA, sB, sC, i64_w, i32_w]
  rfl
 refine one_ (i := 9) (N := some 63) #[tt,tt,tt,tt,tt,tt,tt,tt,tt,tt,ff] rfl rfl (one_of HT_.out (by kernel_rfl)) (by decide) (fun K hK => ?_)
 refine goes_ Tryz.func23 (by kernel_rfl) rfl #[.pointer (some ⟨g, 0, none⟩), .int .i64 e1] (by rfl) rfl rfl (by simp only [List.map_toArray, List.map_cons, List.map_nil]; rfl) ?_
 with_reducible refine ((show Calls _ _ _ _ _ from hnt)).mono ?_
 rintro e w6x ⟨rfl, hst, hkp⟩
 refine ⟨_, rfl, ?_⟩
 have r_S := Aside0.mk hst
 have r_R := Aside0.mk (hkp.rd p_R.out)
 clear hst hkp hnt p_S p_R
 refine hK.out _ _ (((blk_cell r_S.out.blk 0).trans rfl)) (fun hHeld => ?_)
 clear hK K
 refine norm_ (a' := ?_) ?_ ?_
 rotate_left
 ·show Act.put _ (some 63) _ = _
  simp only [Act.put, sA, sB, sC, i64_w, i32_w]
  rfl
 refine pure_ (i := 10) (N := some 9) (v := ?_) (a' := ?_) #[tt,tt,tt,tt,tt,tt,tt,tt,tt,tt,tt] rfl rfl (any_of HT_.out (by kernel_rfl)) (fun _ _ _ h => nomatch h.1) (Or.inl ⟨by rfl, ?_⟩) ?_ ?_
 rotate_left
 ·intro w'
  go_simp
  with_reducible rfl
 rotate_left
 ·simp only [Act.put, sA, sB, sC, i64_w, i32_w]
  rfl
 refine done_ (done_of HT_.out (by kernel_rfl)) ?_
 refine ⟨rfl, ?_⟩
 clear hHeld HT_ HW_
 clear HS2 HR2 HS3 HR3
 generalize w6x = w7 at r_S r_R ⊢
 by_cases h0 : e1 = 0
 ·subst h0
  rw [note_zero] at r_S
  have hsy := (r_S.out.below (below_drew1 (Below.refl _ w7))).disk (fun F' hd => Sync_disk w7.drew s F' D1 (segK n) hd)
  have HSS := Aside0.mk (r_S.out.below (below_drew1 (Below.refl _ w7)))
  have HRR := Aside0.mk (Kd.R_below r_R.out (below_drew1 (Below.refl _ w7)))
  simp only [if_pos trivial] at HPUT
  generalize D1.sync (segK n) = r2 at hsy HPUT
  obtain ⟨D2, e2⟩ := r2
  simp only at HPUT
  go_upto_region 12 with fail
  refine wp_mono (Q := fun e a w => e = .normal ∧ _) ?_ (fun e a w h => h.2)
  refine start_ (n := 10) (S := fun w' => w'.cell? ⟨g, 0, none⟩ = some (.pointer (some ⟨s, 0, none⟩))) (ds := []) #[ff,ff,ff,ff,ff,ff,ff,ff,ff,ff] (by kernel_rfl) rfl rfl (((blk_cell HSS.out.blk 0).trans rfl)) (fun hHeld => ?_)
  refine with_tabW q9.tab12 q9.bits12 (fun HT_ HW_ => ?_)
  refine pure_ (i := 0) (N := some 67) (v := ?_) (a' := ?_) #[tt,ff,ff,ff,ff,ff,ff,ff,ff,ff] rfl rfl (any_of HT_.out (by kernel_rfl)) (fun _ _ _ h => nomatch h.1) (Or.inl ⟨by rfl, ?_⟩) ?_ ?_
  rotate_left
  ·intro w'
   go_simp
   with_reducible rfl
  rotate_left
  ·simp only [Act.put, sA, sB, sC, i64_w, i32_w]
   rfl
  refine pure_ (i := 1) (N := some 68) (v := ?_) (a' := ?_) #[tt,tt,ff,ff,ff,ff,ff,ff,ff,ff] rfl rfl (any_of HT_.out (by kernel_rfl)) (fun _ _ _ h => nomatch h.1) (Or.inl ⟨by rfl, ?_⟩) ?_ ?_
  rotate_left
  ·intro w'
   go_simp
   with_reducible rfl
  rotate_left
  ·simp only [Act.put, sA, sB, sC, i64_w, i32_w]
   rfl
  refine pure_ (i := 2) (N := some 69) (v := ?_) (a' := ?_) #[tt,tt,tt,ff,ff,ff,ff,ff,ff,ff] rfl rfl (any_of HT_.out (by kernel_rfl)) (fun _ _ _ h => nomatch h.1) (Or.inl ⟨by rfl, ?_⟩) ?_ ?_
  rotate_left
  ·intro w'
   go_simp
   with_reducible rfl
  rotate_left
  ·simp only [Act.put, sA, sB, sC, i64_w, i32_w]
   rfl
  refine pure_ (i := 3) (N := some 70) (v := ?_) (a' := ?_) #[tt,tt,tt,tt,ff,ff,ff,ff,ff,ff] rfl rfl (any_of HT_.out (by kernel_rfl)) (fun _ _ _ h => nomatch h.1) (Or.inl ⟨by rfl, ?_⟩) ?_ ?_
  rotate_left
  ·intro w'
   go_simp
   with_reducible rfl
  rotate_left
  ·simp only [Act.put, sA, sB, sC, i64_w, i32_w]
   rfl
  refine pure_ (i := 5) (N := some 72) (v := ?_) (a' := ?_) #[tt,tt,tt,tt,ff,tt,ff,ff,ff,ff] rfl rfl (any_of HT_.out (by kernel_rfl)) (fun _ _ _ h => nomatch h.1) (Or.inl ⟨by rfl, ?_⟩) ?_ ?_
  rotate_left
  ·intro w'
   go_simp
   with_reducible rfl
  rotate_left
  ·simp only [Act.put, sA, sB, sC, i64_w, i32_w]
   rfl
  refine take_ (i := 4) (N := some 71) (v := ?_) (a' := ?_) #[tt,tt,tt,tt,tt,tt,ff,ff,ff,ff] rfl rfl (take_ofW HT_.out HW_.out (by kernel_rfl)) (fun _ _ _ h => nomatch h.1) (Or.inl ⟨by rfl, ?_⟩) hHeld ?_ ?_
  rotate_left
  ·intro w' s0
   go_simp
   with_reducible rfl
  rotate_left
  ·simp only [Act.put, sA, sB, sC, i64_w, i32_w]
   rfl
  refine one_ (i := 6) (N := some 73) #[tt,tt,tt,tt,tt,tt,tt,ff,ff,ff] rfl rfl (one_of HT_.out (by kernel_rfl)) (by decide) (fun K hK => ?_)
  refine goes_ Tryz.func25 (by kernel_rfl) rfl #[.int .i64 (last)] (by rfl) rfl rfl (by simp only [List.map_toArray, List.map_cons, List.map_nil]; rfl) ?_
  with_reducible refine (hseg _).mono ?_
  rintro e w3 ⟨rfl, rfl⟩
  refine ⟨_, rfl, ?_⟩
  refine hK.out _ _ (((blk_cell HSS.out.blk 0).trans rfl)) (fun hHeld => ?_)
  clear hK K
  refine norm_ (a' := ?_) ?_ ?_
  rotate_left
  ·show Act.put _ (some 73) _ = _
   simp only [Act.put, sA, sB, sC, i64_w, i32_w]
   rfl
  refine one_ (i := 7) (N := some 74) #[tt,tt,tt,tt,tt,tt,tt,tt,ff,ff] rfl rfl (one_of HT_.out (by kernel_rfl)) (by decide) (fun K hK => ?_)
  refine goes_ Tryz.func26 (by kernel_rfl) rfl #[.pointer (some ⟨s, 0, none⟩), .string (segK n)] (by rfl) rfl rfl (by simp only [List.map_toArray, List.map_cons, List.map_nil]; rfl) ?_
  with_reducible refine ((show Calls _ _ _ _ _ from hsy)).mono ?_
  rintro e w9x ⟨rfl, hst, hkp⟩
  refine ⟨_, rfl, ?_⟩
  have q_S := Aside0.mk hst
  have q_R := Aside0.mk (hkp.rd HRR.out)
  have hnt := hst.note e2
  clear hst hkp hsy
  refine hK.out _ _ (((blk_cell q_S.out.blk 0).trans rfl)) (fun hHeld => ?_)
  clear hK K
  refine norm_ (a' := ?_) ?_ ?_
  rotate_left
  ·show Act.put _ (some 74) _ = _
   simp only [Act.put, sA, sB, sC, i64_w, i32_w]
   rfl
  refine one_ (i := 8) (N := some 75) #[tt,tt,tt,tt,tt,tt,tt,tt,tt,ff] rfl rfl (one_of HT_.out (by kernel_rfl)) (by decide) (fun K hK => ?_)
  refine goes_ Tryz.func23 (by kernel_rfl) rfl #[.pointer (some ⟨g, 0, none⟩), .int .i64 e2] (by rfl) rfl rfl (by simp only [List.map_toArray, List.map_cons, List.map_nil]; rfl) ?_
  with_reducible refine ((show Calls _ _ _ _ _ from hnt)).mono ?_
  rintro e w10x ⟨rfl, hst, hkp⟩
  refine ⟨_, rfl, ?_⟩
  have s_S := Aside0.mk hst
  have s_R := Aside0.mk (hkp.rd q_R.out)
  clear hst hkp hnt q_S q_R
  refine hK.out _ _ (((blk_cell s_S.out.blk 0).trans rfl)) (fun hHeld => ?_)
  clear hK K
  refine norm_ (a' := ?_) ?_ ?_
  rotate_left
  ·show Act.put _ (some 75) _ = _
   simp only [Act.put, sA, sB, sC, i64_w, i32_w]
   rfl
  refine pure_ (i := 9) (N := some 10) (v := ?_) (a' := ?_) #[tt,tt,tt,tt,tt,tt,tt,tt,tt,tt] rfl rfl (any_of HT_.out (by kernel_rfl)) (fun _ _ _ h => nomatch h.1) (Or.inl ⟨by rfl, ?_⟩) ?_ ?_
  rotate_left
  ·intro w'
   go_simp
   with_reducible rfl
  rotate_left
  ·simp only [Act.put, sA, sB, sC, i64_w, i32_w]
   rfl
  refine done_ (done_of HT_.out (by kernel_rfl)) ?_
  refine ⟨rfl, ?_⟩
  clear hHeld HT_ HW_
  clear HSS HRR r_S r_R
  generalize w10x = w11 at s_S s_R ⊢
  by_cases h1 : e2 = 0
  ·subst h1
   rw [note_zero] at s_S
   simp only [if_pos trivial] at HPUT
   have d4 : w11.cell? ⟨g, 4, none⟩ = some (.int .i64 size) := (blk_cell s_S.out.blk 4).trans rfl
   have d3 : w11.cell? ⟨g, 3, none⟩ = some (.int .i64 last) := (blk_cell s_S.out.blk 3).trans rfl
   have d5 : w11.cell? ⟨g, 5, none⟩ = some (.int .i64 tail) := (blk_cell s_S.out.blk 5).trans rfl
   have f3 := blk_frozen s_S.out.blk 3
   have f4 := blk_frozen s_S.out.blk 4
   have f5 := blk_frozen s_S.out.blk 5
   rw [HFL.out] at HPUT
   have h3 := (s_S.out.set 3 (.int .i64 (last)) (m' := ⟨roll, first, last, size, tail, false⟩) rfl).1
   have h5 := (h3.set 5 (.int .i64 (tail + (fl : Int))) (m' := ⟨roll, first, last, size, tail + (fl : Int), false⟩) (by first | rfl | (rw [Int.zero_add]; rfl))).1
   have h4 := (h5.set 4 (.int .i64 (size + (fl : Int))) (m' := ⟨roll, first, last, size + (fl : Int), tail + (fl : Int), false⟩) rfl).1
   have FIN := Aside0.mk (RSt.out (r := ((_, _), 0)) h4)
   clear h3 h5 h4
   go_wp2_with fail
   (try simp only [hwn, hwt, hws])
   exact bodyPost_ret (v := .int .i64 0) (by simp [results, Tryz.results9, go_sem]) rfl (by rw [← HPUT.out]; exact FIN.out)
  ·have hb1 : (e2 != 0) = true := by simpa using h1
   rw [if_neg h1] at HPUT
   go_wp2_with fail
   exact bodyPost_ret (v := .int .i64 e2) (by simp [results, Tryz.results9, go_sem]) rfl (by rw [← HPUT.out]; exact RSt.out (r := ((_, _), _)) s_S.out)
 ·have hb1 : (e1 != 0) = true := by simpa using h0
  rw [if_neg h0] at HPUT
  go_wp2_with fail
  exact bodyPost_ret (v := .int .i64 e1) (by simp [results, Tryz.results9, go_sem]) rfl (by rw [← HPUT.out]; exact RSt.out (r := ((_, _), _)) r_S.out)
theorem append_stop (w : World) (g s : Nat) (F : Nat → Prop) (m : Rl) (D : Dk) (A : Option Addr) (c : Nat) (b : List Int) (h : RlAt w g s F m D) (hd : m.down = true) (hl : b.length ≤ 199000) :
  Calls Tryz.prog 9 #[.pointer (some ⟨g, 0, none⟩), .slice A b.length c] w (RlOut g s F ((m, D), 23) w) := by
 have HST := Aside0.mk (RSt.start h)
 have d6 : w.cell? ⟨g, 6, none⟩ = some (.bool true) := (blk_cell h.blk 6).trans (by rw [← hd]; rfl)
 have hb0 : decide ((b.length : Int) > 199000) = false := decide_eq_false (by omega)
 generalize b.length = bl at hb0
 clear h hd hl
 go_enter Tryz.func9, Tryz.ntmps9
 go_wp2_with fail
 exact bodyPost_ret (v := .int .i64 23) (by simp [results, Tryz.results9, go_sem]) rfl (RSt.out (r := ((_, _), 23)) HST.out)
theorem Append_reel (w : World) (g s : Nat) (F : Nat → Prop) (m : Rl) (D : Dk) (A : Option Addr) (c : Nat) (b : List Int) (h : RlAt w g s F m D) (ok : RlOk m) (hC : Kd.C (Kd.int .u8) w A b.length b) (hu : ∀ x ∈ b, 0 ≤ x ∧ x ≤ 255) (hl : b.length ≤ 199000) (hN : Nib w) (hgn : 1 < w.heap.size) :
  Calls Tryz.prog 9 #[.pointer (some ⟨g, 0, none⟩), .slice A b.length c] w (RlOut g s F (rappend m D b) w) := by
 unfold rappend
 rw [if_neg (by omega)]
 by_cases hd : m.down = true
 ·rw [if_pos hd]
  exact append_stop w g s F m D A c b h hd hl
 ·rw [if_neg hd]
  have hd : m.down = false := by simpa using hd
  unfold Rl.place
  by_cases h1 : m.last < m.first
  ·rw [if_pos (.inl h1)]
   exact append_p1 w g s F m D A c b h ok hd hC hu hl hN hgn h1
  ·by_cases h2 : m.tail > 0
   ·by_cases h3 : ((frameB b).length : Int) > m.roll - m.tail
    ·rw [if_pos (.inr ⟨h2, h3⟩)]
     exact append_p2 w g s F m D A c b h ok hd hC hu hl hN hgn h1 h2 h3
    ·rw [if_neg (fun e => e.elim h1 (fun e => h3 e.2))]
     exact append_p3 w g s F m D A c b h ok hd hC hu hl hN hgn h1 h2 h3
   ·rw [if_neg (fun e => e.elim h1 (fun e => h2 e.1))]
    exact append_p4 w g s F m D A c b h ok hd hC hu hl hN hgn h1 h2
end Go.Proofs.YtdooajmgfoobfaaGreatDoor.H
