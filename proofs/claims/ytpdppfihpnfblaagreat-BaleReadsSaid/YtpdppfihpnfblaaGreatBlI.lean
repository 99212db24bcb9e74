/- The reference's texts of a batch, a vat and an emission. Laid by wip/refs1_bl.py. -/
import Derived.Test.YtpdppfihpnfblaaGreatBlF
namespace Go.Proofs.YtpdppfihpnfblaaGreat.H
open Go.RowKit Go.Shelf Go.Proofs.YtpdppfihpnfblaaGreat.PA Go.Proofs.YtpdppfihpnfblaaGreatW.PrintWords Go.Proofs.YtpdppfihpnfblaaGreatW.PrintLast Go.Proofs.YtpdppfihpnfblaaGreatW.PrintMore
set_option linter.unusedVariables false
set_option linter.unusedSimpArgs false
theorem rUpG_calls (n : Int) (h : gUp n) (w : World) : Calls Tryz.prog 23 #[.int .i64 n] w (StrAns (upB n) w) := rUp_calls n (by unfold gUp at h; omega) (by unfold gUp at h; omega) w
theorem rTextG_calls (x : ByteArray) (h : gTxt x) (w : World) : Calls Tryz.prog 22 #[.string x] w (StrAns (textB x) w) := rText_calls x h w
theorem rIntG_calls (n : Int) (h : gI64 n) (w : World) : Calls Tryz.prog 25 #[.int .i64 n] w (StrAns (intB n) w) := rInt_calls n h w
theorem rMarkG_calls (b : Bool) (_ : True) (w : World) : Calls Tryz.prog 24 #[.bool b] w (StrAns (markB b) w) := rMark_calls b w
/-- Two strings, known by their bytes, put together. -/
theorem cat_pre (a b : ByteArray) {La Lb : List Int} (ha : bytesOf a = La) (hb : bytesOf b = Lb) (h : La.length + Lb.length ≤ 1000000000000) : ¬ (9223372036854775807 < a.size + b.size) ∧ bytesOf (a ++ b) = La ++ Lb := by
  refine ⟨?_, by rw [bytesOf_append, ha, hb]⟩
  rw [← bytesOf_length a, ← bytesOf_length b, ha, hb]
  omega
/-- One more of a list stays within the bound of all. -/
theorem loop_len {α : Type} (B : α → List Int) (l : List α) (P : List Int) {j : Nat} {y : α} (htk : l.take (j + 1) = l.take j ++ [y]) {M : Nat} (h : (P ++ l.flatMap B).length ≤ M) : (P ++ (l.take j).flatMap B).length ≤ M := by
  have e := List.take_append_drop j l
  rw [← e, List.flatMap_append, List.length_append, List.length_append] at h
  rw [List.length_append]
  omega
theorem gUp_len {n : Nat} (h : n ≤ 1000) : gUp (n : Int) := by unfold gUp; omega
def r11.T1 : Bool × List (List Nat × List Nat) := (true, [([], []), ([0], [0]), ([1], [1]), ([], []), ([3], [3]), ([4, 2], [4]), ([2, 5], [2, 5]), ([], []), ([7], [7]), ([8, 5], [8]), ([6, 9], [6, 9]), ([10, 9, 0, 1, 2, 3, 4, 5, 6, 7, 8, 9, 10], [10])])
def r11.B1 : List Nat := [0, 1, 3, 0, 8, 31, 63, 0, 128, 447, 1023, 2047]
theorem r11.tab1 : rtab .any (opsOf Tryz.f11 1) = r11.T1 := by kernel_rfl
theorem r11.bits1 : waitsOk r11.T1.2 r11.B1 = true := by kernel_rfl
set_option maxRecDepth 100000 in
set_option maxHeartbeats 16000000 in
theorem rBat_calls (x : Bat) (hG : gBat x) (w : World) : Calls Tryz.prog 11 #[.agg #[.int .i64 x.number, .int .i64 x.now, .string x.text]] w (StrAns (bBat x) w) := by
  unfold gBat at hG
  have G := Aside0.mk hG
  clear hG
  go_enter Tryz.func11, Tryz.ntmps11
  go_upto_region 1 with fail
  have HB := Aside0.mk ((Below.refl w.heap.size w).alloc (Nat.le_refl _) (.cells #[.int .i64 x.number, .int .i64 x.now, .string x.text] 66))
  have BK_v := Aside0.mk (blk_new w (.cells #[.int .i64 x.number, .int .i64 x.now, .string x.text] 66))
  generalize w.alloc (.cells #[.int .i64 x.number, .int .i64 x.now, .string x.text] 66) = W at HB BK_v ⊢
  have n_v := Aside0.mk (blk_drew BK_v.out)
  have n_HB := Aside0.mk (below_drew1 HB.out)
  clear HB BK_v
  have BK_v := n_v
  have HB := n_HB
  clear n_HB n_v
  refine wp_mono (Q := fun e a w => e = .normal ∧ _) ?_ (fun e a w h => h.2)
  refine start_ (n := 12) (S := fun w' => w'.cell? ⟨w.heap.size, 0, none⟩ = some (.int .i64 x.number) ∧ w'.cell? ⟨w.heap.size, 1, none⟩ = some (.int .i64 x.now) ∧ w'.cell? ⟨w.heap.size, 2, none⟩ = some (.string x.text)) (ds := []) #[false, false, false, false, false, false, false, false, false, false, false, false] (by kernel_rfl) rfl rfl ⟨((blk_cell BK_v.out 0).trans rfl), ((blk_cell BK_v.out 1).trans rfl), ((blk_cell BK_v.out 2).trans rfl)⟩ (fun hHeld => ?_)
  refine with_tabW r11.tab1 r11.bits1 (fun HT_ HW_ => ?_)
  refine pure_ (i := 0) (N := some 3) (v := ?_) (a' := ?_) #[true, false, false, false, false, false, false, false, false, false, false, false] rfl rfl (any_of HT_.out (by kernel_rfl)) (fun _ _ _ h => nomatch h.1) (Or.inl ⟨by rfl, ?_⟩) ?_ ?_
  rotate_left
  · intro w'
    go_simp
    with_reducible rfl
  rotate_left
  · simp only [Act.put, List.setIfInBounds_toArray, List.set_cons_zero, List.set_cons_succ, i64_w, i32_w]
    rfl
  refine pure_ (i := 3) (N := some 6) (v := ?_) (a' := ?_) #[true, false, false, true, false, false, false, false, false, false, false, false] rfl rfl (any_of HT_.out (by kernel_rfl)) (fun _ _ _ h => nomatch h.1) (Or.inl ⟨by rfl, ?_⟩) ?_ ?_
  rotate_left
  · intro w'
    go_simp
    with_reducible rfl
  rotate_left
  · simp only [Act.put, List.setIfInBounds_toArray, List.set_cons_zero, List.set_cons_succ, i64_w, i32_w]
    rfl
  refine pure_ (i := 7) (N := some 10) (v := ?_) (a' := ?_) #[true, false, false, true, false, false, false, true, false, false, false, false] rfl rfl (any_of HT_.out (by kernel_rfl)) (fun _ _ _ h => nomatch h.1) (Or.inl ⟨by rfl, ?_⟩) ?_ ?_
  rotate_left
  · intro w'
    go_simp
    with_reducible rfl
  rotate_left
  · simp only [Act.put, List.setIfInBounds_toArray, List.set_cons_zero, List.set_cons_succ, i64_w, i32_w]
    rfl
  refine take_ (i := 1) (N := some 4) (v := ?_) (a' := ?_) #[true, true, false, true, false, false, false, true, false, false, false, false] rfl rfl (take_ofW HT_.out HW_.out (by kernel_rfl)) (fun _ _ _ h => nomatch h.1) (Or.inl ⟨by rfl, ?_⟩) hHeld ?_ ?_
  rotate_left
  · rintro w' ⟨s0, s1, s2⟩
    go_simp
    with_reducible rfl
  rotate_left
  · simp only [Act.put, List.setIfInBounds_toArray, List.set_cons_zero, List.set_cons_succ, i64_w, i32_w]
    rfl
  refine take_ (i := 4) (N := some 7) (v := ?_) (a' := ?_) #[true, true, false, true, true, false, false, true, false, false, false, false] rfl rfl (take_ofW HT_.out HW_.out (by kernel_rfl)) (fun _ _ _ h => nomatch h.1) (Or.inl ⟨by rfl, ?_⟩) hHeld ?_ ?_
  rotate_left
  · rintro w' ⟨s0, s1, s2⟩
    go_simp
    with_reducible rfl
  rotate_left
  · simp only [Act.put, List.setIfInBounds_toArray, List.set_cons_zero, List.set_cons_succ, i64_w, i32_w]
    rfl
  refine take_ (i := 8) (N := some 11) (v := ?_) (a' := ?_) #[true, true, false, true, true, false, false, true, true, false, false, false] rfl rfl (take_ofW HT_.out HW_.out (by kernel_rfl)) (fun _ _ _ h => nomatch h.1) (Or.inl ⟨by rfl, ?_⟩) hHeld ?_ ?_
  rotate_left
  · rintro w' ⟨s0, s1, s2⟩
    go_simp
    with_reducible rfl
  rotate_left
  · simp only [Act.put, List.setIfInBounds_toArray, List.set_cons_zero, List.set_cons_succ, i64_w, i32_w]
    rfl
  refine one_ (i := 2) (N := some 5) #[true, true, true, true, true, false, false, true, true, false, false, false] rfl rfl (one_of HT_.out (by kernel_rfl)) (by decide) (fun K hK => ?_)
  refine goes_ Tryz.func23 (by kernel_rfl) rfl #[.int .i64 x.number] (by rfl) rfl rfl (by simp only [List.map_toArray, List.map_cons, List.map_nil]; rfl) ?_
  with_reducible refine (rUpG_calls x.number G.out.1 _).mono ?_
  rintro e W1 ⟨⟨s1, rfl, hs⟩, hb⟩
  refine ⟨_, rfl, ?_⟩
  have HS1 := Aside0.mk hs
  have LS1 := Aside0.mk (show (upB x.number).length ≤ 11 from upB_len' G.out.1)
  clear hs
  have n_v := Aside0.mk (blk_below BK_v.out hb)
  have n_HB := Aside0.mk (HB.out.trans (hb.mono HB.out.size))
  clear HB hb BK_v
  have BK_v := n_v
  have HB := n_HB
  clear n_HB n_v
  refine hK.out _ _ ⟨((blk_cell BK_v.out 0).trans rfl), ((blk_cell BK_v.out 1).trans rfl), ((blk_cell BK_v.out 2).trans rfl)⟩ (fun hHeld => ?_)
  clear hK K
  refine norm_ (a' := ?_) ?_ ?_
  rotate_left
  · show Act.put _ (some 5) _ = _
    simp only [Act.put, List.setIfInBounds_toArray, List.set_cons_zero, List.set_cons_succ, i64_w, i32_w]
    rfl
  refine one_ (i := 5) (N := some 8) #[true, true, true, true, true, true, false, true, true, false, false, false] rfl rfl (one_of HT_.out (by kernel_rfl)) (by decide) (fun K hK => ?_)
  refine goes_ Tryz.func23 (by kernel_rfl) rfl #[.int .i64 x.now] (by rfl) rfl rfl (by simp only [List.map_toArray, List.map_cons, List.map_nil]; rfl) ?_
  with_reducible refine (rUpG_calls x.now G.out.2.1 _).mono ?_
  rintro e W2 ⟨⟨s2, rfl, hs⟩, hb⟩
  refine ⟨_, rfl, ?_⟩
  have HS2 := Aside0.mk hs
  have LS2 := Aside0.mk (show (upB x.now).length ≤ 11 from upB_len' G.out.2.1)
  clear hs
  have n_v := Aside0.mk (blk_below BK_v.out hb)
  have n_HB := Aside0.mk (HB.out.trans (hb.mono HB.out.size))
  clear HB hb BK_v
  have BK_v := n_v
  have HB := n_HB
  clear n_HB n_v
  obtain ⟨hc3, hs⟩ := cat_pre s1 s2 HS1.out HS2.out (by have := LS1.out; have := LS2.out; omega)
  (try simp only [ByteArray.size_append] at hc3)
  have HS3 := Aside0.mk hs
  have LS3 := Aside0.mk (show ((upB x.number) ++ (upB x.now)).length ≤ 22 from (by rw [List.length_append]; have := LS1.out; have := LS2.out; omega))
  clear hs
  refine hK.out _ _ ⟨((blk_cell BK_v.out 0).trans rfl), ((blk_cell BK_v.out 1).trans rfl), ((blk_cell BK_v.out 2).trans rfl)⟩ (fun hHeld => ?_)
  clear hK K
  refine norm_ (a' := ?_) ?_ ?_
  rotate_left
  · show Act.put _ (some 8) _ = _
    simp only [Act.put, List.setIfInBounds_toArray, List.set_cons_zero, List.set_cons_succ, i64_w, i32_w]
    rfl
  refine pure_ (i := 6) (N := some 9) (v := ?_) (a' := ?_) #[true, true, true, true, true, true, true, true, true, false, false, false] rfl rfl (any_of HT_.out (by kernel_rfl)) (fun _ _ _ h => nomatch h.1) (Or.inl ⟨by rfl, ?_⟩) ?_ ?_
  rotate_left
  · intro w'
    go_simp
    with_reducible rfl
  rotate_left
  · simp only [Act.put, List.setIfInBounds_toArray, List.set_cons_zero, List.set_cons_succ, i64_w, i32_w]
    rfl
  refine one_ (i := 9) (N := some 12) #[true, true, true, true, true, true, true, true, true, true, false, false] rfl rfl (one_of HT_.out (by kernel_rfl)) (by decide) (fun K hK => ?_)
  refine goes_ Tryz.func22 (by kernel_rfl) rfl #[.string x.text] (by rfl) rfl rfl (by simp only [List.map_toArray, List.map_cons, List.map_nil]; rfl) ?_
  with_reducible refine (rTextG_calls x.text G.out.2.2 _).mono ?_
  rintro e W4 ⟨⟨s4, rfl, hs⟩, hb⟩
  refine ⟨_, rfl, ?_⟩
  have HS4 := Aside0.mk hs
  have LS4 := Aside0.mk (show (textB x.text).length ≤ 10011 from textB_len G.out.2.2)
  clear hs
  have n_v := Aside0.mk (blk_below BK_v.out hb)
  have n_HB := Aside0.mk (HB.out.trans (hb.mono HB.out.size))
  clear HB hb BK_v
  have BK_v := n_v
  have HB := n_HB
  clear n_HB n_v
  obtain ⟨hc5, hs⟩ := cat_pre (s1 ++ s2) s4 HS3.out HS4.out (by have := LS3.out; have := LS4.out; omega)
  (try simp only [ByteArray.size_append] at hc5)
  have HS5 := Aside0.mk hs
  have LS5 := Aside0.mk (show (((upB x.number) ++ (upB x.now)) ++ (textB x.text)).length ≤ 10033 from (by rw [List.length_append]; have := LS3.out; have := LS4.out; omega))
  clear hs
  refine hK.out _ _ ⟨((blk_cell BK_v.out 0).trans rfl), ((blk_cell BK_v.out 1).trans rfl), ((blk_cell BK_v.out 2).trans rfl)⟩ (fun hHeld => ?_)
  clear hK K
  refine norm_ (a' := ?_) ?_ ?_
  rotate_left
  · show Act.put _ (some 12) _ = _
    simp only [Act.put, List.setIfInBounds_toArray, List.set_cons_zero, List.set_cons_succ, i64_w, i32_w]
    rfl
  refine pure_ (i := 10) (N := some 13) (v := ?_) (a' := ?_) #[true, true, true, true, true, true, true, true, true, true, true, false] rfl rfl (any_of HT_.out (by kernel_rfl)) (fun _ _ _ h => nomatch h.1) (Or.inl ⟨by rfl, ?_⟩) ?_ ?_
  rotate_left
  · intro w'
    go_simp
    with_reducible rfl
  rotate_left
  · simp only [Act.put, List.setIfInBounds_toArray, List.set_cons_zero, List.set_cons_succ, i64_w, i32_w]
    rfl
  refine pure_ (i := 11) (N := some 2) (v := ?_) (a' := ?_) #[true, true, true, true, true, true, true, true, true, true, true, true] rfl rfl (any_of HT_.out (by kernel_rfl)) (fun _ _ _ h => nomatch h.1) (Or.inl ⟨by rfl, ?_⟩) ?_ ?_
  rotate_left
  · intro w'
    go_simp
    with_reducible rfl
  rotate_left
  · simp only [Act.put, List.setIfInBounds_toArray, List.set_cons_zero, List.set_cons_succ, i64_w, i32_w]
    rfl
  refine done_ (done_of HT_.out (by kernel_rfl)) ?_
  refine ⟨rfl, ?_⟩
  clear hHeld HT_ HW_
  go_wp2
  exact bodyPost_ret (v := .string ((s1 ++ s2) ++ s4)) (by simp [results, Tryz.results11, go_sem]) rfl ⟨⟨_, rfl, by rw [HS5.out]; rfl⟩, HB.out⟩
def r26.T1 : Bool × List (List Nat × List Nat) := (true, [([], []), ([0], [0]), ([1], [1]), ([], []), ([3], [3]), ([4, 2], [4]), ([2, 5], [2, 5]), ([], []), ([7], [7]), ([8, 5], [8]), ([6, 9], [6, 9]), ([], []), ([11], [11]), ([12, 9], [12]), ([10, 13], [10, 13]), ([], []), ([15], [15]), ([16, 13], [16]), ([14, 17], [14, 17]), ([], []), ([19], [19]), ([20, 17], [20]), ([18, 21], [18, 21]), ([], []), ([23], [23]), ([24, 21], [24]), ([22, 25], [22, 25]), ([], []), ([27], [27]), ([28, 25], [28]), ([26, 29], [26, 29]), ([30, 29, 0, 1, 2, 3, 4, 5, 6, 7, 8, 9, 10, 11, 12, 13, 14, 15, 16, 17, 18, 19, 20, 21, 22, 23, 24, 25, 26, 27, 28, 29, 30], [30])])
def r26.B1 : List Nat := [0, 1, 3, 0, 8, 31, 63, 0, 128, 447, 1023, 0, 2048, 7103, 16383, 0, 32768, 113599, 262143, 0, 524288, 1817535, 4194303, 0, 8388608, 29080511, 67108863, 0, 134217728, 465288127, 1073741823, 2147483647]
theorem r26.tab1 : rtab .any (opsOf Tryz.f26 1) = r26.T1 := by kernel_rfl
theorem r26.bits1 : waitsOk r26.T1.2 r26.B1 = true := by kernel_rfl
set_option maxRecDepth 100000 in
set_option maxHeartbeats 16000000 in
theorem rVat_calls (x : VatS) (hG : gVatS x) {A_samples : Option Addr} {c_samples : Nat} {A_members : Option Addr} {c_members : Nat} (w : World) (l_samples : x.samples.length ≤ c_samples) (g_samples : Kd.C (Kd.int .i64) w A_samples x.samples.length x.samples) (l_members : x.members.length ≤ c_members) (g_members : Kd.C Kd.string w A_members x.members.length x.members) : Calls Tryz.prog 26 #[.agg #[.int .i64 x.kind, .int .i64 x.many, .int .i64 x.high, .int .i64 x.low, .int .i64 x.last, .int .i64 x.time, .int .i64 x.seq, .string x.source, .slice A_samples x.samples.length c_samples, .slice A_members x.members.length c_members]] w (StrAns (bVatS x) w) := by
  have HL0 := bVatS_len x hG
  unfold gVatS at hG
  have G := Aside0.mk hG
  have C1 := Aside0.mk g_samples
  have C2 := Aside0.mk g_members
  simp only [bVatS, listB, List.length_append] at HL0
  have HL := Aside0.mk HL0
  clear HL0
  clear hG g_samples g_members
  have hm1 := C1.out.2.1
  have hm2 := C2.out.2.1
  go_enter Tryz.func26, Tryz.ntmps26
  go_upto_region 1 with fail
  have HB := Aside0.mk ((Below.refl w.heap.size w).alloc (Nat.le_refl _) (.cells #[.int .i64 x.kind, .int .i64 x.many, .int .i64 x.high, .int .i64 x.low, .int .i64 x.last, .int .i64 x.time, .int .i64 x.seq, .string x.source, .slice A_samples x.samples.length c_samples, .slice A_members x.members.length c_members] 94))
  have BK_v := Aside0.mk (blk_new w (.cells #[.int .i64 x.kind, .int .i64 x.many, .int .i64 x.high, .int .i64 x.low, .int .i64 x.last, .int .i64 x.time, .int .i64 x.seq, .string x.source, .slice A_samples x.samples.length c_samples, .slice A_members x.members.length c_members] 94))
  generalize w.alloc (.cells #[.int .i64 x.kind, .int .i64 x.many, .int .i64 x.high, .int .i64 x.low, .int .i64 x.last, .int .i64 x.time, .int .i64 x.seq, .string x.source, .slice A_samples x.samples.length c_samples, .slice A_members x.members.length c_members] 94) = W at HB BK_v ⊢
  have n_v := Aside0.mk (blk_drew BK_v.out)
  have n_HB := Aside0.mk (below_drew1 HB.out)
  clear HB BK_v
  have BK_v := n_v
  have HB := n_HB
  clear n_HB n_v
  refine wp_mono (Q := fun e a w => e = .normal ∧ _) ?_ (fun e a w h => h.2)
  refine start_ (n := 32) (S := fun w' => w'.cell? ⟨w.heap.size, 0, none⟩ = some (.int .i64 x.kind) ∧ w'.cell? ⟨w.heap.size, 1, none⟩ = some (.int .i64 x.many) ∧ w'.cell? ⟨w.heap.size, 2, none⟩ = some (.int .i64 x.high) ∧ w'.cell? ⟨w.heap.size, 3, none⟩ = some (.int .i64 x.low) ∧ w'.cell? ⟨w.heap.size, 4, none⟩ = some (.int .i64 x.last) ∧ w'.cell? ⟨w.heap.size, 5, none⟩ = some (.int .i64 x.time) ∧ w'.cell? ⟨w.heap.size, 6, none⟩ = some (.int .i64 x.seq) ∧ w'.cell? ⟨w.heap.size, 7, none⟩ = some (.string x.source)) (ds := []) #[false, false, false, false, false, false, false, false, false, false, false, false, false, false, false, false, false, false, false, false, false, false, false, false, false, false, false, false, false, false, false, false] (by kernel_rfl) rfl rfl ⟨((blk_cell BK_v.out 0).trans rfl), ((blk_cell BK_v.out 1).trans rfl), ((blk_cell BK_v.out 2).trans rfl), ((blk_cell BK_v.out 3).trans rfl), ((blk_cell BK_v.out 4).trans rfl), ((blk_cell BK_v.out 5).trans rfl), ((blk_cell BK_v.out 6).trans rfl), ((blk_cell BK_v.out 7).trans rfl)⟩ (fun hHeld => ?_)
  refine with_tabW r26.tab1 r26.bits1 (fun HT_ HW_ => ?_)
  refine pure_ (i := 0) (N := some 6) (v := ?_) (a' := ?_) #[true, false, false, false, false, false, false, false, false, false, false, false, false, false, false, false, false, false, false, false, false, false, false, false, false, false, false, false, false, false, false, false] rfl rfl (any_of HT_.out (by kernel_rfl)) (fun _ _ _ h => nomatch h.1) (Or.inl ⟨by rfl, ?_⟩) ?_ ?_
  rotate_left
  · intro w'
    go_simp
    with_reducible rfl
  rotate_left
  · simp only [Act.put, List.setIfInBounds_toArray, List.set_cons_zero, List.set_cons_succ, i64_w, i32_w]
    rfl
  refine pure_ (i := 3) (N := some 9) (v := ?_) (a' := ?_) #[true, false, false, true, false, false, false, false, false, false, false, false, false, false, false, false, false, false, false, false, false, false, false, false, false, false, false, false, false, false, false, false] rfl rfl (any_of HT_.out (by kernel_rfl)) (fun _ _ _ h => nomatch h.1) (Or.inl ⟨by rfl, ?_⟩) ?_ ?_
  rotate_left
  · intro w'
    go_simp
    with_reducible rfl
  rotate_left
  · simp only [Act.put, List.setIfInBounds_toArray, List.set_cons_zero, List.set_cons_succ, i64_w, i32_w]
    rfl
  refine pure_ (i := 7) (N := some 13) (v := ?_) (a' := ?_) #[true, false, false, true, false, false, false, true, false, false, false, false, false, false, false, false, false, false, false, false, false, false, false, false, false, false, false, false, false, false, false, false] rfl rfl (any_of HT_.out (by kernel_rfl)) (fun _ _ _ h => nomatch h.1) (Or.inl ⟨by rfl, ?_⟩) ?_ ?_
  rotate_left
  · intro w'
    go_simp
    with_reducible rfl
  rotate_left
  · simp only [Act.put, List.setIfInBounds_toArray, List.set_cons_zero, List.set_cons_succ, i64_w, i32_w]
    rfl
  refine pure_ (i := 11) (N := some 17) (v := ?_) (a' := ?_) #[true, false, false, true, false, false, false, true, false, false, false, true, false, false, false, false, false, false, false, false, false, false, false, false, false, false, false, false, false, false, false, false] rfl rfl (any_of HT_.out (by kernel_rfl)) (fun _ _ _ h => nomatch h.1) (Or.inl ⟨by rfl, ?_⟩) ?_ ?_
  rotate_left
  · intro w'
    go_simp
    with_reducible rfl
  rotate_left
  · simp only [Act.put, List.setIfInBounds_toArray, List.set_cons_zero, List.set_cons_succ, i64_w, i32_w]
    rfl
  refine pure_ (i := 15) (N := some 21) (v := ?_) (a' := ?_) #[true, false, false, true, false, false, false, true, false, false, false, true, false, false, false, true, false, false, false, false, false, false, false, false, false, false, false, false, false, false, false, false] rfl rfl (any_of HT_.out (by kernel_rfl)) (fun _ _ _ h => nomatch h.1) (Or.inl ⟨by rfl, ?_⟩) ?_ ?_
  rotate_left
  · intro w'
    go_simp
    with_reducible rfl
  rotate_left
  · simp only [Act.put, List.setIfInBounds_toArray, List.set_cons_zero, List.set_cons_succ, i64_w, i32_w]
    rfl
  refine pure_ (i := 19) (N := some 25) (v := ?_) (a' := ?_) #[true, false, false, true, false, false, false, true, false, false, false, true, false, false, false, true, false, false, false, true, false, false, false, false, false, false, false, false, false, false, false, false] rfl rfl (any_of HT_.out (by kernel_rfl)) (fun _ _ _ h => nomatch h.1) (Or.inl ⟨by rfl, ?_⟩) ?_ ?_
  rotate_left
  · intro w'
    go_simp
    with_reducible rfl
  rotate_left
  · simp only [Act.put, List.setIfInBounds_toArray, List.set_cons_zero, List.set_cons_succ, i64_w, i32_w]
    rfl
  refine pure_ (i := 23) (N := some 29) (v := ?_) (a' := ?_) #[true, false, false, true, false, false, false, true, false, false, false, true, false, false, false, true, false, false, false, true, false, false, false, true, false, false, false, false, false, false, false, false] rfl rfl (any_of HT_.out (by kernel_rfl)) (fun _ _ _ h => nomatch h.1) (Or.inl ⟨by rfl, ?_⟩) ?_ ?_
  rotate_left
  · intro w'
    go_simp
    with_reducible rfl
  rotate_left
  · simp only [Act.put, List.setIfInBounds_toArray, List.set_cons_zero, List.set_cons_succ, i64_w, i32_w]
    rfl
  refine pure_ (i := 27) (N := some 33) (v := ?_) (a' := ?_) #[true, false, false, true, false, false, false, true, false, false, false, true, false, false, false, true, false, false, false, true, false, false, false, true, false, false, false, true, false, false, false, false] rfl rfl (any_of HT_.out (by kernel_rfl)) (fun _ _ _ h => nomatch h.1) (Or.inl ⟨by rfl, ?_⟩) ?_ ?_
  rotate_left
  · intro w'
    go_simp
    with_reducible rfl
  rotate_left
  · simp only [Act.put, List.setIfInBounds_toArray, List.set_cons_zero, List.set_cons_succ, i64_w, i32_w]
    rfl
  refine take_ (i := 1) (N := some 7) (v := ?_) (a' := ?_) #[true, true, false, true, false, false, false, true, false, false, false, true, false, false, false, true, false, false, false, true, false, false, false, true, false, false, false, true, false, false, false, false] rfl rfl (take_ofW HT_.out HW_.out (by kernel_rfl)) (fun _ _ _ h => nomatch h.1) (Or.inl ⟨by rfl, ?_⟩) hHeld ?_ ?_
  rotate_left
  · rintro w' ⟨s0, s1, s2, s3, s4, s5, s6, s7⟩
    go_simp
    with_reducible rfl
  rotate_left
  · simp only [Act.put, List.setIfInBounds_toArray, List.set_cons_zero, List.set_cons_succ, i64_w, i32_w]
    rfl
  refine take_ (i := 4) (N := some 10) (v := ?_) (a' := ?_) #[true, true, false, true, true, false, false, true, false, false, false, true, false, false, false, true, false, false, false, true, false, false, false, true, false, false, false, true, false, false, false, false] rfl rfl (take_ofW HT_.out HW_.out (by kernel_rfl)) (fun _ _ _ h => nomatch h.1) (Or.inl ⟨by rfl, ?_⟩) hHeld ?_ ?_
  rotate_left
  · rintro w' ⟨s0, s1, s2, s3, s4, s5, s6, s7⟩
    go_simp
    with_reducible rfl
  rotate_left
  · simp only [Act.put, List.setIfInBounds_toArray, List.set_cons_zero, List.set_cons_succ, i64_w, i32_w]
    rfl
  refine take_ (i := 8) (N := some 14) (v := ?_) (a' := ?_) #[true, true, false, true, true, false, false, true, true, false, false, true, false, false, false, true, false, false, false, true, false, false, false, true, false, false, false, true, false, false, false, false] rfl rfl (take_ofW HT_.out HW_.out (by kernel_rfl)) (fun _ _ _ h => nomatch h.1) (Or.inl ⟨by rfl, ?_⟩) hHeld ?_ ?_
  rotate_left
  · rintro w' ⟨s0, s1, s2, s3, s4, s5, s6, s7⟩
    go_simp
    with_reducible rfl
  rotate_left
  · simp only [Act.put, List.setIfInBounds_toArray, List.set_cons_zero, List.set_cons_succ, i64_w, i32_w]
    rfl
  refine take_ (i := 12) (N := some 18) (v := ?_) (a' := ?_) #[true, true, false, true, true, false, false, true, true, false, false, true, true, false, false, true, false, false, false, true, false, false, false, true, false, false, false, true, false, false, false, false] rfl rfl (take_ofW HT_.out HW_.out (by kernel_rfl)) (fun _ _ _ h => nomatch h.1) (Or.inl ⟨by rfl, ?_⟩) hHeld ?_ ?_
  rotate_left
  · rintro w' ⟨s0, s1, s2, s3, s4, s5, s6, s7⟩
    go_simp
    with_reducible rfl
  rotate_left
  · simp only [Act.put, List.setIfInBounds_toArray, List.set_cons_zero, List.set_cons_succ, i64_w, i32_w]
    rfl
  refine take_ (i := 16) (N := some 22) (v := ?_) (a' := ?_) #[true, true, false, true, true, false, false, true, true, false, false, true, true, false, false, true, true, false, false, true, false, false, false, true, false, false, false, true, false, false, false, false] rfl rfl (take_ofW HT_.out HW_.out (by kernel_rfl)) (fun _ _ _ h => nomatch h.1) (Or.inl ⟨by rfl, ?_⟩) hHeld ?_ ?_
  rotate_left
  · rintro w' ⟨s0, s1, s2, s3, s4, s5, s6, s7⟩
    go_simp
    with_reducible rfl
  rotate_left
  · simp only [Act.put, List.setIfInBounds_toArray, List.set_cons_zero, List.set_cons_succ, i64_w, i32_w]
    rfl
  refine take_ (i := 20) (N := some 26) (v := ?_) (a' := ?_) #[true, true, false, true, true, false, false, true, true, false, false, true, true, false, false, true, true, false, false, true, true, false, false, true, false, false, false, true, false, false, false, false] rfl rfl (take_ofW HT_.out HW_.out (by kernel_rfl)) (fun _ _ _ h => nomatch h.1) (Or.inl ⟨by rfl, ?_⟩) hHeld ?_ ?_
  rotate_left
  · rintro w' ⟨s0, s1, s2, s3, s4, s5, s6, s7⟩
    go_simp
    with_reducible rfl
  rotate_left
  · simp only [Act.put, List.setIfInBounds_toArray, List.set_cons_zero, List.set_cons_succ, i64_w, i32_w]
    rfl
  refine take_ (i := 24) (N := some 30) (v := ?_) (a' := ?_) #[true, true, false, true, true, false, false, true, true, false, false, true, true, false, false, true, true, false, false, true, true, false, false, true, true, false, false, true, false, false, false, false] rfl rfl (take_ofW HT_.out HW_.out (by kernel_rfl)) (fun _ _ _ h => nomatch h.1) (Or.inl ⟨by rfl, ?_⟩) hHeld ?_ ?_
  rotate_left
  · rintro w' ⟨s0, s1, s2, s3, s4, s5, s6, s7⟩
    go_simp
    with_reducible rfl
  rotate_left
  · simp only [Act.put, List.setIfInBounds_toArray, List.set_cons_zero, List.set_cons_succ, i64_w, i32_w]
    rfl
  refine take_ (i := 28) (N := some 34) (v := ?_) (a' := ?_) #[true, true, false, true, true, false, false, true, true, false, false, true, true, false, false, true, true, false, false, true, true, false, false, true, true, false, false, true, true, false, false, false] rfl rfl (take_ofW HT_.out HW_.out (by kernel_rfl)) (fun _ _ _ h => nomatch h.1) (Or.inl ⟨by rfl, ?_⟩) hHeld ?_ ?_
  rotate_left
  · rintro w' ⟨s0, s1, s2, s3, s4, s5, s6, s7⟩
    go_simp
    with_reducible rfl
  rotate_left
  · simp only [Act.put, List.setIfInBounds_toArray, List.set_cons_zero, List.set_cons_succ, i64_w, i32_w]
    rfl
  refine one_ (i := 2) (N := some 8) #[true, true, true, true, true, false, false, true, true, false, false, true, true, false, false, true, true, false, false, true, true, false, false, true, true, false, false, true, true, false, false, false] rfl rfl (one_of HT_.out (by kernel_rfl)) (by decide) (fun K hK => ?_)
  refine goes_ Tryz.func23 (by kernel_rfl) rfl #[.int .i64 x.kind] (by rfl) rfl rfl (by simp only [List.map_toArray, List.map_cons, List.map_nil]; rfl) ?_
  with_reducible refine (rUpG_calls x.kind G.out.1 _).mono ?_
  rintro e W1 ⟨⟨s1, rfl, hs⟩, hb⟩
  refine ⟨_, rfl, ?_⟩
  have HS1 := Aside0.mk hs
  have LS1 := Aside0.mk (show (upB x.kind).length ≤ 11 from upB_len' G.out.1)
  clear hs
  have n_v := Aside0.mk (blk_below BK_v.out hb)
  have n_HB := Aside0.mk (HB.out.trans (hb.mono HB.out.size))
  clear HB hb BK_v
  have BK_v := n_v
  have HB := n_HB
  clear n_HB n_v
  refine hK.out _ _ ⟨((blk_cell BK_v.out 0).trans rfl), ((blk_cell BK_v.out 1).trans rfl), ((blk_cell BK_v.out 2).trans rfl), ((blk_cell BK_v.out 3).trans rfl), ((blk_cell BK_v.out 4).trans rfl), ((blk_cell BK_v.out 5).trans rfl), ((blk_cell BK_v.out 6).trans rfl), ((blk_cell BK_v.out 7).trans rfl)⟩ (fun hHeld => ?_)
  clear hK K
  refine norm_ (a' := ?_) ?_ ?_
  rotate_left
  · show Act.put _ (some 8) _ = _
    simp only [Act.put, List.setIfInBounds_toArray, List.set_cons_zero, List.set_cons_succ, i64_w, i32_w]
    rfl
  refine one_ (i := 5) (N := some 11) #[true, true, true, true, true, true, false, true, true, false, false, true, true, false, false, true, true, false, false, true, true, false, false, true, true, false, false, true, true, false, false, false] rfl rfl (one_of HT_.out (by kernel_rfl)) (by decide) (fun K hK => ?_)
  refine goes_ Tryz.func23 (by kernel_rfl) rfl #[.int .i64 x.many] (by rfl) rfl rfl (by simp only [List.map_toArray, List.map_cons, List.map_nil]; rfl) ?_
  with_reducible refine (rUpG_calls x.many G.out.2.1 _).mono ?_
  rintro e W2 ⟨⟨s2, rfl, hs⟩, hb⟩
  refine ⟨_, rfl, ?_⟩
  have HS2 := Aside0.mk hs
  have LS2 := Aside0.mk (show (upB x.many).length ≤ 11 from upB_len' G.out.2.1)
  clear hs
  have n_v := Aside0.mk (blk_below BK_v.out hb)
  have n_HB := Aside0.mk (HB.out.trans (hb.mono HB.out.size))
  clear HB hb BK_v
  have BK_v := n_v
  have HB := n_HB
  clear n_HB n_v
  obtain ⟨hc3, hs⟩ := cat_pre s1 s2 HS1.out HS2.out (by have := LS1.out; have := LS2.out; omega)
  (try simp only [ByteArray.size_append] at hc3)
  have HS3 := Aside0.mk hs
  have LS3 := Aside0.mk (show ((upB x.kind) ++ (upB x.many)).length ≤ 22 from (by rw [List.length_append]; have := LS1.out; have := LS2.out; omega))
  clear hs
  refine hK.out _ _ ⟨((blk_cell BK_v.out 0).trans rfl), ((blk_cell BK_v.out 1).trans rfl), ((blk_cell BK_v.out 2).trans rfl), ((blk_cell BK_v.out 3).trans rfl), ((blk_cell BK_v.out 4).trans rfl), ((blk_cell BK_v.out 5).trans rfl), ((blk_cell BK_v.out 6).trans rfl), ((blk_cell BK_v.out 7).trans rfl)⟩ (fun hHeld => ?_)
  clear hK K
  refine norm_ (a' := ?_) ?_ ?_
  rotate_left
  · show Act.put _ (some 11) _ = _
    simp only [Act.put, List.setIfInBounds_toArray, List.set_cons_zero, List.set_cons_succ, i64_w, i32_w]
    rfl
  refine pure_ (i := 6) (N := some 12) (v := ?_) (a' := ?_) #[true, true, true, true, true, true, true, true, true, false, false, true, true, false, false, true, true, false, false, true, true, false, false, true, true, false, false, true, true, false, false, false] rfl rfl (any_of HT_.out (by kernel_rfl)) (fun _ _ _ h => nomatch h.1) (Or.inl ⟨by rfl, ?_⟩) ?_ ?_
  rotate_left
  · intro w'
    go_simp
    with_reducible rfl
  rotate_left
  · simp only [Act.put, List.setIfInBounds_toArray, List.set_cons_zero, List.set_cons_succ, i64_w, i32_w]
    rfl
  refine one_ (i := 9) (N := some 15) #[true, true, true, true, true, true, true, true, true, true, false, true, true, false, false, true, true, false, false, true, true, false, false, true, true, false, false, true, true, false, false, false] rfl rfl (one_of HT_.out (by kernel_rfl)) (by decide) (fun K hK => ?_)
  refine goes_ Tryz.func25 (by kernel_rfl) rfl #[.int .i64 x.high] (by rfl) rfl rfl (by simp only [List.map_toArray, List.map_cons, List.map_nil]; rfl) ?_
  with_reducible refine (rIntG_calls x.high (gI64_of G.out.2.2.1) _).mono ?_
  rintro e W4 ⟨⟨s4, rfl, hs⟩, hb⟩
  refine ⟨_, rfl, ?_⟩
  have HS4 := Aside0.mk hs
  have LS4 := Aside0.mk (show (intB x.high).length ≤ 11 from intB_len _)
  clear hs
  have n_v := Aside0.mk (blk_below BK_v.out hb)
  have n_HB := Aside0.mk (HB.out.trans (hb.mono HB.out.size))
  clear HB hb BK_v
  have BK_v := n_v
  have HB := n_HB
  clear n_HB n_v
  obtain ⟨hc5, hs⟩ := cat_pre (s1 ++ s2) s4 HS3.out HS4.out (by have := LS3.out; have := LS4.out; omega)
  (try simp only [ByteArray.size_append] at hc5)
  have HS5 := Aside0.mk hs
  have LS5 := Aside0.mk (show (((upB x.kind) ++ (upB x.many)) ++ (intB x.high)).length ≤ 33 from (by rw [List.length_append]; have := LS3.out; have := LS4.out; omega))
  clear hs
  refine hK.out _ _ ⟨((blk_cell BK_v.out 0).trans rfl), ((blk_cell BK_v.out 1).trans rfl), ((blk_cell BK_v.out 2).trans rfl), ((blk_cell BK_v.out 3).trans rfl), ((blk_cell BK_v.out 4).trans rfl), ((blk_cell BK_v.out 5).trans rfl), ((blk_cell BK_v.out 6).trans rfl), ((blk_cell BK_v.out 7).trans rfl)⟩ (fun hHeld => ?_)
  clear hK K
  refine norm_ (a' := ?_) ?_ ?_
  rotate_left
  · show Act.put _ (some 15) _ = _
    simp only [Act.put, List.setIfInBounds_toArray, List.set_cons_zero, List.set_cons_succ, i64_w, i32_w]
    rfl
  refine pure_ (i := 10) (N := some 16) (v := ?_) (a' := ?_) #[true, true, true, true, true, true, true, true, true, true, true, true, true, false, false, true, true, false, false, true, true, false, false, true, true, false, false, true, true, false, false, false] rfl rfl (any_of HT_.out (by kernel_rfl)) (fun _ _ _ h => nomatch h.1) (Or.inl ⟨by rfl, ?_⟩) ?_ ?_
  rotate_left
  · intro w'
    go_simp
    with_reducible rfl
  rotate_left
  · simp only [Act.put, List.setIfInBounds_toArray, List.set_cons_zero, List.set_cons_succ, i64_w, i32_w]
    rfl
  refine one_ (i := 13) (N := some 19) #[true, true, true, true, true, true, true, true, true, true, true, true, true, true, false, true, true, false, false, true, true, false, false, true, true, false, false, true, true, false, false, false] rfl rfl (one_of HT_.out (by kernel_rfl)) (by decide) (fun K hK => ?_)
  refine goes_ Tryz.func25 (by kernel_rfl) rfl #[.int .i64 x.low] (by rfl) rfl rfl (by simp only [List.map_toArray, List.map_cons, List.map_nil]; rfl) ?_
  with_reducible refine (rIntG_calls x.low (gI64_of G.out.2.2.2.1) _).mono ?_
  rintro e W6 ⟨⟨s6, rfl, hs⟩, hb⟩
  refine ⟨_, rfl, ?_⟩
  have HS6 := Aside0.mk hs
  have LS6 := Aside0.mk (show (intB x.low).length ≤ 11 from intB_len _)
  clear hs
  have n_v := Aside0.mk (blk_below BK_v.out hb)
  have n_HB := Aside0.mk (HB.out.trans (hb.mono HB.out.size))
  clear HB hb BK_v
  have BK_v := n_v
  have HB := n_HB
  clear n_HB n_v
  obtain ⟨hc7, hs⟩ := cat_pre ((s1 ++ s2) ++ s4) s6 HS5.out HS6.out (by have := LS5.out; have := LS6.out; omega)
  (try simp only [ByteArray.size_append] at hc7)
  have HS7 := Aside0.mk hs
  have LS7 := Aside0.mk (show ((((upB x.kind) ++ (upB x.many)) ++ (intB x.high)) ++ (intB x.low)).length ≤ 44 from (by rw [List.length_append]; have := LS5.out; have := LS6.out; omega))
  clear hs
  refine hK.out _ _ ⟨((blk_cell BK_v.out 0).trans rfl), ((blk_cell BK_v.out 1).trans rfl), ((blk_cell BK_v.out 2).trans rfl), ((blk_cell BK_v.out 3).trans rfl), ((blk_cell BK_v.out 4).trans rfl), ((blk_cell BK_v.out 5).trans rfl), ((blk_cell BK_v.out 6).trans rfl), ((blk_cell BK_v.out 7).trans rfl)⟩ (fun hHeld => ?_)
  clear hK K
  refine norm_ (a' := ?_) ?_ ?_
  rotate_left
  · show Act.put _ (some 19) _ = _
    simp only [Act.put, List.setIfInBounds_toArray, List.set_cons_zero, List.set_cons_succ, i64_w, i32_w]
    rfl
  refine pure_ (i := 14) (N := some 20) (v := ?_) (a' := ?_) #[true, true, true, true, true, true, true, true, true, true, true, true, true, true, true, true, true, false, false, true, true, false, false, true, true, false, false, true, true, false, false, false] rfl rfl (any_of HT_.out (by kernel_rfl)) (fun _ _ _ h => nomatch h.1) (Or.inl ⟨by rfl, ?_⟩) ?_ ?_
  rotate_left
  · intro w'
    go_simp
    with_reducible rfl
  rotate_left
  · simp only [Act.put, List.setIfInBounds_toArray, List.set_cons_zero, List.set_cons_succ, i64_w, i32_w]
    rfl
  refine one_ (i := 17) (N := some 23) #[true, true, true, true, true, true, true, true, true, true, true, true, true, true, true, true, true, true, false, true, true, false, false, true, true, false, false, true, true, false, false, false] rfl rfl (one_of HT_.out (by kernel_rfl)) (by decide) (fun K hK => ?_)
  refine goes_ Tryz.func25 (by kernel_rfl) rfl #[.int .i64 x.last] (by rfl) rfl rfl (by simp only [List.map_toArray, List.map_cons, List.map_nil]; rfl) ?_
  with_reducible refine (rIntG_calls x.last (gI64_of G.out.2.2.2.2.1) _).mono ?_
  rintro e W8 ⟨⟨s8, rfl, hs⟩, hb⟩
  refine ⟨_, rfl, ?_⟩
  have HS8 := Aside0.mk hs
  have LS8 := Aside0.mk (show (intB x.last).length ≤ 11 from intB_len _)
  clear hs
  have n_v := Aside0.mk (blk_below BK_v.out hb)
  have n_HB := Aside0.mk (HB.out.trans (hb.mono HB.out.size))
  clear HB hb BK_v
  have BK_v := n_v
  have HB := n_HB
  clear n_HB n_v
  obtain ⟨hc9, hs⟩ := cat_pre (((s1 ++ s2) ++ s4) ++ s6) s8 HS7.out HS8.out (by have := LS7.out; have := LS8.out; omega)
  (try simp only [ByteArray.size_append] at hc9)
  have HS9 := Aside0.mk hs
  have LS9 := Aside0.mk (show (((((upB x.kind) ++ (upB x.many)) ++ (intB x.high)) ++ (intB x.low)) ++ (intB x.last)).length ≤ 55 from (by rw [List.length_append]; have := LS7.out; have := LS8.out; omega))
  clear hs
  refine hK.out _ _ ⟨((blk_cell BK_v.out 0).trans rfl), ((blk_cell BK_v.out 1).trans rfl), ((blk_cell BK_v.out 2).trans rfl), ((blk_cell BK_v.out 3).trans rfl), ((blk_cell BK_v.out 4).trans rfl), ((blk_cell BK_v.out 5).trans rfl), ((blk_cell BK_v.out 6).trans rfl), ((blk_cell BK_v.out 7).trans rfl)⟩ (fun hHeld => ?_)
  clear hK K
  refine norm_ (a' := ?_) ?_ ?_
  rotate_left
  · show Act.put _ (some 23) _ = _
    simp only [Act.put, List.setIfInBounds_toArray, List.set_cons_zero, List.set_cons_succ, i64_w, i32_w]
    rfl
  refine pure_ (i := 18) (N := some 24) (v := ?_) (a' := ?_) #[true, true, true, true, true, true, true, true, true, true, true, true, true, true, true, true, true, true, true, true, true, false, false, true, true, false, false, true, true, false, false, false] rfl rfl (any_of HT_.out (by kernel_rfl)) (fun _ _ _ h => nomatch h.1) (Or.inl ⟨by rfl, ?_⟩) ?_ ?_
  rotate_left
  · intro w'
    go_simp
    with_reducible rfl
  rotate_left
  · simp only [Act.put, List.setIfInBounds_toArray, List.set_cons_zero, List.set_cons_succ, i64_w, i32_w]
    rfl
  refine one_ (i := 21) (N := some 27) #[true, true, true, true, true, true, true, true, true, true, true, true, true, true, true, true, true, true, true, true, true, true, false, true, true, false, false, true, true, false, false, false] rfl rfl (one_of HT_.out (by kernel_rfl)) (by decide) (fun K hK => ?_)
  refine goes_ Tryz.func23 (by kernel_rfl) rfl #[.int .i64 x.time] (by rfl) rfl rfl (by simp only [List.map_toArray, List.map_cons, List.map_nil]; rfl) ?_
  with_reducible refine (rUpG_calls x.time G.out.2.2.2.2.2.1 _).mono ?_
  rintro e W10 ⟨⟨s10, rfl, hs⟩, hb⟩
  refine ⟨_, rfl, ?_⟩
  have HS10 := Aside0.mk hs
  have LS10 := Aside0.mk (show (upB x.time).length ≤ 11 from upB_len' G.out.2.2.2.2.2.1)
  clear hs
  have n_v := Aside0.mk (blk_below BK_v.out hb)
  have n_HB := Aside0.mk (HB.out.trans (hb.mono HB.out.size))
  clear HB hb BK_v
  have BK_v := n_v
  have HB := n_HB
  clear n_HB n_v
  obtain ⟨hc11, hs⟩ := cat_pre ((((s1 ++ s2) ++ s4) ++ s6) ++ s8) s10 HS9.out HS10.out (by have := LS9.out; have := LS10.out; omega)
  (try simp only [ByteArray.size_append] at hc11)
  have HS11 := Aside0.mk hs
  have LS11 := Aside0.mk (show ((((((upB x.kind) ++ (upB x.many)) ++ (intB x.high)) ++ (intB x.low)) ++ (intB x.last)) ++ (upB x.time)).length ≤ 66 from (by rw [List.length_append]; have := LS9.out; have := LS10.out; omega))
  clear hs
  refine hK.out _ _ ⟨((blk_cell BK_v.out 0).trans rfl), ((blk_cell BK_v.out 1).trans rfl), ((blk_cell BK_v.out 2).trans rfl), ((blk_cell BK_v.out 3).trans rfl), ((blk_cell BK_v.out 4).trans rfl), ((blk_cell BK_v.out 5).trans rfl), ((blk_cell BK_v.out 6).trans rfl), ((blk_cell BK_v.out 7).trans rfl)⟩ (fun hHeld => ?_)
  clear hK K
  refine norm_ (a' := ?_) ?_ ?_
  rotate_left
  · show Act.put _ (some 27) _ = _
    simp only [Act.put, List.setIfInBounds_toArray, List.set_cons_zero, List.set_cons_succ, i64_w, i32_w]
    rfl
  refine pure_ (i := 22) (N := some 28) (v := ?_) (a' := ?_) #[true, true, true, true, true, true, true, true, true, true, true, true, true, true, true, true, true, true, true, true, true, true, true, true, true, false, false, true, true, false, false, false] rfl rfl (any_of HT_.out (by kernel_rfl)) (fun _ _ _ h => nomatch h.1) (Or.inl ⟨by rfl, ?_⟩) ?_ ?_
  rotate_left
  · intro w'
    go_simp
    with_reducible rfl
  rotate_left
  · simp only [Act.put, List.setIfInBounds_toArray, List.set_cons_zero, List.set_cons_succ, i64_w, i32_w]
    rfl
  refine one_ (i := 25) (N := some 31) #[true, true, true, true, true, true, true, true, true, true, true, true, true, true, true, true, true, true, true, true, true, true, true, true, true, true, false, true, true, false, false, false] rfl rfl (one_of HT_.out (by kernel_rfl)) (by decide) (fun K hK => ?_)
  refine goes_ Tryz.func23 (by kernel_rfl) rfl #[.int .i64 x.seq] (by rfl) rfl rfl (by simp only [List.map_toArray, List.map_cons, List.map_nil]; rfl) ?_
  with_reducible refine (rUpG_calls x.seq G.out.2.2.2.2.2.2.1 _).mono ?_
  rintro e W12 ⟨⟨s12, rfl, hs⟩, hb⟩
  refine ⟨_, rfl, ?_⟩
  have HS12 := Aside0.mk hs
  have LS12 := Aside0.mk (show (upB x.seq).length ≤ 11 from upB_len' G.out.2.2.2.2.2.2.1)
  clear hs
  have n_v := Aside0.mk (blk_below BK_v.out hb)
  have n_HB := Aside0.mk (HB.out.trans (hb.mono HB.out.size))
  clear HB hb BK_v
  have BK_v := n_v
  have HB := n_HB
  clear n_HB n_v
  obtain ⟨hc13, hs⟩ := cat_pre (((((s1 ++ s2) ++ s4) ++ s6) ++ s8) ++ s10) s12 HS11.out HS12.out (by have := LS11.out; have := LS12.out; omega)
  (try simp only [ByteArray.size_append] at hc13)
  have HS13 := Aside0.mk hs
  have LS13 := Aside0.mk (show (((((((upB x.kind) ++ (upB x.many)) ++ (intB x.high)) ++ (intB x.low)) ++ (intB x.last)) ++ (upB x.time)) ++ (upB x.seq)).length ≤ 77 from (by rw [List.length_append]; have := LS11.out; have := LS12.out; omega))
  clear hs
  refine hK.out _ _ ⟨((blk_cell BK_v.out 0).trans rfl), ((blk_cell BK_v.out 1).trans rfl), ((blk_cell BK_v.out 2).trans rfl), ((blk_cell BK_v.out 3).trans rfl), ((blk_cell BK_v.out 4).trans rfl), ((blk_cell BK_v.out 5).trans rfl), ((blk_cell BK_v.out 6).trans rfl), ((blk_cell BK_v.out 7).trans rfl)⟩ (fun hHeld => ?_)
  clear hK K
  refine norm_ (a' := ?_) ?_ ?_
  rotate_left
  · show Act.put _ (some 31) _ = _
    simp only [Act.put, List.setIfInBounds_toArray, List.set_cons_zero, List.set_cons_succ, i64_w, i32_w]
    rfl
  refine pure_ (i := 26) (N := some 32) (v := ?_) (a' := ?_) #[true, true, true, true, true, true, true, true, true, true, true, true, true, true, true, true, true, true, true, true, true, true, true, true, true, true, true, true, true, false, false, false] rfl rfl (any_of HT_.out (by kernel_rfl)) (fun _ _ _ h => nomatch h.1) (Or.inl ⟨by rfl, ?_⟩) ?_ ?_
  rotate_left
  · intro w'
    go_simp
    with_reducible rfl
  rotate_left
  · simp only [Act.put, List.setIfInBounds_toArray, List.set_cons_zero, List.set_cons_succ, i64_w, i32_w]
    rfl
  refine one_ (i := 29) (N := some 35) #[true, true, true, true, true, true, true, true, true, true, true, true, true, true, true, true, true, true, true, true, true, true, true, true, true, true, true, true, true, true, false, false] rfl rfl (one_of HT_.out (by kernel_rfl)) (by decide) (fun K hK => ?_)
  refine goes_ Tryz.func22 (by kernel_rfl) rfl #[.string x.source] (by rfl) rfl rfl (by simp only [List.map_toArray, List.map_cons, List.map_nil]; rfl) ?_
  with_reducible refine (rTextG_calls x.source G.out.2.2.2.2.2.2.2.1 _).mono ?_
  rintro e W14 ⟨⟨s14, rfl, hs⟩, hb⟩
  refine ⟨_, rfl, ?_⟩
  have HS14 := Aside0.mk hs
  have LS14 := Aside0.mk (show (textB x.source).length ≤ 10011 from textB_len G.out.2.2.2.2.2.2.2.1)
  clear hs
  have n_v := Aside0.mk (blk_below BK_v.out hb)
  have n_HB := Aside0.mk (HB.out.trans (hb.mono HB.out.size))
  clear HB hb BK_v
  have BK_v := n_v
  have HB := n_HB
  clear n_HB n_v
  obtain ⟨hc15, hs⟩ := cat_pre ((((((s1 ++ s2) ++ s4) ++ s6) ++ s8) ++ s10) ++ s12) s14 HS13.out HS14.out (by have := LS13.out; have := LS14.out; omega)
  (try simp only [ByteArray.size_append] at hc15)
  have HS15 := Aside0.mk hs
  have LS15 := Aside0.mk (show ((((((((upB x.kind) ++ (upB x.many)) ++ (intB x.high)) ++ (intB x.low)) ++ (intB x.last)) ++ (upB x.time)) ++ (upB x.seq)) ++ (textB x.source)).length ≤ 10088 from (by rw [List.length_append]; have := LS13.out; have := LS14.out; omega))
  clear hs
  refine hK.out _ _ ⟨((blk_cell BK_v.out 0).trans rfl), ((blk_cell BK_v.out 1).trans rfl), ((blk_cell BK_v.out 2).trans rfl), ((blk_cell BK_v.out 3).trans rfl), ((blk_cell BK_v.out 4).trans rfl), ((blk_cell BK_v.out 5).trans rfl), ((blk_cell BK_v.out 6).trans rfl), ((blk_cell BK_v.out 7).trans rfl)⟩ (fun hHeld => ?_)
  clear hK K
  refine norm_ (a' := ?_) ?_ ?_
  rotate_left
  · show Act.put _ (some 35) _ = _
    simp only [Act.put, List.setIfInBounds_toArray, List.set_cons_zero, List.set_cons_succ, i64_w, i32_w]
    rfl
  refine pure_ (i := 30) (N := some 36) (v := ?_) (a' := ?_) #[true, true, true, true, true, true, true, true, true, true, true, true, true, true, true, true, true, true, true, true, true, true, true, true, true, true, true, true, true, true, true, false] rfl rfl (any_of HT_.out (by kernel_rfl)) (fun _ _ _ h => nomatch h.1) (Or.inl ⟨by rfl, ?_⟩) ?_ ?_
  rotate_left
  · intro w'
    go_simp
    with_reducible rfl
  rotate_left
  · simp only [Act.put, List.setIfInBounds_toArray, List.set_cons_zero, List.set_cons_succ, i64_w, i32_w]
    rfl
  refine pure_ (i := 31) (N := some 3) (v := ?_) (a' := ?_) #[true, true, true, true, true, true, true, true, true, true, true, true, true, true, true, true, true, true, true, true, true, true, true, true, true, true, true, true, true, true, true, true] rfl rfl (any_of HT_.out (by kernel_rfl)) (fun _ _ _ h => nomatch h.1) (Or.inl ⟨by rfl, ?_⟩) ?_ ?_
  rotate_left
  · intro w'
    go_simp
    with_reducible rfl
  rotate_left
  · simp only [Act.put, List.setIfInBounds_toArray, List.set_cons_zero, List.set_cons_succ, i64_w, i32_w]
    rfl
  refine done_ (done_of HT_.out (by kernel_rfl)) ?_
  refine ⟨rfl, ?_⟩
  clear hHeld HT_ HW_
  clear hc15
  generalize (((((((s1 ++ s2) ++ s4) ++ s6) ++ s8) ++ s10) ++ s12) ++ s14) = c15 at HS15 ⊢
  have y0 : W14.cell? ⟨w.heap.size, 8, none⟩ = some (.slice A_samples x.samples.length c_samples) := ((blk_cell BK_v.out 8).trans rfl)
  have hc := rUpG_calls (x.samples.length : Int) (gUp_len G.out.2.2.2.2.2.2.2.2.1.1) W14
  go_upto_region 3 with (go_at_call 23; refine (show Calls _ _ _ _ _ from hc).mono ?_; rintro e W16 ⟨⟨s16, rfl, hs⟩, hb⟩; have HS16 := Aside0.mk hs; have LS16 := Aside0.mk (show (upB (x.samples.length : Int)).length ≤ 11 from upB_len' (gUp_len G.out.2.2.2.2.2.2.2.2.1.1)); clear hs; have n_v := Aside0.mk (blk_below BK_v.out hb); have n_HB := Aside0.mk (HB.out.trans (hb.mono HB.out.size)); clear HB hb BK_v; have BK_v := n_v; have HB := n_HB; clear n_HB n_v; obtain ⟨hc17, hs⟩ := cat_pre c15 s16 HS15.out HS16.out (by have := LS15.out; have := LS16.out; omega); (try simp only [ByteArray.size_append] at hc17); have HS17 := Aside0.mk hs; have LS17 := Aside0.mk (show (((((((((upB x.kind) ++ (upB x.many)) ++ (intB x.high)) ++ (intB x.low)) ++ (intB x.last)) ++ (upB x.time)) ++ (upB x.seq)) ++ (textB x.source)) ++ (upB (x.samples.length : Int))).length ≤ 10099 from (by rw [List.length_append]; have := LS15.out; have := LS16.out; omega)); clear hs; clear hc)
  clear y0
  clear hc17
  generalize (c15 ++ s16) = c17 at HS17 ⊢
  have y0 := (blk_cell BK_v.out 8).trans rfl
  go_wp2_with fail
  clear y0
  obtain ⟨P18, hP18⟩ : ∃ P, P = ((((((((upB x.kind) ++ (upB x.many)) ++ (intB x.high)) ++ (intB x.low)) ++ (intB x.last)) ++ (upB x.time)) ++ (upB x.seq)) ++ (textB x.source)) ++ (upB (x.samples.length : Int)) := ⟨_, rfl⟩
  have HP18 := Aside0.mk hP18
  rw [← hP18] at HS17
  clear hP18
  have HLT18 := Aside0.mk (show (P18 ++ x.samples.flatMap intB).length ≤ 100000000000 by rw [HP18.out]; have := HL.out; simp only [List.length_append] at *; omega)
  go_loopw [3, 4, 46] (fun v3 v4 v46 wr => ∃ (j18 : Nat) (c : ByteArray), j18 ≤ x.samples.length ∧ v46 = .int .i64 j18 ∧ v3 = .string c ∧ bytesOf c = P18 ++ (x.samples.take j18).flatMap intB ∧ Below w.heap.size w wr ∧ wr.heap[w.heap.size]? = some (.cells #[.int .i64 x.kind, .int .i64 x.many, .int .i64 x.high, .int .i64 x.low, .int .i64 x.last, .int .i64 x.time, .int .i64 x.seq, .string x.source, .slice A_samples x.samples.length c_samples, .slice A_members x.members.length c_members] 94 (0, 0))) (fun v3 v4 v46 _ => x.samples.length - (intOf v46).toNat)
  case atStart => exact ⟨0, _, Nat.zero_le _, rfl, rfl, by rw [HS17.out]; simp, HB.out, BK_v.out⟩
  case round =>
    clear HS17 HB BK_v
    obtain ⟨j18, c18, hj18, rfl, rfl, hs, hb, k_v⟩ := hrel
    have HS18 := Aside0.mk hs
    have HB := Aside0.mk hb
    have BK_v := Aside0.mk k_v
    clear hs hb k_v
    by_cases hlt : j18 < x.samples.length
    · skip
      have hE := Kd.C_get C1.out 0 (j18 : Int) (by omega) (by omega)
      rw [Int.toNat_natCast, show x.samples.getD j18 0 = x.samples[j18] by rw [List.getD_eq_getElem?_getD, List.getElem?_eq_getElem hlt]; rfl] at hE
      have HTK18 := Aside0.mk (show x.samples.take (j18 + 1) = x.samples.take j18 ++ [x.samples[j18]] from List.take_succ_eq_append_getElem hlt)
      have GY18 := Aside0.mk (G.out.2.2.2.2.2.2.2.2.1.2 x.samples[j18] (List.getElem_mem hlt))
      generalize x.samples[j18] = y18_ at hE HTK18 GY18
      obtain ⟨ad18, cs, rfl, _, hK, hcell⟩ := hE
      obtain rfl := hK
      have hcl18 : wr.cell? (ad18.add j18) = some (.int .i64 y18_) := by rw [show j18 = j18 * 1 + 0 from (Nat.mul_one j18).symm]; exact (HB.out.cell (World.block_lt_of_cell? _ _ (hcell 0 _ rfl))).trans (hcell 0 _ rfl)
      clear hcell
      have LS18 := Aside0.mk (loop_len intB x.samples P18 HTK18.out HLT18.out)
      have y0 : wr.cell? ⟨w.heap.size, 8, none⟩ = some (.slice (some ad18) x.samples.length c_samples) := ((blk_cell BK_v.out 8).trans rfl)
      have y1 : wr.cell? (ad18.add j18) = some (.int .i64 y18_) := hcl18
      have hc := rIntG_calls y18_ (gI64_of GY18.out) wr
      go_wp2_with (go_at_call 25; refine (show Calls _ _ _ _ _ from hc).mono ?_; rintro e W19 ⟨⟨s19, rfl, hs⟩, hb⟩; have HS19 := Aside0.mk hs; have LS19 := Aside0.mk (show (intB y18_).length ≤ 11 from intB_len _); clear hs; have n_v := Aside0.mk (blk_below BK_v.out hb); have n_HB := Aside0.mk (HB.out.trans (hb.mono HB.out.size)); clear HB hb BK_v; have BK_v := n_v; have HB := n_HB; clear n_HB n_v; obtain ⟨hc20, hs⟩ := cat_pre c18 s19 HS18.out HS19.out (by have := LS18.out; have := LS19.out; omega); (try simp only [ByteArray.size_append] at hc20); have HS20 := Aside0.mk hs; have LS20 := Aside0.mk (show ((P18 ++ (x.samples.take j18).flatMap intB) ++ (intB y18_)).length ≤ 100000000011 from (by rw [List.length_append]; have := LS18.out; have := LS19.out; omega)); clear hs; clear hc)
      clear y0 y1
      go_roundw
      case rel => exact ⟨j18 + 1, _, by omega, by simp, rfl, by rw [HS20.out, HTK18.out]; simp [listB, List.append_assoc], HB.out, BK_v.out⟩
      case measure => simp [intOf]; omega
    · skip
      obtain rfl : j18 = x.samples.length := by omega
      clear hj18 hlt
      rw [List.take_length] at HS18
      have LS18 := HLT18
      rw [HP18.out] at HS18 LS18
      clear HP18 HLT18
      have y0 : wr.cell? ⟨w.heap.size, 9, none⟩ = some (.slice A_members x.members.length c_members) := ((blk_cell BK_v.out 9).trans rfl)
      have hc := rUpG_calls (x.members.length : Int) (gUp_len G.out.2.2.2.2.2.2.2.2.2.1) wr
      go_upto_region 9 with (go_at_call 23; refine (show Calls _ _ _ _ _ from hc).mono ?_; rintro e W21 ⟨⟨s21, rfl, hs⟩, hb⟩; have HS21 := Aside0.mk hs; have LS21 := Aside0.mk (show (upB (x.members.length : Int)).length ≤ 11 from upB_len' (gUp_len G.out.2.2.2.2.2.2.2.2.2.1)); clear hs; have n_v := Aside0.mk (blk_below BK_v.out hb); have n_HB := Aside0.mk (HB.out.trans (hb.mono HB.out.size)); clear HB hb BK_v; have BK_v := n_v; have HB := n_HB; clear n_HB n_v; obtain ⟨hc22, hs⟩ := cat_pre c18 s21 HS18.out HS21.out (by have := LS18.out; have := LS21.out; omega); (try simp only [ByteArray.size_append] at hc22); have HS22 := Aside0.mk hs; have LS22 := Aside0.mk (show (((((((((((upB x.kind) ++ (upB x.many)) ++ (intB x.high)) ++ (intB x.low)) ++ (intB x.last)) ++ (upB x.time)) ++ (upB x.seq)) ++ (textB x.source)) ++ (upB (x.samples.length : Int))) ++ x.samples.flatMap intB) ++ (upB (x.members.length : Int))).length ≤ 100000000011 from (by rw [List.length_append]; have := LS18.out; have := LS21.out; omega)); clear hs; clear hc)
      clear y0
      clear hc22
      generalize (c18 ++ s21) = c22 at HS22 ⊢
      have y0 := (blk_cell BK_v.out 9).trans rfl
      go_wp2_with fail
      clear y0
      obtain ⟨P23, hP23⟩ : ∃ P, P = ((((((((((upB x.kind) ++ (upB x.many)) ++ (intB x.high)) ++ (intB x.low)) ++ (intB x.last)) ++ (upB x.time)) ++ (upB x.seq)) ++ (textB x.source)) ++ (upB (x.samples.length : Int))) ++ x.samples.flatMap intB) ++ (upB (x.members.length : Int)) := ⟨_, rfl⟩
      have HP23 := Aside0.mk hP23
      rw [← hP23] at HS22
      clear hP23
      have HLT23 := Aside0.mk (show (P23 ++ x.members.flatMap textB).length ≤ 100000000000 by rw [HP23.out]; have := HL.out; simp only [List.length_append] at *; omega)
      go_loopw [3, 5, 67] (fun v3 v5 v67 wr => ∃ (j23 : Nat) (c : ByteArray), j23 ≤ x.members.length ∧ v67 = .int .i64 j23 ∧ v3 = .string c ∧ bytesOf c = P23 ++ (x.members.take j23).flatMap textB ∧ Below w.heap.size w wr ∧ wr.heap[w.heap.size]? = some (.cells #[.int .i64 x.kind, .int .i64 x.many, .int .i64 x.high, .int .i64 x.low, .int .i64 x.last, .int .i64 x.time, .int .i64 x.seq, .string x.source, .slice A_samples x.samples.length c_samples, .slice A_members x.members.length c_members] 94 (0, 0))) (fun v3 v5 v67 _ => x.members.length - (intOf v67).toNat)
      case atStart => exact ⟨0, _, Nat.zero_le _, rfl, rfl, by rw [HS22.out]; simp, HB.out, BK_v.out⟩
      case round =>
        clear HS22 HB BK_v
        obtain ⟨j23, c23, hj23, rfl, rfl, hs, hb, k_v⟩ := hrel
        have HS23 := Aside0.mk hs
        have HB := Aside0.mk hb
        have BK_v := Aside0.mk k_v
        clear hs hb k_v
        by_cases hlt : j23 < x.members.length
        · skip
          have hE := Kd.C_get C2.out ⟨#[]⟩ (j23 : Int) (by omega) (by omega)
          rw [Int.toNat_natCast, show x.members.getD j23 ⟨#[]⟩ = x.members[j23] by rw [List.getD_eq_getElem?_getD, List.getElem?_eq_getElem hlt]; rfl] at hE
          have HTK23 := Aside0.mk (show x.members.take (j23 + 1) = x.members.take j23 ++ [x.members[j23]] from List.take_succ_eq_append_getElem hlt)
          have GY23 := Aside0.mk (G.out.2.2.2.2.2.2.2.2.2.2 x.members[j23] (List.getElem_mem hlt))
          generalize x.members[j23] = y23_ at hE HTK23 GY23
          obtain ⟨ad23, cs, rfl, _, hK, hcell⟩ := hE
          obtain rfl := hK
          have hcl23 : wr.cell? (ad23.add j23) = some (.string y23_) := by rw [show j23 = j23 * 1 + 0 from (Nat.mul_one j23).symm]; exact (HB.out.cell (World.block_lt_of_cell? _ _ (hcell 0 _ rfl))).trans (hcell 0 _ rfl)
          clear hcell
          have LS23 := Aside0.mk (loop_len textB x.members P23 HTK23.out HLT23.out)
          have y0 : wr.cell? ⟨w.heap.size, 9, none⟩ = some (.slice (some ad23) x.members.length c_members) := ((blk_cell BK_v.out 9).trans rfl)
          have y1 : wr.cell? (ad23.add j23) = some (.string y23_) := hcl23
          have hc := rTextG_calls y23_ GY23.out wr
          go_wp2_with (go_at_call 22; refine (show Calls _ _ _ _ _ from hc).mono ?_; rintro e W24 ⟨⟨s24, rfl, hs⟩, hb⟩; have HS24 := Aside0.mk hs; have LS24 := Aside0.mk (show (textB y23_).length ≤ 10011 from textB_len GY23.out); clear hs; have n_v := Aside0.mk (blk_below BK_v.out hb); have n_HB := Aside0.mk (HB.out.trans (hb.mono HB.out.size)); clear HB hb BK_v; have BK_v := n_v; have HB := n_HB; clear n_HB n_v; obtain ⟨hc25, hs⟩ := cat_pre c23 s24 HS23.out HS24.out (by have := LS23.out; have := LS24.out; omega); (try simp only [ByteArray.size_append] at hc25); have HS25 := Aside0.mk hs; have LS25 := Aside0.mk (show ((P23 ++ (x.members.take j23).flatMap textB) ++ (textB y23_)).length ≤ 100000010011 from (by rw [List.length_append]; have := LS23.out; have := LS24.out; omega)); clear hs; clear hc)
          clear y0 y1
          go_roundw
          case rel => exact ⟨j23 + 1, _, by omega, by simp, rfl, by rw [HS25.out, HTK23.out]; simp [listB, List.append_assoc], HB.out, BK_v.out⟩
          case measure => simp [intOf]; omega
        · skip
          obtain rfl : j23 = x.members.length := by omega
          clear hj23 hlt
          rw [List.take_length] at HS23
          have LS23 := HLT23
          rw [HP23.out] at HS23 LS23
          clear HP23 HLT23
          go_wp2
          exact bodyPost_ret (v := .string c23) (by simp [results, Tryz.results26, go_sem]) rfl ⟨⟨_, rfl, by rw [HS23.out]; simp [bVatS, listB, List.append_assoc]⟩, HB.out⟩
def r8.T2 : Bool × List (List Nat × List Nat) := (true, [([], []), ([0], [0]), ([1], [1]), ([2], [2]), ([], []), ([4], [4]), ([5], [5]), ([6, 3], [6]), ([3, 7], [3, 7]), ([], []), ([9], [9]), ([10], [10]), ([11, 7], [11]), ([8, 12], [8, 12]), ([], []), ([14], [14]), ([15], [15]), ([16, 12], [16]), ([13, 17], [13, 17]), ([], []), ([19], [19]), ([20, 17], [20]), ([18, 21], [18, 21]), ([], []), ([23], [23]), ([24, 21], [24]), ([22, 25], [22, 25]), ([26, 25, 0, 1, 2, 3, 4, 5, 6, 7, 8, 9, 10, 11, 12, 13, 14, 15, 16, 17, 18, 19, 20, 21, 22, 23, 24, 25, 26], [26])])
def r8.B2 : List Nat := [0, 1, 3, 7, 0, 16, 48, 127, 255, 0, 512, 1536, 3839, 8191, 0, 16384, 49152, 122623, 262143, 0, 524288, 1826559, 4194303, 0, 8388608, 29089535, 67108863, 134217727]
theorem r8.tab2 : rtab .any (opsOf Tryz.f8 2) = r8.T2 := by kernel_rfl
theorem r8.bits2 : waitsOk r8.T2.2 r8.B2 = true := by kernel_rfl
def r8.T3 : Bool × List (List Nat × List Nat) := (true, [([], []), ([], []), ([1], [1]), ([2], [2]), ([0, 3], [0, 3]), ([], []), ([5], [5]), ([6, 3], [6]), ([4, 7], [4, 7]), ([], []), ([9], [9]), ([10], [10]), ([11, 7], [11]), ([8, 12], [8, 12]), ([], []), ([14], [14]), ([15], [15]), ([16, 12], [16]), ([13, 17], [13, 17]), ([], []), ([19], [19]), ([20, 17], [20]), ([18, 21], [18, 21]), ([], []), ([23], [23]), ([24, 21], [24]), ([22, 25], [22, 25]), ([26, 25, 0, 1, 2, 3, 4, 5, 6, 7, 8, 9, 10, 11, 12, 13, 14, 15, 16, 17, 18, 19, 20, 21, 22, 23, 24, 25, 26], [0, 26])])
def r8.B3 : List Nat := [0, 0, 2, 6, 15, 0, 32, 110, 255, 0, 512, 1536, 3822, 8191, 0, 16384, 49152, 122606, 262143, 0, 524288, 1826542, 4194303, 0, 8388608, 29089518, 67108863, 134217727]
theorem r8.tab3 : rtab .any (opsOf Tryz.f8 3) = r8.T3 := by kernel_rfl
theorem r8.bits3 : waitsOk r8.T3.2 r8.B3 = true := by kernel_rfl
set_option maxRecDepth 100000 in
set_option maxHeartbeats 16000000 in
theorem rEmi_calls (x : Emi) (hG : gEmi x) (w : World) : Calls Tryz.prog 8 #[.agg #[.string x.key, .string x.policy, .int .i64 x.kind, .int .i64 x.start, .int .i64 x.rev, .bool x.final, .int .i64 x.rkind, .int .i64 x.count, .int .i64 x.sum, .int .i64 x.min, .int .i64 x.max, .int .i64 x.q0, .int .i64 x.q1, .int .i64 x.q2, .bool x.over]] w (StrAns (bEmi x) w) := by
  have HL0 := bEmi_len x hG
  unfold gEmi at hG
  have G := Aside0.mk hG
  simp only [bEmi, List.length_append] at HL0
  have HL := Aside0.mk HL0
  have GS := Aside0.mk (tdiv_bnd G.out.2.2.2.2.2.2.2.1)
  clear hG HL0
  have hwq : wrap64 (x.sum.tdiv 1000000000000) = x.sum.tdiv 1000000000000 := by have := GS.out.1; unfold gI64 at this; exact wrap_in (by omega) (by omega)
  have hwr : wrap64 (x.sum.tmod 1000000000000) = x.sum.tmod 1000000000000 := by have := GS.out.2; unfold gI64 at this; exact wrap_in (by omega) (by omega)
  go_enter Tryz.func8, Tryz.ntmps8
  go_upto_region 1 with fail
  have HB := Aside0.mk ((Below.refl w.heap.size w).alloc (Nat.le_refl _) (.cells #[.string x.key, .string x.policy, .int .i64 x.kind, .int .i64 x.start, .int .i64 x.rev, .bool x.final, .int .i64 x.rkind, .int .i64 x.count, .int .i64 x.sum, .int .i64 x.min, .int .i64 x.max, .int .i64 x.q0, .int .i64 x.q1, .int .i64 x.q2, .bool x.over] 30))
  have BK_v := Aside0.mk (blk_new w (.cells #[.string x.key, .string x.policy, .int .i64 x.kind, .int .i64 x.start, .int .i64 x.rev, .bool x.final, .int .i64 x.rkind, .int .i64 x.count, .int .i64 x.sum, .int .i64 x.min, .int .i64 x.max, .int .i64 x.q0, .int .i64 x.q1, .int .i64 x.q2, .bool x.over] 30))
  generalize w.alloc (.cells #[.string x.key, .string x.policy, .int .i64 x.kind, .int .i64 x.start, .int .i64 x.rev, .bool x.final, .int .i64 x.rkind, .int .i64 x.count, .int .i64 x.sum, .int .i64 x.min, .int .i64 x.max, .int .i64 x.q0, .int .i64 x.q1, .int .i64 x.q2, .bool x.over] 30) = W at HB BK_v ⊢
  have y6 := (blk_cell BK_v.out 6).trans rfl
  have y7 := (blk_cell BK_v.out 7).trans rfl
  have y8 := (blk_cell BK_v.out 8).trans rfl
  have y9 := (blk_cell BK_v.out 9).trans rfl
  have y10 := (blk_cell BK_v.out 10).trans rfl
  have y11 := (blk_cell BK_v.out 11).trans rfl
  have y12 := (blk_cell BK_v.out 12).trans rfl
  have y13 := (blk_cell BK_v.out 13).trans rfl
  have y14 := (blk_cell BK_v.out 14).trans rfl
  have hu := Tryz.underlying28
  go_upto_region 2 with fail
  clear y6 y7 y8 y9 y10 y11 y12 y13 y14
  have hm := (Below.refl W.heap.size W).alloc (Nat.le_refl _) (.cells #[.int .i64 x.rkind, .int .i64 x.count, .int .i64 x.sum, .int .i64 x.min, .int .i64 x.max, .int .i64 x.q0, .int .i64 x.q1, .int .i64 x.q2, .bool x.over] 28)
  have n_v := Aside0.mk (blk_below BK_v.out hm)
  have n_HB := Aside0.mk (HB.out.trans (hm.mono HB.out.size))
  clear HB BK_v hm
  have HB := n_HB
  have BK_v := n_v
  clear n_HB n_v
  have BK_m := Aside0.mk (blk_new W (.cells #[.int .i64 x.rkind, .int .i64 x.count, .int .i64 x.sum, .int .i64 x.min, .int .i64 x.max, .int .i64 x.q0, .int .i64 x.q1, .int .i64 x.q2, .bool x.over] 28))
  generalize W.alloc (.cells #[.int .i64 x.rkind, .int .i64 x.count, .int .i64 x.sum, .int .i64 x.min, .int .i64 x.max, .int .i64 x.q0, .int .i64 x.q1, .int .i64 x.q2, .bool x.over] 28) = V at HB BK_v BK_m ⊢
  generalize W.heap.size = M at BK_m ⊢
  have n_v := Aside0.mk (blk_drew BK_v.out)
  have n_m := Aside0.mk (blk_drew BK_m.out)
  have n_HB := Aside0.mk (below_drew1 HB.out)
  clear HB BK_v BK_m
  have BK_v := n_v
  have BK_m := n_m
  have HB := n_HB
  clear n_HB n_v n_m
  refine wp_mono (Q := fun e a w => e = .normal ∧ _) ?_ (fun e a w h => h.2)
  refine start_ (n := 28) (S := fun w' => w'.cell? ⟨w.heap.size, 0, none⟩ = some (.string x.key) ∧ w'.cell? ⟨w.heap.size, 1, none⟩ = some (.string x.policy) ∧ w'.cell? ⟨w.heap.size, 2, none⟩ = some (.int .i64 x.kind) ∧ w'.cell? ⟨w.heap.size, 3, none⟩ = some (.int .i64 x.start) ∧ w'.cell? ⟨w.heap.size, 4, none⟩ = some (.int .i64 x.rev) ∧ w'.cell? ⟨w.heap.size, 5, none⟩ = some (.bool x.final)) (ds := []) #[false, false, false, false, false, false, false, false, false, false, false, false, false, false, false, false, false, false, false, false, false, false, false, false, false, false, false, false] (by kernel_rfl) rfl rfl ⟨((blk_cell BK_v.out 0).trans rfl), ((blk_cell BK_v.out 1).trans rfl), ((blk_cell BK_v.out 2).trans rfl), ((blk_cell BK_v.out 3).trans rfl), ((blk_cell BK_v.out 4).trans rfl), ((blk_cell BK_v.out 5).trans rfl)⟩ (fun hHeld => ?_)
  refine with_tabW r8.tab2 r8.bits2 (fun HT_ HW_ => ?_)
  refine pure_ (i := 0) (N := some 8) (v := ?_) (a' := ?_) #[true, false, false, false, false, false, false, false, false, false, false, false, false, false, false, false, false, false, false, false, false, false, false, false, false, false, false, false] rfl rfl (any_of HT_.out (by kernel_rfl)) (fun _ _ _ h => nomatch h.1) (Or.inl ⟨by rfl, ?_⟩) ?_ ?_
  rotate_left
  · intro w'
    go_simp
    with_reducible rfl
  rotate_left
  · simp only [Act.put, List.setIfInBounds_toArray, List.set_cons_zero, List.set_cons_succ, i64_w, i32_w]
    rfl
  refine pure_ (i := 1) (N := some 9) (v := ?_) (a' := ?_) #[true, true, false, false, false, false, false, false, false, false, false, false, false, false, false, false, false, false, false, false, false, false, false, false, false, false, false, false] rfl rfl (any_of HT_.out (by kernel_rfl)) (fun _ _ _ h => nomatch h.1) (Or.inl ⟨by rfl, ?_⟩) ?_ ?_
  rotate_left
  · intro w'
    go_simp
    with_reducible rfl
  rotate_left
  · simp only [Act.put, List.setIfInBounds_toArray, List.set_cons_zero, List.set_cons_succ, i64_w, i32_w]
    rfl
  refine pure_ (i := 4) (N := some 12) (v := ?_) (a' := ?_) #[true, true, false, false, true, false, false, false, false, false, false, false, false, false, false, false, false, false, false, false, false, false, false, false, false, false, false, false] rfl rfl (any_of HT_.out (by kernel_rfl)) (fun _ _ _ h => nomatch h.1) (Or.inl ⟨by rfl, ?_⟩) ?_ ?_
  rotate_left
  · intro w'
    go_simp
    with_reducible rfl
  rotate_left
  · simp only [Act.put, List.setIfInBounds_toArray, List.set_cons_zero, List.set_cons_succ, i64_w, i32_w]
    rfl
  refine pure_ (i := 5) (N := some 13) (v := ?_) (a' := ?_) #[true, true, false, false, true, true, false, false, false, false, false, false, false, false, false, false, false, false, false, false, false, false, false, false, false, false, false, false] rfl rfl (any_of HT_.out (by kernel_rfl)) (fun _ _ _ h => nomatch h.1) (Or.inl ⟨by rfl, ?_⟩) ?_ ?_
  rotate_left
  · intro w'
    go_simp
    with_reducible rfl
  rotate_left
  · simp only [Act.put, List.setIfInBounds_toArray, List.set_cons_zero, List.set_cons_succ, i64_w, i32_w]
    rfl
  refine pure_ (i := 9) (N := some 17) (v := ?_) (a' := ?_) #[true, true, false, false, true, true, false, false, false, true, false, false, false, false, false, false, false, false, false, false, false, false, false, false, false, false, false, false] rfl rfl (any_of HT_.out (by kernel_rfl)) (fun _ _ _ h => nomatch h.1) (Or.inl ⟨by rfl, ?_⟩) ?_ ?_
  rotate_left
  · intro w'
    go_simp
    with_reducible rfl
  rotate_left
  · simp only [Act.put, List.setIfInBounds_toArray, List.set_cons_zero, List.set_cons_succ, i64_w, i32_w]
    rfl
  refine pure_ (i := 10) (N := some 18) (v := ?_) (a' := ?_) #[true, true, false, false, true, true, false, false, false, true, true, false, false, false, false, false, false, false, false, false, false, false, false, false, false, false, false, false] rfl rfl (any_of HT_.out (by kernel_rfl)) (fun _ _ _ h => nomatch h.1) (Or.inl ⟨by rfl, ?_⟩) ?_ ?_
  rotate_left
  · intro w'
    go_simp
    with_reducible rfl
  rotate_left
  · simp only [Act.put, List.setIfInBounds_toArray, List.set_cons_zero, List.set_cons_succ, i64_w, i32_w]
    rfl
  refine pure_ (i := 14) (N := some 22) (v := ?_) (a' := ?_) #[true, true, false, false, true, true, false, false, false, true, true, false, false, false, true, false, false, false, false, false, false, false, false, false, false, false, false, false] rfl rfl (any_of HT_.out (by kernel_rfl)) (fun _ _ _ h => nomatch h.1) (Or.inl ⟨by rfl, ?_⟩) ?_ ?_
  rotate_left
  · intro w'
    go_simp
    with_reducible rfl
  rotate_left
  · simp only [Act.put, List.setIfInBounds_toArray, List.set_cons_zero, List.set_cons_succ, i64_w, i32_w]
    rfl
  refine pure_ (i := 15) (N := some 23) (v := ?_) (a' := ?_) #[true, true, false, false, true, true, false, false, false, true, true, false, false, false, true, true, false, false, false, false, false, false, false, false, false, false, false, false] rfl rfl (any_of HT_.out (by kernel_rfl)) (fun _ _ _ h => nomatch h.1) (Or.inl ⟨by rfl, ?_⟩) ?_ ?_
  rotate_left
  · intro w'
    go_simp
    with_reducible rfl
  rotate_left
  · simp only [Act.put, List.setIfInBounds_toArray, List.set_cons_zero, List.set_cons_succ, i64_w, i32_w]
    rfl
  refine pure_ (i := 19) (N := some 27) (v := ?_) (a' := ?_) #[true, true, false, false, true, true, false, false, false, true, true, false, false, false, true, true, false, false, false, true, false, false, false, false, false, false, false, false] rfl rfl (any_of HT_.out (by kernel_rfl)) (fun _ _ _ h => nomatch h.1) (Or.inl ⟨by rfl, ?_⟩) ?_ ?_
  rotate_left
  · intro w'
    go_simp
    with_reducible rfl
  rotate_left
  · simp only [Act.put, List.setIfInBounds_toArray, List.set_cons_zero, List.set_cons_succ, i64_w, i32_w]
    rfl
  refine pure_ (i := 23) (N := some 31) (v := ?_) (a' := ?_) #[true, true, false, false, true, true, false, false, false, true, true, false, false, false, true, true, false, false, false, true, false, false, false, true, false, false, false, false] rfl rfl (any_of HT_.out (by kernel_rfl)) (fun _ _ _ h => nomatch h.1) (Or.inl ⟨by rfl, ?_⟩) ?_ ?_
  rotate_left
  · intro w'
    go_simp
    with_reducible rfl
  rotate_left
  · simp only [Act.put, List.setIfInBounds_toArray, List.set_cons_zero, List.set_cons_succ, i64_w, i32_w]
    rfl
  refine take_ (i := 2) (N := some 10) (v := ?_) (a' := ?_) #[true, true, true, false, true, true, false, false, false, true, true, false, false, false, true, true, false, false, false, true, false, false, false, true, false, false, false, false] rfl rfl (take_ofW HT_.out HW_.out (by kernel_rfl)) (fun _ _ _ h => nomatch h.1) (Or.inl ⟨by rfl, ?_⟩) hHeld ?_ ?_
  rotate_left
  · rintro w' ⟨s0, s1, s2, s3, s4, s5⟩
    go_simp
    with_reducible rfl
  rotate_left
  · simp only [Act.put, List.setIfInBounds_toArray, List.set_cons_zero, List.set_cons_succ, i64_w, i32_w]
    rfl
  refine take_ (i := 6) (N := some 14) (v := ?_) (a' := ?_) #[true, true, true, false, true, true, true, false, false, true, true, false, false, false, true, true, false, false, false, true, false, false, false, true, false, false, false, false] rfl rfl (take_ofW HT_.out HW_.out (by kernel_rfl)) (fun _ _ _ h => nomatch h.1) (Or.inl ⟨by rfl, ?_⟩) hHeld ?_ ?_
  rotate_left
  · rintro w' ⟨s0, s1, s2, s3, s4, s5⟩
    go_simp
    with_reducible rfl
  rotate_left
  · simp only [Act.put, List.setIfInBounds_toArray, List.set_cons_zero, List.set_cons_succ, i64_w, i32_w]
    rfl
  refine take_ (i := 11) (N := some 19) (v := ?_) (a' := ?_) #[true, true, true, false, true, true, true, false, false, true, true, true, false, false, true, true, false, false, false, true, false, false, false, true, false, false, false, false] rfl rfl (take_ofW HT_.out HW_.out (by kernel_rfl)) (fun _ _ _ h => nomatch h.1) (Or.inl ⟨by rfl, ?_⟩) hHeld ?_ ?_
  rotate_left
  · rintro w' ⟨s0, s1, s2, s3, s4, s5⟩
    go_simp
    with_reducible rfl
  rotate_left
  · simp only [Act.put, List.setIfInBounds_toArray, List.set_cons_zero, List.set_cons_succ, i64_w, i32_w]
    rfl
  refine take_ (i := 16) (N := some 24) (v := ?_) (a' := ?_) #[true, true, true, false, true, true, true, false, false, true, true, true, false, false, true, true, true, false, false, true, false, false, false, true, false, false, false, false] rfl rfl (take_ofW HT_.out HW_.out (by kernel_rfl)) (fun _ _ _ h => nomatch h.1) (Or.inl ⟨by rfl, ?_⟩) hHeld ?_ ?_
  rotate_left
  · rintro w' ⟨s0, s1, s2, s3, s4, s5⟩
    go_simp
    with_reducible rfl
  rotate_left
  · simp only [Act.put, List.setIfInBounds_toArray, List.set_cons_zero, List.set_cons_succ, i64_w, i32_w]
    rfl
  refine take_ (i := 20) (N := some 28) (v := ?_) (a' := ?_) #[true, true, true, false, true, true, true, false, false, true, true, true, false, false, true, true, true, false, false, true, true, false, false, true, false, false, false, false] rfl rfl (take_ofW HT_.out HW_.out (by kernel_rfl)) (fun _ _ _ h => nomatch h.1) (Or.inl ⟨by rfl, ?_⟩) hHeld ?_ ?_
  rotate_left
  · rintro w' ⟨s0, s1, s2, s3, s4, s5⟩
    go_simp
    with_reducible rfl
  rotate_left
  · simp only [Act.put, List.setIfInBounds_toArray, List.set_cons_zero, List.set_cons_succ, i64_w, i32_w]
    rfl
  refine take_ (i := 24) (N := some 32) (v := ?_) (a' := ?_) #[true, true, true, false, true, true, true, false, false, true, true, true, false, false, true, true, true, false, false, true, true, false, false, true, true, false, false, false] rfl rfl (take_ofW HT_.out HW_.out (by kernel_rfl)) (fun _ _ _ h => nomatch h.1) (Or.inl ⟨by rfl, ?_⟩) hHeld ?_ ?_
  rotate_left
  · rintro w' ⟨s0, s1, s2, s3, s4, s5⟩
    go_simp
    with_reducible rfl
  rotate_left
  · simp only [Act.put, List.setIfInBounds_toArray, List.set_cons_zero, List.set_cons_succ, i64_w, i32_w]
    rfl
  refine one_ (i := 3) (N := some 11) #[true, true, true, true, true, true, true, false, false, true, true, true, false, false, true, true, true, false, false, true, true, false, false, true, true, false, false, false] rfl rfl (one_of HT_.out (by kernel_rfl)) (by decide) (fun K hK => ?_)
  refine goes_ Tryz.func22 (by kernel_rfl) rfl #[.string x.key] (by rfl) rfl rfl (by simp only [List.map_toArray, List.map_cons, List.map_nil]; rfl) ?_
  with_reducible refine (rTextG_calls x.key G.out.1 _).mono ?_
  rintro e W1 ⟨⟨s1, rfl, hs⟩, hb⟩
  refine ⟨_, rfl, ?_⟩
  have HS1 := Aside0.mk hs
  have LS1 := Aside0.mk (show (textB x.key).length ≤ 10011 from textB_len G.out.1)
  clear hs
  have n_v := Aside0.mk (blk_below BK_v.out hb)
  have n_m := Aside0.mk (blk_below BK_m.out hb)
  have n_HB := Aside0.mk (HB.out.trans (hb.mono HB.out.size))
  clear HB hb BK_v BK_m
  have BK_v := n_v
  have BK_m := n_m
  have HB := n_HB
  clear n_HB n_v n_m
  refine hK.out _ _ ⟨((blk_cell BK_v.out 0).trans rfl), ((blk_cell BK_v.out 1).trans rfl), ((blk_cell BK_v.out 2).trans rfl), ((blk_cell BK_v.out 3).trans rfl), ((blk_cell BK_v.out 4).trans rfl), ((blk_cell BK_v.out 5).trans rfl)⟩ (fun hHeld => ?_)
  clear hK K
  refine norm_ (a' := ?_) ?_ ?_
  rotate_left
  · show Act.put _ (some 11) _ = _
    simp only [Act.put, List.setIfInBounds_toArray, List.set_cons_zero, List.set_cons_succ, i64_w, i32_w]
    rfl
  refine one_ (i := 7) (N := some 15) #[true, true, true, true, true, true, true, true, false, true, true, true, false, false, true, true, true, false, false, true, true, false, false, true, true, false, false, false] rfl rfl (one_of HT_.out (by kernel_rfl)) (by decide) (fun K hK => ?_)
  refine goes_ Tryz.func22 (by kernel_rfl) rfl #[.string x.policy] (by rfl) rfl rfl (by simp only [List.map_toArray, List.map_cons, List.map_nil]; rfl) ?_
  with_reducible refine (rTextG_calls x.policy G.out.2.1 _).mono ?_
  rintro e W2 ⟨⟨s2, rfl, hs⟩, hb⟩
  refine ⟨_, rfl, ?_⟩
  have HS2 := Aside0.mk hs
  have LS2 := Aside0.mk (show (textB x.policy).length ≤ 10011 from textB_len G.out.2.1)
  clear hs
  have n_v := Aside0.mk (blk_below BK_v.out hb)
  have n_m := Aside0.mk (blk_below BK_m.out hb)
  have n_HB := Aside0.mk (HB.out.trans (hb.mono HB.out.size))
  clear HB hb BK_v BK_m
  have BK_v := n_v
  have BK_m := n_m
  have HB := n_HB
  clear n_HB n_v n_m
  obtain ⟨hc3, hs⟩ := cat_pre s1 s2 HS1.out HS2.out (by have := LS1.out; have := LS2.out; omega)
  (try simp only [ByteArray.size_append] at hc3)
  have HS3 := Aside0.mk hs
  have LS3 := Aside0.mk (show ((textB x.key) ++ (textB x.policy)).length ≤ 20022 from (by rw [List.length_append]; have := LS1.out; have := LS2.out; omega))
  clear hs
  refine hK.out _ _ ⟨((blk_cell BK_v.out 0).trans rfl), ((blk_cell BK_v.out 1).trans rfl), ((blk_cell BK_v.out 2).trans rfl), ((blk_cell BK_v.out 3).trans rfl), ((blk_cell BK_v.out 4).trans rfl), ((blk_cell BK_v.out 5).trans rfl)⟩ (fun hHeld => ?_)
  clear hK K
  refine norm_ (a' := ?_) ?_ ?_
  rotate_left
  · show Act.put _ (some 15) _ = _
    simp only [Act.put, List.setIfInBounds_toArray, List.set_cons_zero, List.set_cons_succ, i64_w, i32_w]
    rfl
  refine pure_ (i := 8) (N := some 16) (v := ?_) (a' := ?_) #[true, true, true, true, true, true, true, true, true, true, true, true, false, false, true, true, true, false, false, true, true, false, false, true, true, false, false, false] rfl rfl (any_of HT_.out (by kernel_rfl)) (fun _ _ _ h => nomatch h.1) (Or.inl ⟨by rfl, ?_⟩) ?_ ?_
  rotate_left
  · intro w'
    go_simp
    with_reducible rfl
  rotate_left
  · simp only [Act.put, List.setIfInBounds_toArray, List.set_cons_zero, List.set_cons_succ, i64_w, i32_w]
    rfl
  refine one_ (i := 12) (N := some 20) #[true, true, true, true, true, true, true, true, true, true, true, true, true, false, true, true, true, false, false, true, true, false, false, true, true, false, false, false] rfl rfl (one_of HT_.out (by kernel_rfl)) (by decide) (fun K hK => ?_)
  refine goes_ Tryz.func23 (by kernel_rfl) rfl #[.int .i64 x.kind] (by rfl) rfl rfl (by simp only [List.map_toArray, List.map_cons, List.map_nil]; rfl) ?_
  with_reducible refine (rUpG_calls x.kind G.out.2.2.1 _).mono ?_
  rintro e W4 ⟨⟨s4, rfl, hs⟩, hb⟩
  refine ⟨_, rfl, ?_⟩
  have HS4 := Aside0.mk hs
  have LS4 := Aside0.mk (show (upB x.kind).length ≤ 11 from upB_len' G.out.2.2.1)
  clear hs
  have n_v := Aside0.mk (blk_below BK_v.out hb)
  have n_m := Aside0.mk (blk_below BK_m.out hb)
  have n_HB := Aside0.mk (HB.out.trans (hb.mono HB.out.size))
  clear HB hb BK_v BK_m
  have BK_v := n_v
  have BK_m := n_m
  have HB := n_HB
  clear n_HB n_v n_m
  obtain ⟨hc5, hs⟩ := cat_pre (s1 ++ s2) s4 HS3.out HS4.out (by have := LS3.out; have := LS4.out; omega)
  (try simp only [ByteArray.size_append] at hc5)
  have HS5 := Aside0.mk hs
  have LS5 := Aside0.mk (show (((textB x.key) ++ (textB x.policy)) ++ (upB x.kind)).length ≤ 20033 from (by rw [List.length_append]; have := LS3.out; have := LS4.out; omega))
  clear hs
  refine hK.out _ _ ⟨((blk_cell BK_v.out 0).trans rfl), ((blk_cell BK_v.out 1).trans rfl), ((blk_cell BK_v.out 2).trans rfl), ((blk_cell BK_v.out 3).trans rfl), ((blk_cell BK_v.out 4).trans rfl), ((blk_cell BK_v.out 5).trans rfl)⟩ (fun hHeld => ?_)
  clear hK K
  refine norm_ (a' := ?_) ?_ ?_
  rotate_left
  · show Act.put _ (some 20) _ = _
    simp only [Act.put, List.setIfInBounds_toArray, List.set_cons_zero, List.set_cons_succ, i64_w, i32_w]
    rfl
  refine pure_ (i := 13) (N := some 21) (v := ?_) (a' := ?_) #[true, true, true, true, true, true, true, true, true, true, true, true, true, true, true, true, true, false, false, true, true, false, false, true, true, false, false, false] rfl rfl (any_of HT_.out (by kernel_rfl)) (fun _ _ _ h => nomatch h.1) (Or.inl ⟨by rfl, ?_⟩) ?_ ?_
  rotate_left
  · intro w'
    go_simp
    with_reducible rfl
  rotate_left
  · simp only [Act.put, List.setIfInBounds_toArray, List.set_cons_zero, List.set_cons_succ, i64_w, i32_w]
    rfl
  refine one_ (i := 17) (N := some 25) #[true, true, true, true, true, true, true, true, true, true, true, true, true, true, true, true, true, true, false, true, true, false, false, true, true, false, false, false] rfl rfl (one_of HT_.out (by kernel_rfl)) (by decide) (fun K hK => ?_)
  refine goes_ Tryz.func23 (by kernel_rfl) rfl #[.int .i64 x.start] (by rfl) rfl rfl (by simp only [List.map_toArray, List.map_cons, List.map_nil]; rfl) ?_
  with_reducible refine (rUpG_calls x.start G.out.2.2.2.1 _).mono ?_
  rintro e W6 ⟨⟨s6, rfl, hs⟩, hb⟩
  refine ⟨_, rfl, ?_⟩
  have HS6 := Aside0.mk hs
  have LS6 := Aside0.mk (show (upB x.start).length ≤ 11 from upB_len' G.out.2.2.2.1)
  clear hs
  have n_v := Aside0.mk (blk_below BK_v.out hb)
  have n_m := Aside0.mk (blk_below BK_m.out hb)
  have n_HB := Aside0.mk (HB.out.trans (hb.mono HB.out.size))
  clear HB hb BK_v BK_m
  have BK_v := n_v
  have BK_m := n_m
  have HB := n_HB
  clear n_HB n_v n_m
  obtain ⟨hc7, hs⟩ := cat_pre ((s1 ++ s2) ++ s4) s6 HS5.out HS6.out (by have := LS5.out; have := LS6.out; omega)
  (try simp only [ByteArray.size_append] at hc7)
  have HS7 := Aside0.mk hs
  have LS7 := Aside0.mk (show ((((textB x.key) ++ (textB x.policy)) ++ (upB x.kind)) ++ (upB x.start)).length ≤ 20044 from (by rw [List.length_append]; have := LS5.out; have := LS6.out; omega))
  clear hs
  refine hK.out _ _ ⟨((blk_cell BK_v.out 0).trans rfl), ((blk_cell BK_v.out 1).trans rfl), ((blk_cell BK_v.out 2).trans rfl), ((blk_cell BK_v.out 3).trans rfl), ((blk_cell BK_v.out 4).trans rfl), ((blk_cell BK_v.out 5).trans rfl)⟩ (fun hHeld => ?_)
  clear hK K
  refine norm_ (a' := ?_) ?_ ?_
  rotate_left
  · show Act.put _ (some 25) _ = _
    simp only [Act.put, List.setIfInBounds_toArray, List.set_cons_zero, List.set_cons_succ, i64_w, i32_w]
    rfl
  refine pure_ (i := 18) (N := some 26) (v := ?_) (a' := ?_) #[true, true, true, true, true, true, true, true, true, true, true, true, true, true, true, true, true, true, true, true, true, false, false, true, true, false, false, false] rfl rfl (any_of HT_.out (by kernel_rfl)) (fun _ _ _ h => nomatch h.1) (Or.inl ⟨by rfl, ?_⟩) ?_ ?_
  rotate_left
  · intro w'
    go_simp
    with_reducible rfl
  rotate_left
  · simp only [Act.put, List.setIfInBounds_toArray, List.set_cons_zero, List.set_cons_succ, i64_w, i32_w]
    rfl
  refine one_ (i := 21) (N := some 29) #[true, true, true, true, true, true, true, true, true, true, true, true, true, true, true, true, true, true, true, true, true, true, false, true, true, false, false, false] rfl rfl (one_of HT_.out (by kernel_rfl)) (by decide) (fun K hK => ?_)
  refine goes_ Tryz.func23 (by kernel_rfl) rfl #[.int .i64 x.rev] (by rfl) rfl rfl (by simp only [List.map_toArray, List.map_cons, List.map_nil]; rfl) ?_
  with_reducible refine (rUpG_calls x.rev G.out.2.2.2.2.1 _).mono ?_
  rintro e W8 ⟨⟨s8, rfl, hs⟩, hb⟩
  refine ⟨_, rfl, ?_⟩
  have HS8 := Aside0.mk hs
  have LS8 := Aside0.mk (show (upB x.rev).length ≤ 11 from upB_len' G.out.2.2.2.2.1)
  clear hs
  have n_v := Aside0.mk (blk_below BK_v.out hb)
  have n_m := Aside0.mk (blk_below BK_m.out hb)
  have n_HB := Aside0.mk (HB.out.trans (hb.mono HB.out.size))
  clear HB hb BK_v BK_m
  have BK_v := n_v
  have BK_m := n_m
  have HB := n_HB
  clear n_HB n_v n_m
  obtain ⟨hc9, hs⟩ := cat_pre (((s1 ++ s2) ++ s4) ++ s6) s8 HS7.out HS8.out (by have := LS7.out; have := LS8.out; omega)
  (try simp only [ByteArray.size_append] at hc9)
  have HS9 := Aside0.mk hs
  have LS9 := Aside0.mk (show (((((textB x.key) ++ (textB x.policy)) ++ (upB x.kind)) ++ (upB x.start)) ++ (upB x.rev)).length ≤ 20055 from (by rw [List.length_append]; have := LS7.out; have := LS8.out; omega))
  clear hs
  refine hK.out _ _ ⟨((blk_cell BK_v.out 0).trans rfl), ((blk_cell BK_v.out 1).trans rfl), ((blk_cell BK_v.out 2).trans rfl), ((blk_cell BK_v.out 3).trans rfl), ((blk_cell BK_v.out 4).trans rfl), ((blk_cell BK_v.out 5).trans rfl)⟩ (fun hHeld => ?_)
  clear hK K
  refine norm_ (a' := ?_) ?_ ?_
  rotate_left
  · show Act.put _ (some 29) _ = _
    simp only [Act.put, List.setIfInBounds_toArray, List.set_cons_zero, List.set_cons_succ, i64_w, i32_w]
    rfl
  refine pure_ (i := 22) (N := some 30) (v := ?_) (a' := ?_) #[true, true, true, true, true, true, true, true, true, true, true, true, true, true, true, true, true, true, true, true, true, true, true, true, true, false, false, false] rfl rfl (any_of HT_.out (by kernel_rfl)) (fun _ _ _ h => nomatch h.1) (Or.inl ⟨by rfl, ?_⟩) ?_ ?_
  rotate_left
  · intro w'
    go_simp
    with_reducible rfl
  rotate_left
  · simp only [Act.put, List.setIfInBounds_toArray, List.set_cons_zero, List.set_cons_succ, i64_w, i32_w]
    rfl
  refine one_ (i := 25) (N := some 33) #[true, true, true, true, true, true, true, true, true, true, true, true, true, true, true, true, true, true, true, true, true, true, true, true, true, true, false, false] rfl rfl (one_of HT_.out (by kernel_rfl)) (by decide) (fun K hK => ?_)
  refine goes_ Tryz.func24 (by kernel_rfl) rfl #[.bool x.final] (by rfl) rfl rfl (by simp only [List.map_toArray, List.map_cons, List.map_nil]; rfl) ?_
  with_reducible refine (rMarkG_calls x.final trivial _).mono ?_
  rintro e W10 ⟨⟨s10, rfl, hs⟩, hb⟩
  refine ⟨_, rfl, ?_⟩
  have HS10 := Aside0.mk hs
  have LS10 := Aside0.mk (show (markB x.final).length ≤ 1 from Nat.le_of_eq (markB_len _))
  clear hs
  have n_v := Aside0.mk (blk_below BK_v.out hb)
  have n_m := Aside0.mk (blk_below BK_m.out hb)
  have n_HB := Aside0.mk (HB.out.trans (hb.mono HB.out.size))
  clear HB hb BK_v BK_m
  have BK_v := n_v
  have BK_m := n_m
  have HB := n_HB
  clear n_HB n_v n_m
  obtain ⟨hc11, hs⟩ := cat_pre ((((s1 ++ s2) ++ s4) ++ s6) ++ s8) s10 HS9.out HS10.out (by have := LS9.out; have := LS10.out; omega)
  (try simp only [ByteArray.size_append] at hc11)
  have HS11 := Aside0.mk hs
  have LS11 := Aside0.mk (show ((((((textB x.key) ++ (textB x.policy)) ++ (upB x.kind)) ++ (upB x.start)) ++ (upB x.rev)) ++ (markB x.final)).length ≤ 20056 from (by rw [List.length_append]; have := LS9.out; have := LS10.out; omega))
  clear hs
  refine hK.out _ _ ⟨((blk_cell BK_v.out 0).trans rfl), ((blk_cell BK_v.out 1).trans rfl), ((blk_cell BK_v.out 2).trans rfl), ((blk_cell BK_v.out 3).trans rfl), ((blk_cell BK_v.out 4).trans rfl), ((blk_cell BK_v.out 5).trans rfl)⟩ (fun hHeld => ?_)
  clear hK K
  refine norm_ (a' := ?_) ?_ ?_
  rotate_left
  · show Act.put _ (some 33) _ = _
    simp only [Act.put, List.setIfInBounds_toArray, List.set_cons_zero, List.set_cons_succ, i64_w, i32_w]
    rfl
  refine pure_ (i := 26) (N := some 34) (v := ?_) (a' := ?_) #[true, true, true, true, true, true, true, true, true, true, true, true, true, true, true, true, true, true, true, true, true, true, true, true, true, true, true, false] rfl rfl (any_of HT_.out (by kernel_rfl)) (fun _ _ _ h => nomatch h.1) (Or.inl ⟨by rfl, ?_⟩) ?_ ?_
  rotate_left
  · intro w'
    go_simp
    with_reducible rfl
  rotate_left
  · simp only [Act.put, List.setIfInBounds_toArray, List.set_cons_zero, List.set_cons_succ, i64_w, i32_w]
    rfl
  refine pure_ (i := 27) (N := some 4) (v := ?_) (a' := ?_) #[true, true, true, true, true, true, true, true, true, true, true, true, true, true, true, true, true, true, true, true, true, true, true, true, true, true, true, true] rfl rfl (any_of HT_.out (by kernel_rfl)) (fun _ _ _ h => nomatch h.1) (Or.inl ⟨by rfl, ?_⟩) ?_ ?_
  rotate_left
  · intro w'
    go_simp
    with_reducible rfl
  rotate_left
  · simp only [Act.put, List.setIfInBounds_toArray, List.set_cons_zero, List.set_cons_succ, i64_w, i32_w]
    rfl
  refine done_ (done_of HT_.out (by kernel_rfl)) ?_
  refine ⟨rfl, ?_⟩
  clear hHeld HT_ HW_
  clear hc11
  generalize (((((s1 ++ s2) ++ s4) ++ s6) ++ s8) ++ s10) = c11 at HS11 ⊢
  go_upto_region 3 with fail
  have n_v := Aside0.mk (blk_drew BK_v.out)
  have n_m := Aside0.mk (blk_drew BK_m.out)
  have n_HB := Aside0.mk (below_drew1 HB.out)
  clear HB BK_v BK_m
  have BK_v := n_v
  have BK_m := n_m
  have HB := n_HB
  clear n_HB n_v n_m
  refine wp_mono (Q := fun e a w => e = .normal ∧ _) ?_ (fun e a w h => h.2)
  refine start_ (n := 28) (S := fun w' => w'.cell? ⟨M, 0, none⟩ = some (.int .i64 x.rkind) ∧ w'.cell? ⟨M, 1, none⟩ = some (.int .i64 x.count) ∧ w'.cell? ⟨M, 2, none⟩ = some (.int .i64 x.sum) ∧ w'.cell? ⟨M, 3, none⟩ = some (.int .i64 x.min) ∧ w'.cell? ⟨M, 4, none⟩ = some (.int .i64 x.max)) (ds := []) #[false, false, false, false, false, false, false, false, false, false, false, false, false, false, false, false, false, false, false, false, false, false, false, false, false, false, false, false] (by kernel_rfl) rfl rfl ⟨((blk_cell BK_m.out 0).trans rfl), ((blk_cell BK_m.out 1).trans rfl), ((blk_cell BK_m.out 2).trans rfl), ((blk_cell BK_m.out 3).trans rfl), ((blk_cell BK_m.out 4).trans rfl)⟩ (fun hHeld => ?_)
  refine with_tabW r8.tab3 r8.bits3 (fun HT_ HW_ => ?_)
  refine pure_ (i := 0) (N := some 35) (v := ?_) (a' := ?_) #[true, false, false, false, false, false, false, false, false, false, false, false, false, false, false, false, false, false, false, false, false, false, false, false, false, false, false, false] rfl rfl (any_of HT_.out (by kernel_rfl)) (fun _ _ _ h => nomatch h.1) (Or.inl ⟨by rfl, ?_⟩) ?_ ?_
  rotate_left
  · intro w'
    go_simp
    with_reducible rfl
  rotate_left
  · simp only [Act.put, List.setIfInBounds_toArray, List.set_cons_zero, List.set_cons_succ, i64_w, i32_w]
    rfl
  refine pure_ (i := 1) (N := some 36) (v := ?_) (a' := ?_) #[true, true, false, false, false, false, false, false, false, false, false, false, false, false, false, false, false, false, false, false, false, false, false, false, false, false, false, false] rfl rfl (any_of HT_.out (by kernel_rfl)) (fun _ _ _ h => nomatch h.1) (Or.inl ⟨by rfl, ?_⟩) ?_ ?_
  rotate_left
  · intro w'
    go_simp
    with_reducible rfl
  rotate_left
  · simp only [Act.put, List.setIfInBounds_toArray, List.set_cons_zero, List.set_cons_succ, i64_w, i32_w]
    rfl
  refine pure_ (i := 5) (N := some 40) (v := ?_) (a' := ?_) #[true, true, false, false, false, true, false, false, false, false, false, false, false, false, false, false, false, false, false, false, false, false, false, false, false, false, false, false] rfl rfl (any_of HT_.out (by kernel_rfl)) (fun _ _ _ h => nomatch h.1) (Or.inl ⟨by rfl, ?_⟩) ?_ ?_
  rotate_left
  · intro w'
    go_simp
    with_reducible rfl
  rotate_left
  · simp only [Act.put, List.setIfInBounds_toArray, List.set_cons_zero, List.set_cons_succ, i64_w, i32_w]
    rfl
  refine pure_ (i := 9) (N := some 44) (v := ?_) (a' := ?_) #[true, true, false, false, false, true, false, false, false, true, false, false, false, false, false, false, false, false, false, false, false, false, false, false, false, false, false, false] rfl rfl (any_of HT_.out (by kernel_rfl)) (fun _ _ _ h => nomatch h.1) (Or.inl ⟨by rfl, ?_⟩) ?_ ?_
  rotate_left
  · intro w'
    go_simp
    with_reducible rfl
  rotate_left
  · simp only [Act.put, List.setIfInBounds_toArray, List.set_cons_zero, List.set_cons_succ, i64_w, i32_w]
    rfl
  refine pure_ (i := 14) (N := some 49) (v := ?_) (a' := ?_) #[true, true, false, false, false, true, false, false, false, true, false, false, false, false, true, false, false, false, false, false, false, false, false, false, false, false, false, false] rfl rfl (any_of HT_.out (by kernel_rfl)) (fun _ _ _ h => nomatch h.1) (Or.inl ⟨by rfl, ?_⟩) ?_ ?_
  rotate_left
  · intro w'
    go_simp
    with_reducible rfl
  rotate_left
  · simp only [Act.put, List.setIfInBounds_toArray, List.set_cons_zero, List.set_cons_succ, i64_w, i32_w]
    rfl
  refine pure_ (i := 19) (N := some 54) (v := ?_) (a' := ?_) #[true, true, false, false, false, true, false, false, false, true, false, false, false, false, true, false, false, false, false, true, false, false, false, false, false, false, false, false] rfl rfl (any_of HT_.out (by kernel_rfl)) (fun _ _ _ h => nomatch h.1) (Or.inl ⟨by rfl, ?_⟩) ?_ ?_
  rotate_left
  · intro w'
    go_simp
    with_reducible rfl
  rotate_left
  · simp only [Act.put, List.setIfInBounds_toArray, List.set_cons_zero, List.set_cons_succ, i64_w, i32_w]
    rfl
  refine pure_ (i := 23) (N := some 58) (v := ?_) (a' := ?_) #[true, true, false, false, false, true, false, false, false, true, false, false, false, false, true, false, false, false, false, true, false, false, false, true, false, false, false, false] rfl rfl (any_of HT_.out (by kernel_rfl)) (fun _ _ _ h => nomatch h.1) (Or.inl ⟨by rfl, ?_⟩) ?_ ?_
  rotate_left
  · intro w'
    go_simp
    with_reducible rfl
  rotate_left
  · simp only [Act.put, List.setIfInBounds_toArray, List.set_cons_zero, List.set_cons_succ, i64_w, i32_w]
    rfl
  refine take_ (i := 2) (N := some 37) (v := ?_) (a' := ?_) #[true, true, true, false, false, true, false, false, false, true, false, false, false, false, true, false, false, false, false, true, false, false, false, true, false, false, false, false] rfl rfl (take_ofW HT_.out HW_.out (by kernel_rfl)) (fun _ _ _ h => nomatch h.1) (Or.inl ⟨by rfl, ?_⟩) hHeld ?_ ?_
  rotate_left
  · rintro w' ⟨s0, s1, s2, s3, s4⟩
    go_simp
    with_reducible rfl
  rotate_left
  · simp only [Act.put, List.setIfInBounds_toArray, List.set_cons_zero, List.set_cons_succ, i64_w, i32_w]
    rfl
  refine take_ (i := 6) (N := some 41) (v := ?_) (a' := ?_) #[true, true, true, false, false, true, true, false, false, true, false, false, false, false, true, false, false, false, false, true, false, false, false, true, false, false, false, false] rfl rfl (take_ofW HT_.out HW_.out (by kernel_rfl)) (fun _ _ _ h => nomatch h.1) (Or.inl ⟨by rfl, ?_⟩) hHeld ?_ ?_
  rotate_left
  · rintro w' ⟨s0, s1, s2, s3, s4⟩
    go_simp
    with_reducible rfl
  rotate_left
  · simp only [Act.put, List.setIfInBounds_toArray, List.set_cons_zero, List.set_cons_succ, i64_w, i32_w]
    rfl
  refine take_ (i := 10) (N := some 45) (v := ?_) (a' := ?_) #[true, true, true, false, false, true, true, false, false, true, true, false, false, false, true, false, false, false, false, true, false, false, false, true, false, false, false, false] rfl rfl (take_ofW HT_.out HW_.out (by kernel_rfl)) (fun _ _ _ h => nomatch h.1) (Or.inl ⟨by rfl, ?_⟩) hHeld ?_ ?_
  rotate_left
  · rintro w' ⟨s0, s1, s2, s3, s4⟩
    go_simp
    with_reducible rfl
  rotate_left
  · simp only [Act.put, List.setIfInBounds_toArray, List.set_cons_zero, List.set_cons_succ, i64_w, i32_w]
    rfl
  refine pure_ (i := 11) (N := some 46) (v := ?_) (a' := ?_) #[true, true, true, false, false, true, true, false, false, true, true, true, false, false, true, false, false, false, false, true, false, false, false, true, false, false, false, false] rfl rfl (any_of HT_.out (by kernel_rfl)) (fun _ _ _ h => nomatch h.1) (Or.inl ⟨by rfl, ?_⟩) ?_ ?_
  rotate_left
  · intro w'
    go_simp
    with_reducible rfl
  rotate_left
  · simp only [Act.put, List.setIfInBounds_toArray, List.set_cons_zero, List.set_cons_succ, i64_w, i32_w]
    rfl
  refine take_ (i := 15) (N := some 50) (v := ?_) (a' := ?_) #[true, true, true, false, false, true, true, false, false, true, true, true, false, false, true, true, false, false, false, true, false, false, false, true, false, false, false, false] rfl rfl (take_ofW HT_.out HW_.out (by kernel_rfl)) (fun _ _ _ h => nomatch h.1) (Or.inl ⟨by rfl, ?_⟩) hHeld ?_ ?_
  rotate_left
  · rintro w' ⟨s0, s1, s2, s3, s4⟩
    go_simp
    with_reducible rfl
  rotate_left
  · simp only [Act.put, List.setIfInBounds_toArray, List.set_cons_zero, List.set_cons_succ, i64_w, i32_w]
    rfl
  refine pure_ (i := 16) (N := some 51) (v := ?_) (a' := ?_) #[true, true, true, false, false, true, true, false, false, true, true, true, false, false, true, true, true, false, false, true, false, false, false, true, false, false, false, false] rfl rfl (any_of HT_.out (by kernel_rfl)) (fun _ _ _ h => nomatch h.1) (Or.inl ⟨by rfl, ?_⟩) ?_ ?_
  rotate_left
  · intro w'
    go_simp
    with_reducible rfl
  rotate_left
  · simp only [Act.put, List.setIfInBounds_toArray, List.set_cons_zero, List.set_cons_succ, i64_w, i32_w]
    rfl
  refine take_ (i := 20) (N := some 55) (v := ?_) (a' := ?_) #[true, true, true, false, false, true, true, false, false, true, true, true, false, false, true, true, true, false, false, true, true, false, false, true, false, false, false, false] rfl rfl (take_ofW HT_.out HW_.out (by kernel_rfl)) (fun _ _ _ h => nomatch h.1) (Or.inl ⟨by rfl, ?_⟩) hHeld ?_ ?_
  rotate_left
  · rintro w' ⟨s0, s1, s2, s3, s4⟩
    go_simp
    with_reducible rfl
  rotate_left
  · simp only [Act.put, List.setIfInBounds_toArray, List.set_cons_zero, List.set_cons_succ, i64_w, i32_w]
    rfl
  refine take_ (i := 24) (N := some 59) (v := ?_) (a' := ?_) #[true, true, true, false, false, true, true, false, false, true, true, true, false, false, true, true, true, false, false, true, true, false, false, true, true, false, false, false] rfl rfl (take_ofW HT_.out HW_.out (by kernel_rfl)) (fun _ _ _ h => nomatch h.1) (Or.inl ⟨by rfl, ?_⟩) hHeld ?_ ?_
  rotate_left
  · rintro w' ⟨s0, s1, s2, s3, s4⟩
    go_simp
    with_reducible rfl
  rotate_left
  · simp only [Act.put, List.setIfInBounds_toArray, List.set_cons_zero, List.set_cons_succ, i64_w, i32_w]
    rfl
  refine one_ (i := 3) (N := some 38) #[true, true, true, true, false, true, true, false, false, true, true, true, false, false, true, true, true, false, false, true, true, false, false, true, true, false, false, false] rfl rfl (one_of HT_.out (by kernel_rfl)) (by decide) (fun K hK => ?_)
  refine goes_ Tryz.func23 (by kernel_rfl) rfl #[.int .i64 x.rkind] (by rfl) rfl rfl (by simp only [List.map_toArray, List.map_cons, List.map_nil]; rfl) ?_
  with_reducible refine (rUpG_calls x.rkind G.out.2.2.2.2.2.1 _).mono ?_
  rintro e W12 ⟨⟨s12, rfl, hs⟩, hb⟩
  refine ⟨_, rfl, ?_⟩
  have HS12 := Aside0.mk hs
  have LS12 := Aside0.mk (show (upB x.rkind).length ≤ 11 from upB_len' G.out.2.2.2.2.2.1)
  clear hs
  have n_v := Aside0.mk (blk_below BK_v.out hb)
  have n_m := Aside0.mk (blk_below BK_m.out hb)
  have n_HB := Aside0.mk (HB.out.trans (hb.mono HB.out.size))
  clear HB hb BK_v BK_m
  have BK_v := n_v
  have BK_m := n_m
  have HB := n_HB
  clear n_HB n_v n_m
  obtain ⟨hc13, hs⟩ := cat_pre c11 s12 HS11.out HS12.out (by have := LS11.out; have := LS12.out; omega)
  (try simp only [ByteArray.size_append] at hc13)
  have HS13 := Aside0.mk hs
  have LS13 := Aside0.mk (show (((((((textB x.key) ++ (textB x.policy)) ++ (upB x.kind)) ++ (upB x.start)) ++ (upB x.rev)) ++ (markB x.final)) ++ (upB x.rkind)).length ≤ 20067 from (by rw [List.length_append]; have := LS11.out; have := LS12.out; omega))
  clear hs
  refine hK.out _ _ ⟨((blk_cell BK_m.out 0).trans rfl), ((blk_cell BK_m.out 1).trans rfl), ((blk_cell BK_m.out 2).trans rfl), ((blk_cell BK_m.out 3).trans rfl), ((blk_cell BK_m.out 4).trans rfl)⟩ (fun hHeld => ?_)
  clear hK K
  refine norm_ (a' := ?_) ?_ ?_
  rotate_left
  · show Act.put _ (some 38) _ = _
    simp only [Act.put, List.setIfInBounds_toArray, List.set_cons_zero, List.set_cons_succ, i64_w, i32_w]
    rfl
  refine pure_ (i := 4) (N := some 39) (v := ?_) (a' := ?_) #[true, true, true, true, true, true, true, false, false, true, true, true, false, false, true, true, true, false, false, true, true, false, false, true, true, false, false, false] rfl rfl (any_of HT_.out (by kernel_rfl)) (fun _ _ _ h => nomatch h.1) (Or.inl ⟨by rfl, ?_⟩) ?_ ?_
  rotate_left
  · intro w'
    go_simp
    with_reducible rfl
  rotate_left
  · simp only [Act.put, List.setIfInBounds_toArray, List.set_cons_zero, List.set_cons_succ, i64_w, i32_w]
    rfl
  refine one_ (i := 7) (N := some 42) #[true, true, true, true, true, true, true, true, false, true, true, true, false, false, true, true, true, false, false, true, true, false, false, true, true, false, false, false] rfl rfl (one_of HT_.out (by kernel_rfl)) (by decide) (fun K hK => ?_)
  refine goes_ Tryz.func23 (by kernel_rfl) rfl #[.int .i64 x.count] (by rfl) rfl rfl (by simp only [List.map_toArray, List.map_cons, List.map_nil]; rfl) ?_
  with_reducible refine (rUpG_calls x.count G.out.2.2.2.2.2.2.1 _).mono ?_
  rintro e W14 ⟨⟨s14, rfl, hs⟩, hb⟩
  refine ⟨_, rfl, ?_⟩
  have HS14 := Aside0.mk hs
  have LS14 := Aside0.mk (show (upB x.count).length ≤ 11 from upB_len' G.out.2.2.2.2.2.2.1)
  clear hs
  have n_v := Aside0.mk (blk_below BK_v.out hb)
  have n_m := Aside0.mk (blk_below BK_m.out hb)
  have n_HB := Aside0.mk (HB.out.trans (hb.mono HB.out.size))
  clear HB hb BK_v BK_m
  have BK_v := n_v
  have BK_m := n_m
  have HB := n_HB
  clear n_HB n_v n_m
  obtain ⟨hc15, hs⟩ := cat_pre (c11 ++ s12) s14 HS13.out HS14.out (by have := LS13.out; have := LS14.out; omega)
  (try simp only [ByteArray.size_append] at hc15)
  have HS15 := Aside0.mk hs
  have LS15 := Aside0.mk (show ((((((((textB x.key) ++ (textB x.policy)) ++ (upB x.kind)) ++ (upB x.start)) ++ (upB x.rev)) ++ (markB x.final)) ++ (upB x.rkind)) ++ (upB x.count)).length ≤ 20078 from (by rw [List.length_append]; have := LS13.out; have := LS14.out; omega))
  clear hs
  refine hK.out _ _ ⟨((blk_cell BK_m.out 0).trans rfl), ((blk_cell BK_m.out 1).trans rfl), ((blk_cell BK_m.out 2).trans rfl), ((blk_cell BK_m.out 3).trans rfl), ((blk_cell BK_m.out 4).trans rfl)⟩ (fun hHeld => ?_)
  clear hK K
  refine norm_ (a' := ?_) ?_ ?_
  rotate_left
  · show Act.put _ (some 42) _ = _
    simp only [Act.put, List.setIfInBounds_toArray, List.set_cons_zero, List.set_cons_succ, i64_w, i32_w]
    rfl
  refine pure_ (i := 8) (N := some 43) (v := ?_) (a' := ?_) #[true, true, true, true, true, true, true, true, true, true, true, true, false, false, true, true, true, false, false, true, true, false, false, true, true, false, false, false] rfl rfl (any_of HT_.out (by kernel_rfl)) (fun _ _ _ h => nomatch h.1) (Or.inl ⟨by rfl, ?_⟩) ?_ ?_
  rotate_left
  · intro w'
    go_simp
    with_reducible rfl
  rotate_left
  · simp only [Act.put, List.setIfInBounds_toArray, List.set_cons_zero, List.set_cons_succ, i64_w, i32_w]
    rfl
  refine one_ (i := 12) (N := some 47) #[true, true, true, true, true, true, true, true, true, true, true, true, true, false, true, true, true, false, false, true, true, false, false, true, true, false, false, false] rfl rfl (one_of HT_.out (by kernel_rfl)) (by decide) (fun K hK => ?_)
  (try rw [hwq])
  refine goes_ Tryz.func25 (by kernel_rfl) rfl #[.int .i64 (x.sum.tdiv 1000000000000)] (by rfl) rfl rfl (by simp only [List.map_toArray, List.map_cons, List.map_nil]; rfl) ?_
  with_reducible refine (rIntG_calls (x.sum.tdiv 1000000000000) GS.out.1 _).mono ?_
  rintro e W16 ⟨⟨s16, rfl, hs⟩, hb⟩
  refine ⟨_, rfl, ?_⟩
  have HS16 := Aside0.mk hs
  have LS16 := Aside0.mk (show (intB (x.sum.tdiv 1000000000000)).length ≤ 11 from intB_len _)
  clear hs
  have n_v := Aside0.mk (blk_below BK_v.out hb)
  have n_m := Aside0.mk (blk_below BK_m.out hb)
  have n_HB := Aside0.mk (HB.out.trans (hb.mono HB.out.size))
  clear HB hb BK_v BK_m
  have BK_v := n_v
  have BK_m := n_m
  have HB := n_HB
  clear n_HB n_v n_m
  obtain ⟨hc17, hs⟩ := cat_pre ((c11 ++ s12) ++ s14) s16 HS15.out HS16.out (by have := LS15.out; have := LS16.out; omega)
  (try simp only [ByteArray.size_append] at hc17)
  have HS17 := Aside0.mk hs
  have LS17 := Aside0.mk (show (((((((((textB x.key) ++ (textB x.policy)) ++ (upB x.kind)) ++ (upB x.start)) ++ (upB x.rev)) ++ (markB x.final)) ++ (upB x.rkind)) ++ (upB x.count)) ++ (intB (x.sum.tdiv 1000000000000))).length ≤ 20089 from (by rw [List.length_append]; have := LS15.out; have := LS16.out; omega))
  clear hs
  refine hK.out _ _ ⟨((blk_cell BK_m.out 0).trans rfl), ((blk_cell BK_m.out 1).trans rfl), ((blk_cell BK_m.out 2).trans rfl), ((blk_cell BK_m.out 3).trans rfl), ((blk_cell BK_m.out 4).trans rfl)⟩ (fun hHeld => ?_)
  clear hK K
  refine norm_ (a' := ?_) ?_ ?_
  rotate_left
  · show Act.put _ (some 47) _ = _
    simp only [Act.put, List.setIfInBounds_toArray, List.set_cons_zero, List.set_cons_succ, i64_w, i32_w]
    rfl
  refine pure_ (i := 13) (N := some 48) (v := ?_) (a' := ?_) #[true, true, true, true, true, true, true, true, true, true, true, true, true, true, true, true, true, false, false, true, true, false, false, true, true, false, false, false] rfl rfl (any_of HT_.out (by kernel_rfl)) (fun _ _ _ h => nomatch h.1) (Or.inl ⟨by rfl, ?_⟩) ?_ ?_
  rotate_left
  · intro w'
    go_simp
    with_reducible rfl
  rotate_left
  · simp only [Act.put, List.setIfInBounds_toArray, List.set_cons_zero, List.set_cons_succ, i64_w, i32_w]
    rfl
  refine one_ (i := 17) (N := some 52) #[true, true, true, true, true, true, true, true, true, true, true, true, true, true, true, true, true, true, false, true, true, false, false, true, true, false, false, false] rfl rfl (one_of HT_.out (by kernel_rfl)) (by decide) (fun K hK => ?_)
  (try rw [hwr])
  refine goes_ Tryz.func25 (by kernel_rfl) rfl #[.int .i64 (x.sum.tmod 1000000000000)] (by rfl) rfl rfl (by simp only [List.map_toArray, List.map_cons, List.map_nil]; rfl) ?_
  with_reducible refine (rIntG_calls (x.sum.tmod 1000000000000) GS.out.2 _).mono ?_
  rintro e W18 ⟨⟨s18, rfl, hs⟩, hb⟩
  refine ⟨_, rfl, ?_⟩
  have HS18 := Aside0.mk hs
  have LS18 := Aside0.mk (show (intB (x.sum.tmod 1000000000000)).length ≤ 11 from intB_len _)
  clear hs
  have n_v := Aside0.mk (blk_below BK_v.out hb)
  have n_m := Aside0.mk (blk_below BK_m.out hb)
  have n_HB := Aside0.mk (HB.out.trans (hb.mono HB.out.size))
  clear HB hb BK_v BK_m
  have BK_v := n_v
  have BK_m := n_m
  have HB := n_HB
  clear n_HB n_v n_m
  obtain ⟨hc19, hs⟩ := cat_pre (((c11 ++ s12) ++ s14) ++ s16) s18 HS17.out HS18.out (by have := LS17.out; have := LS18.out; omega)
  (try simp only [ByteArray.size_append] at hc19)
  have HS19 := Aside0.mk hs
  have LS19 := Aside0.mk (show ((((((((((textB x.key) ++ (textB x.policy)) ++ (upB x.kind)) ++ (upB x.start)) ++ (upB x.rev)) ++ (markB x.final)) ++ (upB x.rkind)) ++ (upB x.count)) ++ (intB (x.sum.tdiv 1000000000000))) ++ (intB (x.sum.tmod 1000000000000))).length ≤ 20100 from (by rw [List.length_append]; have := LS17.out; have := LS18.out; omega))
  clear hs
  refine hK.out _ _ ⟨((blk_cell BK_m.out 0).trans rfl), ((blk_cell BK_m.out 1).trans rfl), ((blk_cell BK_m.out 2).trans rfl), ((blk_cell BK_m.out 3).trans rfl), ((blk_cell BK_m.out 4).trans rfl)⟩ (fun hHeld => ?_)
  clear hK K
  refine norm_ (a' := ?_) ?_ ?_
  rotate_left
  · show Act.put _ (some 52) _ = _
    simp only [Act.put, List.setIfInBounds_toArray, List.set_cons_zero, List.set_cons_succ, i64_w, i32_w]
    rfl
  refine pure_ (i := 18) (N := some 53) (v := ?_) (a' := ?_) #[true, true, true, true, true, true, true, true, true, true, true, true, true, true, true, true, true, true, true, true, true, false, false, true, true, false, false, false] rfl rfl (any_of HT_.out (by kernel_rfl)) (fun _ _ _ h => nomatch h.1) (Or.inl ⟨by rfl, ?_⟩) ?_ ?_
  rotate_left
  · intro w'
    go_simp
    with_reducible rfl
  rotate_left
  · simp only [Act.put, List.setIfInBounds_toArray, List.set_cons_zero, List.set_cons_succ, i64_w, i32_w]
    rfl
  refine one_ (i := 21) (N := some 56) #[true, true, true, true, true, true, true, true, true, true, true, true, true, true, true, true, true, true, true, true, true, true, false, true, true, false, false, false] rfl rfl (one_of HT_.out (by kernel_rfl)) (by decide) (fun K hK => ?_)
  refine goes_ Tryz.func25 (by kernel_rfl) rfl #[.int .i64 x.min] (by rfl) rfl rfl (by simp only [List.map_toArray, List.map_cons, List.map_nil]; rfl) ?_
  with_reducible refine (rIntG_calls x.min (gI64_of G.out.2.2.2.2.2.2.2.2.1) _).mono ?_
  rintro e W20 ⟨⟨s20, rfl, hs⟩, hb⟩
  refine ⟨_, rfl, ?_⟩
  have HS20 := Aside0.mk hs
  have LS20 := Aside0.mk (show (intB x.min).length ≤ 11 from intB_len _)
  clear hs
  have n_v := Aside0.mk (blk_below BK_v.out hb)
  have n_m := Aside0.mk (blk_below BK_m.out hb)
  have n_HB := Aside0.mk (HB.out.trans (hb.mono HB.out.size))
  clear HB hb BK_v BK_m
  have BK_v := n_v
  have BK_m := n_m
  have HB := n_HB
  clear n_HB n_v n_m
  obtain ⟨hc21, hs⟩ := cat_pre ((((c11 ++ s12) ++ s14) ++ s16) ++ s18) s20 HS19.out HS20.out (by have := LS19.out; have := LS20.out; omega)
  (try simp only [ByteArray.size_append] at hc21)
  have HS21 := Aside0.mk hs
  have LS21 := Aside0.mk (show (((((((((((textB x.key) ++ (textB x.policy)) ++ (upB x.kind)) ++ (upB x.start)) ++ (upB x.rev)) ++ (markB x.final)) ++ (upB x.rkind)) ++ (upB x.count)) ++ (intB (x.sum.tdiv 1000000000000))) ++ (intB (x.sum.tmod 1000000000000))) ++ (intB x.min)).length ≤ 20111 from (by rw [List.length_append]; have := LS19.out; have := LS20.out; omega))
  clear hs
  refine hK.out _ _ ⟨((blk_cell BK_m.out 0).trans rfl), ((blk_cell BK_m.out 1).trans rfl), ((blk_cell BK_m.out 2).trans rfl), ((blk_cell BK_m.out 3).trans rfl), ((blk_cell BK_m.out 4).trans rfl)⟩ (fun hHeld => ?_)
  clear hK K
  refine norm_ (a' := ?_) ?_ ?_
  rotate_left
  · show Act.put _ (some 56) _ = _
    simp only [Act.put, List.setIfInBounds_toArray, List.set_cons_zero, List.set_cons_succ, i64_w, i32_w]
    rfl
  refine pure_ (i := 22) (N := some 57) (v := ?_) (a' := ?_) #[true, true, true, true, true, true, true, true, true, true, true, true, true, true, true, true, true, true, true, true, true, true, true, true, true, false, false, false] rfl rfl (any_of HT_.out (by kernel_rfl)) (fun _ _ _ h => nomatch h.1) (Or.inl ⟨by rfl, ?_⟩) ?_ ?_
  rotate_left
  · intro w'
    go_simp
    with_reducible rfl
  rotate_left
  · simp only [Act.put, List.setIfInBounds_toArray, List.set_cons_zero, List.set_cons_succ, i64_w, i32_w]
    rfl
  refine one_ (i := 25) (N := some 60) #[true, true, true, true, true, true, true, true, true, true, true, true, true, true, true, true, true, true, true, true, true, true, true, true, true, true, false, false] rfl rfl (one_of HT_.out (by kernel_rfl)) (by decide) (fun K hK => ?_)
  refine goes_ Tryz.func25 (by kernel_rfl) rfl #[.int .i64 x.max] (by rfl) rfl rfl (by simp only [List.map_toArray, List.map_cons, List.map_nil]; rfl) ?_
  with_reducible refine (rIntG_calls x.max (gI64_of G.out.2.2.2.2.2.2.2.2.2.1) _).mono ?_
  rintro e W22 ⟨⟨s22, rfl, hs⟩, hb⟩
  refine ⟨_, rfl, ?_⟩
  have HS22 := Aside0.mk hs
  have LS22 := Aside0.mk (show (intB x.max).length ≤ 11 from intB_len _)
  clear hs
  have n_v := Aside0.mk (blk_below BK_v.out hb)
  have n_m := Aside0.mk (blk_below BK_m.out hb)
  have n_HB := Aside0.mk (HB.out.trans (hb.mono HB.out.size))
  clear HB hb BK_v BK_m
  have BK_v := n_v
  have BK_m := n_m
  have HB := n_HB
  clear n_HB n_v n_m
  obtain ⟨hc23, hs⟩ := cat_pre (((((c11 ++ s12) ++ s14) ++ s16) ++ s18) ++ s20) s22 HS21.out HS22.out (by have := LS21.out; have := LS22.out; omega)
  (try simp only [ByteArray.size_append] at hc23)
  have HS23 := Aside0.mk hs
  have LS23 := Aside0.mk (show ((((((((((((textB x.key) ++ (textB x.policy)) ++ (upB x.kind)) ++ (upB x.start)) ++ (upB x.rev)) ++ (markB x.final)) ++ (upB x.rkind)) ++ (upB x.count)) ++ (intB (x.sum.tdiv 1000000000000))) ++ (intB (x.sum.tmod 1000000000000))) ++ (intB x.min)) ++ (intB x.max)).length ≤ 20122 from (by rw [List.length_append]; have := LS21.out; have := LS22.out; omega))
  clear hs
  refine hK.out _ _ ⟨((blk_cell BK_m.out 0).trans rfl), ((blk_cell BK_m.out 1).trans rfl), ((blk_cell BK_m.out 2).trans rfl), ((blk_cell BK_m.out 3).trans rfl), ((blk_cell BK_m.out 4).trans rfl)⟩ (fun hHeld => ?_)
  clear hK K
  refine norm_ (a' := ?_) ?_ ?_
  rotate_left
  · show Act.put _ (some 60) _ = _
    simp only [Act.put, List.setIfInBounds_toArray, List.set_cons_zero, List.set_cons_succ, i64_w, i32_w]
    rfl
  refine pure_ (i := 26) (N := some 61) (v := ?_) (a' := ?_) #[true, true, true, true, true, true, true, true, true, true, true, true, true, true, true, true, true, true, true, true, true, true, true, true, true, true, true, false] rfl rfl (any_of HT_.out (by kernel_rfl)) (fun _ _ _ h => nomatch h.1) (Or.inl ⟨by rfl, ?_⟩) ?_ ?_
  rotate_left
  · intro w'
    go_simp
    with_reducible rfl
  rotate_left
  · simp only [Act.put, List.setIfInBounds_toArray, List.set_cons_zero, List.set_cons_succ, i64_w, i32_w]
    rfl
  refine pure_ (i := 27) (N := some 4) (v := ?_) (a' := ?_) #[true, true, true, true, true, true, true, true, true, true, true, true, true, true, true, true, true, true, true, true, true, true, true, true, true, true, true, true] rfl rfl (any_of HT_.out (by kernel_rfl)) (fun _ _ _ h => nomatch h.1) (Or.inl ⟨by rfl, ?_⟩) ?_ ?_
  rotate_left
  · intro w'
    go_simp
    with_reducible rfl
  rotate_left
  · simp only [Act.put, List.setIfInBounds_toArray, List.set_cons_zero, List.set_cons_succ, i64_w, i32_w]
    rfl
  refine done_ (done_of HT_.out (by kernel_rfl)) ?_
  refine ⟨rfl, ?_⟩
  clear hHeld HT_ HW_
  clear hc23
  generalize ((((((c11 ++ s12) ++ s14) ++ s16) ++ s18) ++ s20) ++ s22) = c23 at HS23 ⊢
  go_wp2_with fail
  obtain ⟨QL, hQ⟩ : ∃ QL, QL = [x.q0, x.q1, x.q2] := ⟨_, rfl⟩
  have hql : QL.length = 3 := by rw [hQ]; rfl
  have HQ := Aside0.mk hQ
  have GQ := Aside0.mk (show ∀ y ∈ QL, gI64 y by rw [hQ]; intro y hy; simp only [List.mem_cons, List.not_mem_nil, or_false] at hy; rcases hy with rfl | rfl | rfl; exact gI64_of G.out.2.2.2.2.2.2.2.2.2.2.1; exact gI64_of G.out.2.2.2.2.2.2.2.2.2.2.2.1; exact gI64_of G.out.2.2.2.2.2.2.2.2.2.2.2.2)
  have KQ := Aside0.mk (show ∀ (j : Nat) (h : j < QL.length), (#[.int .i64 x.rkind, .int .i64 x.count, .int .i64 x.sum, .int .i64 x.min, .int .i64 x.max, .int .i64 x.q0, .int .i64 x.q1, .int .i64 x.q2, .bool x.over] : Array Value)[5 + j]? = some (.int .i64 QL[j]) by subst hQ; intro j h; match j, h with | 0, _ => rfl | 1, _ => rfl | 2, _ => rfl)
  have HLQ := Aside0.mk (show (QL.flatMap intB).length = (intB x.q0).length + (intB x.q1).length + (intB x.q2).length by rw [hQ]; simp [Nat.add_assoc])
  clear hQ
  obtain ⟨P24, hP24⟩ : ∃ P, P = (((((((((((textB x.key) ++ (textB x.policy)) ++ (upB x.kind)) ++ (upB x.start)) ++ (upB x.rev)) ++ (markB x.final)) ++ (upB x.rkind)) ++ (upB x.count)) ++ (intB (x.sum.tdiv 1000000000000))) ++ (intB (x.sum.tmod 1000000000000))) ++ (intB x.min)) ++ (intB x.max) := ⟨_, rfl⟩
  have HP24 := Aside0.mk hP24
  rw [← hP24] at HS23
  clear hP24
  have HLT24 := Aside0.mk (show (P24 ++ QL.flatMap intB).length ≤ 100000000000 by rw [HP24.out]; have := HL.out; have := HLQ.out; simp only [List.length_append] at *; omega)
  go_loopw [4, 5, 62] (fun v4 v5 v62 wr => ∃ (j24 : Nat) (c : ByteArray), j24 ≤ QL.length ∧ v62 = .int .i64 j24 ∧ v4 = .string c ∧ bytesOf c = P24 ++ (QL.take j24).flatMap intB ∧ Below w.heap.size w wr ∧ wr.heap[w.heap.size]? = some (.cells #[.string x.key, .string x.policy, .int .i64 x.kind, .int .i64 x.start, .int .i64 x.rev, .bool x.final, .int .i64 x.rkind, .int .i64 x.count, .int .i64 x.sum, .int .i64 x.min, .int .i64 x.max, .int .i64 x.q0, .int .i64 x.q1, .int .i64 x.q2, .bool x.over] 30 (0, 0)) ∧ wr.heap[M]? = some (.cells #[.int .i64 x.rkind, .int .i64 x.count, .int .i64 x.sum, .int .i64 x.min, .int .i64 x.max, .int .i64 x.q0, .int .i64 x.q1, .int .i64 x.q2, .bool x.over] 28 (0, 0))) (fun v4 v5 v62 _ => QL.length - (intOf v62).toNat)
  case atStart => exact ⟨0, _, Nat.zero_le _, rfl, rfl, by rw [HS23.out]; simp, HB.out, BK_v.out, BK_m.out⟩
  case round =>
    clear HS23 HB BK_v BK_m
    obtain ⟨j24, c24, hj24, rfl, rfl, hs, hb, k_v, k_m⟩ := hrel
    have HS24 := Aside0.mk hs
    have HB := Aside0.mk hb
    have BK_v := Aside0.mk k_v
    have BK_m := Aside0.mk k_m
    clear hs hb k_v k_m
    by_cases hlt : j24 < QL.length
    · skip
      have hE := blk_cell BK_m.out (5 + j24)
      rw [KQ.out j24 hlt] at hE
      have HTK24 := Aside0.mk (show QL.take (j24 + 1) = QL.take j24 ++ [QL[j24]] from List.take_succ_eq_append_getElem hlt)
      have GY24 := Aside0.mk (GQ.out QL[j24] (List.getElem_mem hlt))
      generalize QL[j24] = y24_ at hE HTK24 GY24
      have hcl24 := hE
      clear hE
      have LS24 := Aside0.mk (loop_len intB QL P24 HTK24.out HLT24.out)
      have y0 : wr.cell? ⟨M, 5 + j24, none⟩ = some (.int .i64 y24_) := hcl24
      have hc := rIntG_calls y24_ GY24.out wr
      go_wp2_with (go_at_call 25; refine (show Calls _ _ _ _ _ from hc).mono ?_; rintro e W25 ⟨⟨s25, rfl, hs⟩, hb⟩; have HS25 := Aside0.mk hs; have LS25 := Aside0.mk (show (intB y24_).length ≤ 11 from intB_len _); clear hs; have n_v := Aside0.mk (blk_below BK_v.out hb); have n_m := Aside0.mk (blk_below BK_m.out hb); have n_HB := Aside0.mk (HB.out.trans (hb.mono HB.out.size)); clear HB hb BK_v BK_m; have BK_v := n_v; have BK_m := n_m; have HB := n_HB; clear n_HB n_v n_m; obtain ⟨hc26, hs⟩ := cat_pre c24 s25 HS24.out HS25.out (by have := LS24.out; have := LS25.out; omega); (try simp only [ByteArray.size_append] at hc26); have HS26 := Aside0.mk hs; have LS26 := Aside0.mk (show ((P24 ++ (QL.take j24).flatMap intB) ++ (intB y24_)).length ≤ 100000000011 from (by rw [List.length_append]; have := LS24.out; have := LS25.out; omega)); clear hs; clear hc)
      clear y0
      go_roundw
      case rel => exact ⟨j24 + 1, _, by omega, by simp, rfl, by rw [HS26.out, HTK24.out]; simp [listB, List.append_assoc], HB.out, BK_v.out, BK_m.out⟩
      case measure => simp [intOf]; omega
    · skip
      obtain rfl : j24 = QL.length := by omega
      clear hj24 hlt
      rw [List.take_length] at HS24
      have LS24 := HLT24
      rw [HP24.out] at HS24 LS24
      clear HP24 HLT24
      have y0 : wr.cell? ⟨M, 8, none⟩ = some (.bool x.over) := ((blk_cell BK_m.out 8).trans rfl)
      have hc := rMarkG_calls x.over trivial wr
      go_wp2_with (go_at_call 24; refine (show Calls _ _ _ _ _ from hc).mono ?_; rintro e W27 ⟨⟨s27, rfl, hs⟩, hb⟩; have HS27 := Aside0.mk hs; have LS27 := Aside0.mk (show (markB x.over).length ≤ 1 from Nat.le_of_eq (markB_len _)); clear hs; have n_v := Aside0.mk (blk_below BK_v.out hb); have n_m := Aside0.mk (blk_below BK_m.out hb); have n_HB := Aside0.mk (HB.out.trans (hb.mono HB.out.size)); clear HB hb BK_v BK_m; have BK_v := n_v; have BK_m := n_m; have HB := n_HB; clear n_HB n_v n_m; obtain ⟨hc28, hs⟩ := cat_pre c24 s27 HS24.out HS27.out (by have := LS24.out; have := LS27.out; omega); (try simp only [ByteArray.size_append] at hc28); have HS28 := Aside0.mk hs; have LS28 := Aside0.mk (show ((((((((((((((textB x.key) ++ (textB x.policy)) ++ (upB x.kind)) ++ (upB x.start)) ++ (upB x.rev)) ++ (markB x.final)) ++ (upB x.rkind)) ++ (upB x.count)) ++ (intB (x.sum.tdiv 1000000000000))) ++ (intB (x.sum.tmod 1000000000000))) ++ (intB x.min)) ++ (intB x.max)) ++ QL.flatMap intB) ++ (markB x.over)).length ≤ 100000000001 from (by rw [List.length_append]; have := LS24.out; have := LS27.out; omega)); clear hs; clear hc)
      clear y0
      go_wp2
      exact bodyPost_ret (v := .string (c24 ++ s27)) (by simp [results, Tryz.results8, go_sem]) rfl ⟨⟨_, rfl, by rw [HS28.out, HQ.out]; simp [bEmi, List.append_assoc]⟩, HB.out⟩
end Go.Proofs.YtpdppfihpnfblaaGreat.H
