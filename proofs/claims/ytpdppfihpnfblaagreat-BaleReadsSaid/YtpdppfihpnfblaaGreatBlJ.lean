/- The reference's text of a mill. Laid by wip/refs2_bl.py. -/
import Derived.Test.YtpdppfihpnfblaaGreatBlI
namespace Go.Proofs.YtpdppfihpnfblaaGreat.H
open Go.RowKit Go.Shelf Go.Proofs.YtpdppfihpnfblaaGreat.PA Go.Proofs.YtpdppfihpnfblaaGreatW.PrintWords Go.Proofs.YtpdppfihpnfblaaGreatW.PrintLast Go.Proofs.YtpdppfihpnfblaaGreatW.PrintMore
set_option linter.unusedVariables false
set_option linter.unusedSimpArgs false
theorem gList_up {α : Type} {G : α → Prop} {l : List α} (h : gList G l) : gUp (l.length : Int) := gUp_len h.1
theorem gList_mem {α : Type} {G : α → Prop} {l : List α} (h : gList G l) : ∀ y ∈ l, G y := h.2
/-- What the reference's mill holds of a state. -/
structure MillAt (w : World) (x : Sta) (CA : Array Value) (A1 : Option Addr) (c1 : Nat) (A2 : Option Addr) (c2 : Nat) (A3 : Option Addr) (c3 : Nat) (A4 : Option Addr) (c4 : Nat) : Prop where
  now : CA[4]? = some (.int .i64 x.now)
  low : CA[5]? = some (.int .i64 x.low)
  s1 : CA[6]? = some (.slice A1 x.sources.length c1)
  s2 : CA[7]? = some (.slice A2 x.seens.length c2)
  s3 : CA[8]? = some (.slice A3 x.cells.length c3)
  first : CA[9]? = some (.int .i64 x.first)
  s4 : CA[10]? = some (.slice A4 x.out.length c4)
  counts : ∀ (j : Nat) (h : j < x.counts.length), CA[11 + j]? = some (.int .i64 x.counts[j])
  g1 : Kd.C kSrc w A1 x.sources.length x.sources
  g2 : Kd.C kSen w A2 x.seens.length x.seens
  g3 : Kd.C kCel w A3 x.cells.length x.cells
  g4 : Kd.C kEmi w A4 x.out.length x.out
def r9.T1 : Bool × List (List Nat × List Nat) := (true, [([], []), ([0], [0]), ([1], [1]), ([2], [2]), ([], []), ([4], [4]), ([5], [5]), ([6, 3], [6]), ([3, 7], [3, 7]), ([], []), ([9], [9]), ([10], [10]), ([11], [11]), ([12, 7], [12]), ([8, 13], [8, 13]), ([14, 13, 0, 1, 2, 3, 4, 5, 6, 7, 8, 9, 10, 11, 12, 13, 14], [14])])
def r9.B1 : List Nat := [0, 1, 3, 7, 0, 16, 48, 127, 255, 0, 512, 1536, 3584, 7935, 16383, 32767]
theorem r9.tab1 : rtab .any (opsOf Tryz.f9 1) = r9.T1 := by kernel_rfl
theorem r9.bits1 : waitsOk r9.T1.2 r9.B1 = true := by kernel_rfl
def r9.T6 : Bool × List (List Nat × List Nat) := (true, [([], []), ([], []), ([1], [1]), ([2], [2]), ([0, 3], [0, 3]), ([], []), ([5], [5]), ([6, 3], [6]), ([4, 7], [4, 7]), ([], []), ([9], [9]), ([10, 7], [10]), ([8, 11], [8, 11]), ([12, 11, 0, 1, 2, 3, 4, 5, 6, 7, 8, 9, 10, 11, 12], [0, 12])])
def r9.B6 : List Nat := [0, 0, 2, 6, 15, 0, 32, 110, 255, 0, 512, 1774, 4095, 8191]
theorem r9.tab6 : rtab .any (opsOf Tryz.f9 6) = r9.T6 := by kernel_rfl
theorem r9.bits6 : waitsOk r9.T6.2 r9.B6 = true := by kernel_rfl
def r9.T13 : Bool × List (List Nat × List Nat) := (true, [([], []), ([], []), ([1], [1]), ([2], [2]), ([0, 3], [0, 3]), ([], []), ([5], [5]), ([6, 3], [6]), ([4, 7], [4, 7]), ([], []), ([9], [9]), ([10], [10]), ([11, 7], [11]), ([8, 12], [8, 12]), ([13, 12, 0, 1, 2, 3, 4, 5, 6, 7, 8, 9, 10, 11, 12, 13], [0, 13])])
def r9.B13 : List Nat := [0, 0, 2, 6, 15, 0, 32, 110, 255, 0, 512, 1536, 3822, 8191, 16383]
theorem r9.tab13 : rtab .any (opsOf Tryz.f9 13) = r9.T13 := by kernel_rfl
theorem r9.bits13 : waitsOk r9.T13.2 r9.B13 = true := by kernel_rfl
def r9.T25 : Bool × List (List Nat × List Nat) := (true, [([], []), ([], []), ([1], [1]), ([2], [2]), ([3], [3]), ([0, 4], [0, 4]), ([], []), ([6], [6]), ([7], [7]), ([8], [8]), ([9, 4], [9]), ([5, 10], [5, 10]), ([11, 10, 0, 1, 2, 3, 4, 5, 6, 7, 8, 9, 10, 11], [0, 11])])
def r9.B25 : List Nat := [0, 0, 2, 6, 14, 31, 0, 64, 192, 448, 990, 2047, 4095]
theorem r9.tab25 : rtab .any (opsOf Tryz.f9 25) = r9.T25 := by kernel_rfl
theorem r9.bits25 : waitsOk r9.T25.2 r9.B25 = true := by kernel_rfl
def r9.T29 : Bool × List (List Nat × List Nat) := (true, [([], []), ([], []), ([1], [1]), ([2], [2]), ([], []), ([3, 4], [3, 4]), ([5], [5]), ([6], [6]), ([7], [7]), ([0, 8], [0, 8]), ([], []), ([10], [10]), ([11], [11]), ([], []), ([12, 13], [12, 13]), ([14], [14]), ([15], [15]), ([16, 8], [16]), ([9, 17], [9, 17]), ([18, 17, 0, 1, 2, 3, 4, 5, 6, 7, 8, 9, 10, 11, 12, 13, 14, 15, 16, 17, 18], [0, 18])])
def r9.B29 : List Nat := [0, 0, 2, 6, 0, 30, 62, 126, 254, 511, 0, 1024, 3072, 0, 15360, 31744, 64512, 130558, 262143, 524287]
theorem r9.tab29 : rtab .any (opsOf Tryz.f9 29) = r9.T29 := by kernel_rfl
theorem r9.bits29 : waitsOk r9.T29.2 r9.B29 = true := by kernel_rfl
def r9.T31 : Bool × List (List Nat × List Nat) := (true, [([], []), ([], []), ([1], [1]), ([2], [2]), ([0, 3], [0, 3]), ([], []), ([5], [5]), ([6, 3], [6]), ([4, 7], [4, 7]), ([], []), ([9], [9]), ([10, 7], [10]), ([8, 11], [8, 11]), ([], []), ([13], [13]), ([14, 11], [14]), ([12, 15], [12, 15]), ([], []), ([17], [17]), ([18, 15], [18]), ([16, 19], [16, 19]), ([20, 19, 0, 1, 2, 3, 4, 5, 6, 7, 8, 9, 10, 11, 12, 13, 14, 15, 16, 17, 18, 19, 20], [0, 20])])
def r9.B31 : List Nat := [0, 0, 2, 6, 15, 0, 32, 110, 255, 0, 512, 1774, 4095, 0, 8192, 28398, 65535, 0, 131072, 454382, 1048575, 2097151]
theorem r9.tab31 : rtab .any (opsOf Tryz.f9 31) = r9.T31 := by kernel_rfl
theorem r9.bits31 : waitsOk r9.T31.2 r9.B31 = true := by kernel_rfl
def r9.T33 : Bool × List (List Nat × List Nat) := (true, [([], []), ([], []), ([1], [1]), ([2], [2]), ([0, 3], [0, 3]), ([], []), ([5], [5]), ([6], [6]), ([7, 3], [7]), ([4, 8], [4, 8]), ([9, 8, 0, 1, 2, 3, 4, 5, 6, 7, 8, 9], [0, 9])])
def r9.B33 : List Nat := [0, 0, 2, 6, 15, 0, 32, 96, 238, 511, 1023]
theorem r9.tab33 : rtab .any (opsOf Tryz.f9 33) = r9.T33 := by kernel_rfl
theorem r9.bits33 : waitsOk r9.T33.2 r9.B33 = true := by kernel_rfl
set_option maxRecDepth 100000 in
set_option maxHeartbeats 16000000 in
theorem rSta_calls (x : Sta) (hG : gSta x) (h24 : x.counts.length = 24) (CA : Array Value) {A1 : Option Addr} {c1 : Nat} {A2 : Option Addr} {c2 : Nat} {A3 : Option Addr} {c3 : Nat} {A4 : Option Addr} {c4 : Nat} (w : World) (hM : MillAt w x CA A1 c1 A2 c2 A3 c3 A4 c4) : Calls Tryz.prog 9 #[.agg CA] w (StrAns (bSta x) w) := by
  have HL0 := bSta_len x hG h24
  unfold gSta at hG
  have G := Aside0.mk hG
  simp only [bSta, listB, List.length_append] at HL0
  have HL := Aside0.mk HL0
  clear HL0
  have k4 := Aside0.mk hM.now
  have k5 := Aside0.mk hM.low
  have k6 := Aside0.mk hM.s1
  have k7 := Aside0.mk hM.s2
  have k8 := Aside0.mk hM.s3
  have k9 := Aside0.mk hM.first
  have k10 := Aside0.mk hM.s4
  have k11 := Aside0.mk hM.counts
  have C1 := Aside0.mk hM.g1
  have C2 := Aside0.mk hM.g2
  have C3 := Aside0.mk hM.g3
  have C4 := Aside0.mk hM.g4
  have hm1 := C1.out.2.1
  have hm2 := C2.out.2.1
  have hm3 := C3.out.2.1
  have hm4 := C4.out.2.1
  have H24 := Aside0.mk h24
  clear hM hG
  go_enter Tryz.func9, Tryz.ntmps9
  go_upto_region 1 with fail
  have HB := Aside0.mk ((Below.refl w.heap.size w).alloc (Nat.le_refl _) (.cells CA 61))
  have BK_v := Aside0.mk (blk_new w (.cells CA 61))
  generalize w.alloc (.cells CA 61) = W at HB BK_v ⊢
  have n_v := Aside0.mk (blk_drew BK_v.out)
  have n_HB := Aside0.mk (below_drew1 HB.out)
  clear HB BK_v
  have BK_v := n_v
  have HB := n_HB
  clear n_HB n_v
  refine wp_mono (Q := fun e a w => e = .normal ∧ _) ?_ (fun e a w h => h.2)
  refine start_ (n := 16) (S := fun w' => w'.cell? ⟨w.heap.size, 4, none⟩ = some (.int .i64 x.now) ∧ w'.cell? ⟨w.heap.size, 5, none⟩ = some (.int .i64 x.low) ∧ w'.cell? ⟨w.heap.size, 6, none⟩ = some (.slice A1 x.sources.length c1)) (ds := []) #[false, false, false, false, false, false, false, false, false, false, false, false, false, false, false, false] (by kernel_rfl) rfl rfl ⟨((blk_cell BK_v.out 4).trans k4.out), ((blk_cell BK_v.out 5).trans k5.out), ((blk_cell BK_v.out 6).trans k6.out)⟩ (fun hHeld => ?_)
  refine with_tabW r9.tab1 r9.bits1 (fun HT_ HW_ => ?_)
  refine pure_ (i := 0) (N := some 14) (v := ?_) (a' := ?_) #[true, false, false, false, false, false, false, false, false, false, false, false, false, false, false, false] rfl rfl (any_of HT_.out (by kernel_rfl)) (fun _ _ _ h => nomatch h.1) (Or.inl ⟨by rfl, ?_⟩) ?_ ?_
  rotate_left
  · intro w'
    go_simp
    with_reducible rfl
  rotate_left
  · simp only [Act.put, List.setIfInBounds_toArray, List.set_cons_zero, List.set_cons_succ, i64_w, i32_w]
    rfl
  refine pure_ (i := 1) (N := some 15) (v := ?_) (a' := ?_) #[true, true, false, false, false, false, false, false, false, false, false, false, false, false, false, false] rfl rfl (any_of HT_.out (by kernel_rfl)) (fun _ _ _ h => nomatch h.1) (Or.inl ⟨by rfl, ?_⟩) ?_ ?_
  rotate_left
  · intro w'
    go_simp
    with_reducible rfl
  rotate_left
  · simp only [Act.put, List.setIfInBounds_toArray, List.set_cons_zero, List.set_cons_succ, i64_w, i32_w]
    rfl
  refine pure_ (i := 4) (N := some 18) (v := ?_) (a' := ?_) #[true, true, false, false, true, false, false, false, false, false, false, false, false, false, false, false] rfl rfl (any_of HT_.out (by kernel_rfl)) (fun _ _ _ h => nomatch h.1) (Or.inl ⟨by rfl, ?_⟩) ?_ ?_
  rotate_left
  · intro w'
    go_simp
    with_reducible rfl
  rotate_left
  · simp only [Act.put, List.setIfInBounds_toArray, List.set_cons_zero, List.set_cons_succ, i64_w, i32_w]
    rfl
  refine pure_ (i := 5) (N := some 19) (v := ?_) (a' := ?_) #[true, true, false, false, true, true, false, false, false, false, false, false, false, false, false, false] rfl rfl (any_of HT_.out (by kernel_rfl)) (fun _ _ _ h => nomatch h.1) (Or.inl ⟨by rfl, ?_⟩) ?_ ?_
  rotate_left
  · intro w'
    go_simp
    with_reducible rfl
  rotate_left
  · simp only [Act.put, List.setIfInBounds_toArray, List.set_cons_zero, List.set_cons_succ, i64_w, i32_w]
    rfl
  refine pure_ (i := 9) (N := some 23) (v := ?_) (a' := ?_) #[true, true, false, false, true, true, false, false, false, true, false, false, false, false, false, false] rfl rfl (any_of HT_.out (by kernel_rfl)) (fun _ _ _ h => nomatch h.1) (Or.inl ⟨by rfl, ?_⟩) ?_ ?_
  rotate_left
  · intro w'
    go_simp
    with_reducible rfl
  rotate_left
  · simp only [Act.put, List.setIfInBounds_toArray, List.set_cons_zero, List.set_cons_succ, i64_w, i32_w]
    rfl
  refine pure_ (i := 10) (N := some 24) (v := ?_) (a' := ?_) #[true, true, false, false, true, true, false, false, false, true, true, false, false, false, false, false] rfl rfl (any_of HT_.out (by kernel_rfl)) (fun _ _ _ h => nomatch h.1) (Or.inl ⟨by rfl, ?_⟩) ?_ ?_
  rotate_left
  · intro w'
    go_simp
    with_reducible rfl
  rotate_left
  · simp only [Act.put, List.setIfInBounds_toArray, List.set_cons_zero, List.set_cons_succ, i64_w, i32_w]
    rfl
  refine take_ (i := 2) (N := some 16) (v := ?_) (a' := ?_) #[true, true, true, false, true, true, false, false, false, true, true, false, false, false, false, false] rfl rfl (take_ofW HT_.out HW_.out (by kernel_rfl)) (fun _ _ _ h => nomatch h.1) (Or.inl ⟨by rfl, ?_⟩) hHeld ?_ ?_
  rotate_left
  · rintro w' ⟨s0, s1, s2⟩
    go_simp
    with_reducible rfl
  rotate_left
  · simp only [Act.put, List.setIfInBounds_toArray, List.set_cons_zero, List.set_cons_succ, i64_w, i32_w]
    rfl
  refine take_ (i := 6) (N := some 20) (v := ?_) (a' := ?_) #[true, true, true, false, true, true, true, false, false, true, true, false, false, false, false, false] rfl rfl (take_ofW HT_.out HW_.out (by kernel_rfl)) (fun _ _ _ h => nomatch h.1) (Or.inl ⟨by rfl, ?_⟩) hHeld ?_ ?_
  rotate_left
  · rintro w' ⟨s0, s1, s2⟩
    go_simp
    with_reducible rfl
  rotate_left
  · simp only [Act.put, List.setIfInBounds_toArray, List.set_cons_zero, List.set_cons_succ, i64_w, i32_w]
    rfl
  refine take_ (i := 11) (N := some 25) (v := ?_) (a' := ?_) #[true, true, true, false, true, true, true, false, false, true, true, true, false, false, false, false] rfl rfl (take_ofW HT_.out HW_.out (by kernel_rfl)) (fun _ _ _ h => nomatch h.1) (Or.inl ⟨by rfl, ?_⟩) hHeld ?_ ?_
  rotate_left
  · rintro w' ⟨s0, s1, s2⟩
    go_simp
    with_reducible rfl
  rotate_left
  · simp only [Act.put, List.setIfInBounds_toArray, List.set_cons_zero, List.set_cons_succ, i64_w, i32_w]
    rfl
  refine pure_ (i := 12) (N := some 26) (v := ?_) (a' := ?_) #[true, true, true, false, true, true, true, false, false, true, true, true, true, false, false, false] rfl rfl (any_of HT_.out (by kernel_rfl)) (fun _ _ _ h => nomatch h.1) (Or.inl ⟨by rfl, ?_⟩) ?_ ?_
  rotate_left
  · intro w'
    go_simp
    with_reducible rfl
  rotate_left
  · simp only [Act.put, List.setIfInBounds_toArray, List.set_cons_zero, List.set_cons_succ, i64_w, i32_w]
    rfl
  refine one_ (i := 3) (N := some 17) #[true, true, true, true, true, true, true, false, false, true, true, true, true, false, false, false] rfl rfl (one_of HT_.out (by kernel_rfl)) (by decide) (fun K hK => ?_)
  refine goes_ Tryz.func23 (by kernel_rfl) rfl #[.int .i64 x.now] (by rfl) rfl rfl (by simp only [List.map_toArray, List.map_cons, List.map_nil]; rfl) ?_
  with_reducible refine (rUpG_calls x.now G.out.1 _).mono ?_
  rintro e W1 ⟨⟨s1, rfl, hs⟩, hb⟩
  refine ⟨_, rfl, ?_⟩
  have HS1 := Aside0.mk hs
  have LS1 := Aside0.mk (show (upB x.now).length ≤ 11 from upB_len' G.out.1)
  clear hs
  have n_v := Aside0.mk (blk_below BK_v.out hb)
  have n_HB := Aside0.mk (HB.out.trans (hb.mono HB.out.size))
  clear HB hb BK_v
  have BK_v := n_v
  have HB := n_HB
  clear n_HB n_v
  refine hK.out _ _ ⟨((blk_cell BK_v.out 4).trans k4.out), ((blk_cell BK_v.out 5).trans k5.out), ((blk_cell BK_v.out 6).trans k6.out)⟩ (fun hHeld => ?_)
  clear hK K
  refine norm_ (a' := ?_) ?_ ?_
  rotate_left
  · show Act.put _ (some 17) _ = _
    simp only [Act.put, List.setIfInBounds_toArray, List.set_cons_zero, List.set_cons_succ, i64_w, i32_w]
    rfl
  refine one_ (i := 7) (N := some 21) #[true, true, true, true, true, true, true, true, false, true, true, true, true, false, false, false] rfl rfl (one_of HT_.out (by kernel_rfl)) (by decide) (fun K hK => ?_)
  refine goes_ Tryz.func23 (by kernel_rfl) rfl #[.int .i64 x.low] (by rfl) rfl rfl (by simp only [List.map_toArray, List.map_cons, List.map_nil]; rfl) ?_
  with_reducible refine (rUpG_calls x.low G.out.2.1 _).mono ?_
  rintro e W2 ⟨⟨s2, rfl, hs⟩, hb⟩
  refine ⟨_, rfl, ?_⟩
  have HS2 := Aside0.mk hs
  have LS2 := Aside0.mk (show (upB x.low).length ≤ 11 from upB_len' G.out.2.1)
  clear hs
  have n_v := Aside0.mk (blk_below BK_v.out hb)
  have n_HB := Aside0.mk (HB.out.trans (hb.mono HB.out.size))
  clear HB hb BK_v
  have BK_v := n_v
  have HB := n_HB
  clear n_HB n_v
  obtain ⟨hc3, hs⟩ := cat_pre s1 s2 HS1.out HS2.out (by have := LS1.out; have := LS2.out; omega)
  (try simp only [ByteArray.size_append] at hc3)
  have HS3 := Aside0.mk hs
  have LS3 := Aside0.mk (show ((upB x.now) ++ (upB x.low)).length ≤ 22 from (by rw [List.length_append]; have := LS1.out; have := LS2.out; omega))
  clear hs
  refine hK.out _ _ ⟨((blk_cell BK_v.out 4).trans k4.out), ((blk_cell BK_v.out 5).trans k5.out), ((blk_cell BK_v.out 6).trans k6.out)⟩ (fun hHeld => ?_)
  clear hK K
  refine norm_ (a' := ?_) ?_ ?_
  rotate_left
  · show Act.put _ (some 21) _ = _
    simp only [Act.put, List.setIfInBounds_toArray, List.set_cons_zero, List.set_cons_succ, i64_w, i32_w]
    rfl
  refine pure_ (i := 8) (N := some 22) (v := ?_) (a' := ?_) #[true, true, true, true, true, true, true, true, true, true, true, true, true, false, false, false] rfl rfl (any_of HT_.out (by kernel_rfl)) (fun _ _ _ h => nomatch h.1) (Or.inl ⟨by rfl, ?_⟩) ?_ ?_
  rotate_left
  · intro w'
    go_simp
    with_reducible rfl
  rotate_left
  · simp only [Act.put, List.setIfInBounds_toArray, List.set_cons_zero, List.set_cons_succ, i64_w, i32_w]
    rfl
  refine one_ (i := 13) (N := some 27) #[true, true, true, true, true, true, true, true, true, true, true, true, true, true, false, false] rfl rfl (one_of HT_.out (by kernel_rfl)) (by decide) (fun K hK => ?_)
  refine goes_ Tryz.func23 (by kernel_rfl) rfl #[.int .i64 (x.sources.length : Int)] (by rfl) rfl rfl (by simp only [List.map_toArray, List.map_cons, List.map_nil]; rfl) ?_
  with_reducible refine (rUpG_calls (x.sources.length : Int) (gList_up G.out.2.2.1) _).mono ?_
  rintro e W4 ⟨⟨s4, rfl, hs⟩, hb⟩
  refine ⟨_, rfl, ?_⟩
  have HS4 := Aside0.mk hs
  have LS4 := Aside0.mk (show (upB (x.sources.length : Int)).length ≤ 11 from upB_len' (gList_up G.out.2.2.1))
  clear hs
  have n_v := Aside0.mk (blk_below BK_v.out hb)
  have n_HB := Aside0.mk (HB.out.trans (hb.mono HB.out.size))
  clear HB hb BK_v
  have BK_v := n_v
  have HB := n_HB
  clear n_HB n_v
  obtain ⟨hc5, hs⟩ := cat_pre (s1 ++ s2) s4 HS3.out HS4.out (by have := LS3.out; have := LS4.out; omega)
  (try simp only [ByteArray.size_append] at hc5)
  have HS5 := Aside0.mk hs
  have LS5 := Aside0.mk (show (((upB x.now) ++ (upB x.low)) ++ (upB (x.sources.length : Int))).length ≤ 33 from (by rw [List.length_append]; have := LS3.out; have := LS4.out; omega))
  clear hs
  refine hK.out _ _ ⟨((blk_cell BK_v.out 4).trans k4.out), ((blk_cell BK_v.out 5).trans k5.out), ((blk_cell BK_v.out 6).trans k6.out)⟩ (fun hHeld => ?_)
  clear hK K
  refine norm_ (a' := ?_) ?_ ?_
  rotate_left
  · show Act.put _ (some 27) _ = _
    simp only [Act.put, List.setIfInBounds_toArray, List.set_cons_zero, List.set_cons_succ, i64_w, i32_w]
    rfl
  refine pure_ (i := 14) (N := some 28) (v := ?_) (a' := ?_) #[true, true, true, true, true, true, true, true, true, true, true, true, true, true, true, false] rfl rfl (any_of HT_.out (by kernel_rfl)) (fun _ _ _ h => nomatch h.1) (Or.inl ⟨by rfl, ?_⟩) ?_ ?_
  rotate_left
  · intro w'
    go_simp
    with_reducible rfl
  rotate_left
  · simp only [Act.put, List.setIfInBounds_toArray, List.set_cons_zero, List.set_cons_succ, i64_w, i32_w]
    rfl
  refine pure_ (i := 15) (N := some 3) (v := ?_) (a' := ?_) #[true, true, true, true, true, true, true, true, true, true, true, true, true, true, true, true] rfl rfl (any_of HT_.out (by kernel_rfl)) (fun _ _ _ h => nomatch h.1) (Or.inl ⟨by rfl, ?_⟩) ?_ ?_
  rotate_left
  · intro w'
    go_simp
    with_reducible rfl
  rotate_left
  · simp only [Act.put, List.setIfInBounds_toArray, List.set_cons_zero, List.set_cons_succ, i64_w, i32_w]
    rfl
  refine done_ (done_of HT_.out (by kernel_rfl)) ?_
  refine ⟨rfl, ?_⟩
  clear hHeld HT_ HW_
  clear hc5
  generalize ((s1 ++ s2) ++ s4) = c5 at HS5 ⊢
  have y0 := (blk_cell BK_v.out 6).trans k6.out
  go_wp2_with fail
  clear y0
  obtain ⟨P6, hP6⟩ : ∃ P, P = ((upB x.now) ++ (upB x.low)) ++ (upB (x.sources.length : Int)) := ⟨_, rfl⟩
  have HP6 := Aside0.mk hP6
  rw [← hP6] at HS5
  clear hP6
  have HLT6 := Aside0.mk (show (P6 ++ x.sources.flatMap bSrc).length ≤ 100000000000 by rw [HP6.out]; have := HL.out; simp only [List.length_append] at *; omega)
  go_loopw [3, 4, 5, 33] (fun v3 v4 v5 v33 wr => ∃ (j6 : Nat) (c : ByteArray), j6 ≤ x.sources.length ∧ v33 = .int .i64 j6 ∧ v3 = .string c ∧ bytesOf c = P6 ++ (x.sources.take j6).flatMap bSrc ∧ Below w.heap.size w wr ∧ wr.heap[w.heap.size]? = some (.cells CA 61 (0, 0))) (fun v3 v4 v5 v33 _ => x.sources.length - (intOf v33).toNat)
  case atStart => exact ⟨0, _, Nat.zero_le _, rfl, rfl, by rw [HS5.out]; simp, HB.out, BK_v.out⟩
  case round =>
    clear HS5 HB BK_v
    obtain ⟨j6, c6, hj6, rfl, rfl, hs, hb, k_v⟩ := hrel
    have HS6 := Aside0.mk hs
    have HB := Aside0.mk hb
    have BK_v := Aside0.mk k_v
    clear hs hb k_v
    by_cases hlt : j6 < x.sources.length
    · skip
      have hE := Kd.C_get C1.out zSrc (j6 : Int) (by omega) (by omega)
      rw [Int.toNat_natCast, show x.sources.getD j6 zSrc = x.sources[j6] by rw [List.getD_eq_getElem?_getD, List.getElem?_eq_getElem hlt]; rfl] at hE
      have HTK6 := Aside0.mk (show x.sources.take (j6 + 1) = x.sources.take j6 ++ [x.sources[j6]] from List.take_succ_eq_append_getElem hlt)
      have gy := (gList_mem G.out.2.2.1) x.sources[j6] (List.getElem_mem hlt)
      generalize x.sources[j6] = y6_ at hE HTK6 gy
      have HLY6 := Aside0.mk (bSrc_len _ gy)
      unfold gSrc at gy
      have GY6 := Aside0.mk gy
      clear gy
      obtain ⟨ad6, cs, rfl, _, hK, hcell⟩ := hE
      have hcs := kSrc_open hK
      subst hcs
      clear hK
      have hw6_0 := Aside0.mk (show w.cell? (ad6.add (j6 * 3)) = some (.string y6_.name) from hcell 0 _ rfl)
      have hw6_1 := Aside0.mk (show w.cell? ⟨(ad6.add (j6 * 3)).block, (ad6.add (j6 * 3)).off + 1, none⟩ = some (.int .i64 y6_.time) by rw [← add_field _ _ 1 (by omega)]; exact hcell 1 _ rfl)
      have hw6_2 := Aside0.mk (show w.cell? ⟨(ad6.add (j6 * 3)).block, (ad6.add (j6 * 3)).off + 2, none⟩ = some (.int .i64 y6_.at_) by rw [← add_field _ _ 2 (by omega)]; exact hcell 2 _ rfl)
      clear hcell
      have LS6 := Aside0.mk (loop_len bSrc x.sources P6 HTK6.out HLT6.out)
      have yv : wr.cell? ⟨w.heap.size, 6, none⟩ = some (.slice (some ad6) x.sources.length c1) := (blk_cell BK_v.out 6).trans k6.out
      have y0 : wr.cell? (ad6.add (j6 * 3)) = some (.string y6_.name) := ((HB.out.cell (World.block_lt_of_cell? _ _ hw6_0.out)).trans hw6_0.out)
      have y1 : wr.cell? ⟨(ad6.add (j6 * 3)).block, (ad6.add (j6 * 3)).off + 1, none⟩ = some (.int .i64 y6_.time) := ((HB.out.cell (World.block_lt_of_cell? _ _ hw6_1.out)).trans hw6_1.out)
      have y2 : wr.cell? ⟨(ad6.add (j6 * 3)).block, (ad6.add (j6 * 3)).off + 2, none⟩ = some (.int .i64 y6_.at_) := ((HB.out.cell (World.block_lt_of_cell? _ _ hw6_2.out)).trans hw6_2.out)
      go_upto_region 6 with fail
      clear yv y0 y1 y2
      have hm := (Below.refl wr.heap.size wr).alloc (Nat.le_refl _) (.cells #[.string y6_.name, .int .i64 y6_.time, .int .i64 y6_.at_] 85)
      have n_v := Aside0.mk (blk_below BK_v.out hm)
      have n_HB := Aside0.mk (HB.out.trans (hm.mono HB.out.size))
      clear HB BK_v hm
      have HB := n_HB
      have BK_v := n_v
      clear n_HB n_v
      have BK_e := Aside0.mk (blk_new wr (.cells #[.string y6_.name, .int .i64 y6_.time, .int .i64 y6_.at_] 85))
      generalize wr.alloc (.cells #[.string y6_.name, .int .i64 y6_.time, .int .i64 y6_.at_] 85) = V6 at HB BK_v BK_e ⊢
      generalize wr.heap.size = M6 at BK_e ⊢
      have n_v := Aside0.mk (blk_drew BK_v.out)
      have n_e := Aside0.mk (blk_drew BK_e.out)
      have n_HB := Aside0.mk (below_drew1 HB.out)
      clear HB BK_v BK_e
      have BK_v := n_v
      have BK_e := n_e
      have HB := n_HB
      clear n_HB n_v n_e
      refine wp_mono (Q := fun e a w => e = .normal ∧ _) ?_ (fun e a w h => h.2)
      refine start_ (n := 14) (S := fun w' => w'.cell? ⟨M6, 0, none⟩ = some (.string y6_.name) ∧ w'.cell? ⟨M6, 1, none⟩ = some (.int .i64 y6_.time) ∧ w'.cell? ⟨M6, 2, none⟩ = some (.int .i64 y6_.at_)) (ds := []) #[false, false, false, false, false, false, false, false, false, false, false, false, false, false] (by kernel_rfl) rfl rfl ⟨((blk_cell BK_e.out 0).trans rfl), ((blk_cell BK_e.out 1).trans rfl), ((blk_cell BK_e.out 2).trans rfl)⟩ (fun hHeld => ?_)
      refine with_tabW r9.tab6 r9.bits6 (fun HT_ HW_ => ?_)
      refine pure_ (i := 0) (N := some 42) (v := ?_) (a' := ?_) #[true, false, false, false, false, false, false, false, false, false, false, false, false, false] rfl rfl (any_of HT_.out (by kernel_rfl)) (fun _ _ _ h => nomatch h.1) (Or.inl ⟨by rfl, ?_⟩) ?_ ?_
      rotate_left
      · intro w'
        go_simp
        with_reducible rfl
      rotate_left
      · simp only [Act.put, List.setIfInBounds_toArray, List.set_cons_zero, List.set_cons_succ, i64_w, i32_w]
        rfl
      refine pure_ (i := 1) (N := some 43) (v := ?_) (a' := ?_) #[true, true, false, false, false, false, false, false, false, false, false, false, false, false] rfl rfl (any_of HT_.out (by kernel_rfl)) (fun _ _ _ h => nomatch h.1) (Or.inl ⟨by rfl, ?_⟩) ?_ ?_
      rotate_left
      · intro w'
        go_simp
        with_reducible rfl
      rotate_left
      · simp only [Act.put, List.setIfInBounds_toArray, List.set_cons_zero, List.set_cons_succ, i64_w, i32_w]
        rfl
      refine pure_ (i := 5) (N := some 47) (v := ?_) (a' := ?_) #[true, true, false, false, false, true, false, false, false, false, false, false, false, false] rfl rfl (any_of HT_.out (by kernel_rfl)) (fun _ _ _ h => nomatch h.1) (Or.inl ⟨by rfl, ?_⟩) ?_ ?_
      rotate_left
      · intro w'
        go_simp
        with_reducible rfl
      rotate_left
      · simp only [Act.put, List.setIfInBounds_toArray, List.set_cons_zero, List.set_cons_succ, i64_w, i32_w]
        rfl
      refine pure_ (i := 9) (N := some 51) (v := ?_) (a' := ?_) #[true, true, false, false, false, true, false, false, false, true, false, false, false, false] rfl rfl (any_of HT_.out (by kernel_rfl)) (fun _ _ _ h => nomatch h.1) (Or.inl ⟨by rfl, ?_⟩) ?_ ?_
      rotate_left
      · intro w'
        go_simp
        with_reducible rfl
      rotate_left
      · simp only [Act.put, List.setIfInBounds_toArray, List.set_cons_zero, List.set_cons_succ, i64_w, i32_w]
        rfl
      refine take_ (i := 2) (N := some 44) (v := ?_) (a' := ?_) #[true, true, true, false, false, true, false, false, false, true, false, false, false, false] rfl rfl (take_ofW HT_.out HW_.out (by kernel_rfl)) (fun _ _ _ h => nomatch h.1) (Or.inl ⟨by rfl, ?_⟩) hHeld ?_ ?_
      rotate_left
      · rintro w' ⟨s0, s1, s2⟩
        go_simp
        with_reducible rfl
      rotate_left
      · simp only [Act.put, List.setIfInBounds_toArray, List.set_cons_zero, List.set_cons_succ, i64_w, i32_w]
        rfl
      refine take_ (i := 6) (N := some 48) (v := ?_) (a' := ?_) #[true, true, true, false, false, true, true, false, false, true, false, false, false, false] rfl rfl (take_ofW HT_.out HW_.out (by kernel_rfl)) (fun _ _ _ h => nomatch h.1) (Or.inl ⟨by rfl, ?_⟩) hHeld ?_ ?_
      rotate_left
      · rintro w' ⟨s0, s1, s2⟩
        go_simp
        with_reducible rfl
      rotate_left
      · simp only [Act.put, List.setIfInBounds_toArray, List.set_cons_zero, List.set_cons_succ, i64_w, i32_w]
        rfl
      refine take_ (i := 10) (N := some 52) (v := ?_) (a' := ?_) #[true, true, true, false, false, true, true, false, false, true, true, false, false, false] rfl rfl (take_ofW HT_.out HW_.out (by kernel_rfl)) (fun _ _ _ h => nomatch h.1) (Or.inl ⟨by rfl, ?_⟩) hHeld ?_ ?_
      rotate_left
      · rintro w' ⟨s0, s1, s2⟩
        go_simp
        with_reducible rfl
      rotate_left
      · simp only [Act.put, List.setIfInBounds_toArray, List.set_cons_zero, List.set_cons_succ, i64_w, i32_w]
        rfl
      refine one_ (i := 3) (N := some 45) #[true, true, true, true, false, true, true, false, false, true, true, false, false, false] rfl rfl (one_of HT_.out (by kernel_rfl)) (by decide) (fun K hK => ?_)
      refine goes_ Tryz.func22 (by kernel_rfl) rfl #[.string y6_.name] (by rfl) rfl rfl (by simp only [List.map_toArray, List.map_cons, List.map_nil]; rfl) ?_
      with_reducible refine (rTextG_calls y6_.name GY6.out.1 _).mono ?_
      rintro e W7 ⟨⟨s7, rfl, hs⟩, hb⟩
      refine ⟨_, rfl, ?_⟩
      have HS7 := Aside0.mk hs
      have LS7 := Aside0.mk (show (textB y6_.name).length ≤ 10011 from textB_len GY6.out.1)
      clear hs
      have n_v := Aside0.mk (blk_below BK_v.out hb)
      have n_e := Aside0.mk (blk_below BK_e.out hb)
      have n_HB := Aside0.mk (HB.out.trans (hb.mono HB.out.size))
      clear HB hb BK_v BK_e
      have BK_v := n_v
      have BK_e := n_e
      have HB := n_HB
      clear n_HB n_v n_e
      obtain ⟨hc8, hs⟩ := cat_pre c6 s7 HS6.out HS7.out (by have := LS6.out; have := LS7.out; omega)
      (try simp only [ByteArray.size_append] at hc8)
      have HS8 := Aside0.mk hs
      have LS8 := Aside0.mk (show ((P6 ++ (x.sources.take j6).flatMap bSrc) ++ (textB y6_.name)).length ≤ 100000010011 from (by rw [List.length_append]; have := LS6.out; have := LS7.out; omega))
      clear hs
      refine hK.out _ _ ⟨((blk_cell BK_e.out 0).trans rfl), ((blk_cell BK_e.out 1).trans rfl), ((blk_cell BK_e.out 2).trans rfl)⟩ (fun hHeld => ?_)
      clear hK K
      refine norm_ (a' := ?_) ?_ ?_
      rotate_left
      · show Act.put _ (some 45) _ = _
        simp only [Act.put, List.setIfInBounds_toArray, List.set_cons_zero, List.set_cons_succ, i64_w, i32_w]
        rfl
      refine pure_ (i := 4) (N := some 46) (v := ?_) (a' := ?_) #[true, true, true, true, true, true, true, false, false, true, true, false, false, false] rfl rfl (any_of HT_.out (by kernel_rfl)) (fun _ _ _ h => nomatch h.1) (Or.inl ⟨by rfl, ?_⟩) ?_ ?_
      rotate_left
      · intro w'
        go_simp
        with_reducible rfl
      rotate_left
      · simp only [Act.put, List.setIfInBounds_toArray, List.set_cons_zero, List.set_cons_succ, i64_w, i32_w]
        rfl
      refine one_ (i := 7) (N := some 49) #[true, true, true, true, true, true, true, true, false, true, true, false, false, false] rfl rfl (one_of HT_.out (by kernel_rfl)) (by decide) (fun K hK => ?_)
      refine goes_ Tryz.func23 (by kernel_rfl) rfl #[.int .i64 y6_.time] (by rfl) rfl rfl (by simp only [List.map_toArray, List.map_cons, List.map_nil]; rfl) ?_
      with_reducible refine (rUpG_calls y6_.time GY6.out.2.1 _).mono ?_
      rintro e W9 ⟨⟨s9, rfl, hs⟩, hb⟩
      refine ⟨_, rfl, ?_⟩
      have HS9 := Aside0.mk hs
      have LS9 := Aside0.mk (show (upB y6_.time).length ≤ 11 from upB_len' GY6.out.2.1)
      clear hs
      have n_v := Aside0.mk (blk_below BK_v.out hb)
      have n_e := Aside0.mk (blk_below BK_e.out hb)
      have n_HB := Aside0.mk (HB.out.trans (hb.mono HB.out.size))
      clear HB hb BK_v BK_e
      have BK_v := n_v
      have BK_e := n_e
      have HB := n_HB
      clear n_HB n_v n_e
      obtain ⟨hc10, hs⟩ := cat_pre (c6 ++ s7) s9 HS8.out HS9.out (by have := LS8.out; have := LS9.out; omega)
      (try simp only [ByteArray.size_append] at hc10)
      have HS10 := Aside0.mk hs
      have LS10 := Aside0.mk (show (((P6 ++ (x.sources.take j6).flatMap bSrc) ++ (textB y6_.name)) ++ (upB y6_.time)).length ≤ 100000010022 from (by rw [List.length_append]; have := LS8.out; have := LS9.out; omega))
      clear hs
      refine hK.out _ _ ⟨((blk_cell BK_e.out 0).trans rfl), ((blk_cell BK_e.out 1).trans rfl), ((blk_cell BK_e.out 2).trans rfl)⟩ (fun hHeld => ?_)
      clear hK K
      refine norm_ (a' := ?_) ?_ ?_
      rotate_left
      · show Act.put _ (some 49) _ = _
        simp only [Act.put, List.setIfInBounds_toArray, List.set_cons_zero, List.set_cons_succ, i64_w, i32_w]
        rfl
      refine pure_ (i := 8) (N := some 50) (v := ?_) (a' := ?_) #[true, true, true, true, true, true, true, true, true, true, true, false, false, false] rfl rfl (any_of HT_.out (by kernel_rfl)) (fun _ _ _ h => nomatch h.1) (Or.inl ⟨by rfl, ?_⟩) ?_ ?_
      rotate_left
      · intro w'
        go_simp
        with_reducible rfl
      rotate_left
      · simp only [Act.put, List.setIfInBounds_toArray, List.set_cons_zero, List.set_cons_succ, i64_w, i32_w]
        rfl
      refine one_ (i := 11) (N := some 53) #[true, true, true, true, true, true, true, true, true, true, true, true, false, false] rfl rfl (one_of HT_.out (by kernel_rfl)) (by decide) (fun K hK => ?_)
      refine goes_ Tryz.func23 (by kernel_rfl) rfl #[.int .i64 y6_.at_] (by rfl) rfl rfl (by simp only [List.map_toArray, List.map_cons, List.map_nil]; rfl) ?_
      with_reducible refine (rUpG_calls y6_.at_ GY6.out.2.2 _).mono ?_
      rintro e W11 ⟨⟨s11, rfl, hs⟩, hb⟩
      refine ⟨_, rfl, ?_⟩
      have HS11 := Aside0.mk hs
      have LS11 := Aside0.mk (show (upB y6_.at_).length ≤ 11 from upB_len' GY6.out.2.2)
      clear hs
      have n_v := Aside0.mk (blk_below BK_v.out hb)
      have n_e := Aside0.mk (blk_below BK_e.out hb)
      have n_HB := Aside0.mk (HB.out.trans (hb.mono HB.out.size))
      clear HB hb BK_v BK_e
      have BK_v := n_v
      have BK_e := n_e
      have HB := n_HB
      clear n_HB n_v n_e
      obtain ⟨hc12, hs⟩ := cat_pre ((c6 ++ s7) ++ s9) s11 HS10.out HS11.out (by have := LS10.out; have := LS11.out; omega)
      (try simp only [ByteArray.size_append] at hc12)
      have HS12 := Aside0.mk hs
      have LS12 := Aside0.mk (show ((((P6 ++ (x.sources.take j6).flatMap bSrc) ++ (textB y6_.name)) ++ (upB y6_.time)) ++ (upB y6_.at_)).length ≤ 100000010033 from (by rw [List.length_append]; have := LS10.out; have := LS11.out; omega))
      clear hs
      refine hK.out _ _ ⟨((blk_cell BK_e.out 0).trans rfl), ((blk_cell BK_e.out 1).trans rfl), ((blk_cell BK_e.out 2).trans rfl)⟩ (fun hHeld => ?_)
      clear hK K
      refine norm_ (a' := ?_) ?_ ?_
      rotate_left
      · show Act.put _ (some 53) _ = _
        simp only [Act.put, List.setIfInBounds_toArray, List.set_cons_zero, List.set_cons_succ, i64_w, i32_w]
        rfl
      refine pure_ (i := 12) (N := some 54) (v := ?_) (a' := ?_) #[true, true, true, true, true, true, true, true, true, true, true, true, true, false] rfl rfl (any_of HT_.out (by kernel_rfl)) (fun _ _ _ h => nomatch h.1) (Or.inl ⟨by rfl, ?_⟩) ?_ ?_
      rotate_left
      · intro w'
        go_simp
        with_reducible rfl
      rotate_left
      · simp only [Act.put, List.setIfInBounds_toArray, List.set_cons_zero, List.set_cons_succ, i64_w, i32_w]
        rfl
      refine pure_ (i := 13) (N := some 3) (v := ?_) (a' := ?_) #[true, true, true, true, true, true, true, true, true, true, true, true, true, true] rfl rfl (any_of HT_.out (by kernel_rfl)) (fun _ _ _ h => nomatch h.1) (Or.inl ⟨by rfl, ?_⟩) ?_ ?_
      rotate_left
      · intro w'
        go_simp
        with_reducible rfl
      rotate_left
      · simp only [Act.put, List.setIfInBounds_toArray, List.set_cons_zero, List.set_cons_succ, i64_w, i32_w]
        rfl
      refine done_ (done_of HT_.out (by kernel_rfl)) ?_
      refine ⟨rfl, ?_⟩
      clear hHeld HT_ HW_
      clear hc12
      generalize (((c6 ++ s7) ++ s9) ++ s11) = c12 at HS12 ⊢
      go_wp2
      go_roundw
      case rel => exact ⟨j6 + 1, _, by omega, by simp, rfl, by rw [HS12.out, HTK6.out]; simp [listB, bSrc, bSen, bCel, bLab, bEmi, List.append_assoc], HB.out, BK_v.out⟩
      case measure => simp [intOf]; omega
    · skip
      obtain rfl : j6 = x.sources.length := by omega
      clear hj6 hlt
      rw [List.take_length] at HS6
      have LS6 := HLT6
      rw [HP6.out] at HS6 LS6
      clear HP6 HLT6
      have y0 : wr.cell? ⟨w.heap.size, 7, none⟩ = some (.slice A2 x.seens.length c2) := ((blk_cell BK_v.out 7).trans k7.out)
      have hc := rUpG_calls (x.seens.length : Int) (gList_up G.out.2.2.2.1) wr
      go_upto_region 9 with (go_at_call 23; refine (show Calls _ _ _ _ _ from hc).mono ?_; rintro e W13 ⟨⟨s13, rfl, hs⟩, hb⟩; have HS13 := Aside0.mk hs; have LS13 := Aside0.mk (show (upB (x.seens.length : Int)).length ≤ 11 from upB_len' (gList_up G.out.2.2.2.1)); clear hs; have n_v := Aside0.mk (blk_below BK_v.out hb); have n_HB := Aside0.mk (HB.out.trans (hb.mono HB.out.size)); clear HB hb BK_v; have BK_v := n_v; have HB := n_HB; clear n_HB n_v; obtain ⟨hc14, hs⟩ := cat_pre c6 s13 HS6.out HS13.out (by have := LS6.out; have := LS13.out; omega); (try simp only [ByteArray.size_append] at hc14); have HS14 := Aside0.mk hs; have LS14 := Aside0.mk (show (((((upB x.now) ++ (upB x.low)) ++ (upB (x.sources.length : Int))) ++ x.sources.flatMap bSrc) ++ (upB (x.seens.length : Int))).length ≤ 100000000011 from (by rw [List.length_append]; have := LS6.out; have := LS13.out; omega)); clear hs; clear hc)
      clear y0
      clear hc14
      generalize (c6 ++ s13) = c14 at HS14 ⊢
      have y0 := (blk_cell BK_v.out 7).trans k7.out
      go_wp2_with fail
      clear y0
      obtain ⟨P15, hP15⟩ : ∃ P, P = ((((upB x.now) ++ (upB x.low)) ++ (upB (x.sources.length : Int))) ++ x.sources.flatMap bSrc) ++ (upB (x.seens.length : Int)) := ⟨_, rfl⟩
      have HP15 := Aside0.mk hP15
      rw [← hP15] at HS14
      clear hP15
      have HLT15 := Aside0.mk (show (P15 ++ x.seens.flatMap bSen).length ≤ 100000000000 by rw [HP15.out]; have := HL.out; simp only [List.length_append] at *; omega)
      go_loopw [3, 6, 7, 65] (fun v3 v6 v7 v65 wr => ∃ (j15 : Nat) (c : ByteArray), j15 ≤ x.seens.length ∧ v65 = .int .i64 j15 ∧ v3 = .string c ∧ bytesOf c = P15 ++ (x.seens.take j15).flatMap bSen ∧ Below w.heap.size w wr ∧ wr.heap[w.heap.size]? = some (.cells CA 61 (0, 0))) (fun v3 v6 v7 v65 _ => x.seens.length - (intOf v65).toNat)
      case atStart => exact ⟨0, _, Nat.zero_le _, rfl, rfl, by rw [HS14.out]; simp, HB.out, BK_v.out⟩
      case round =>
        clear HS14 HB BK_v
        obtain ⟨j15, c15, hj15, rfl, rfl, hs, hb, k_v⟩ := hrel
        have HS15 := Aside0.mk hs
        have HB := Aside0.mk hb
        have BK_v := Aside0.mk k_v
        clear hs hb k_v
        by_cases hlt : j15 < x.seens.length
        · skip
          have hE := Kd.C_get C2.out zSen (j15 : Int) (by omega) (by omega)
          rw [Int.toNat_natCast, show x.seens.getD j15 zSen = x.seens[j15] by rw [List.getD_eq_getElem?_getD, List.getElem?_eq_getElem hlt]; rfl] at hE
          have HTK15 := Aside0.mk (show x.seens.take (j15 + 1) = x.seens.take j15 ++ [x.seens[j15]] from List.take_succ_eq_append_getElem hlt)
          have gy := (gList_mem G.out.2.2.2.1) x.seens[j15] (List.getElem_mem hlt)
          generalize x.seens[j15] = y15_ at hE HTK15 gy
          have HLY15 := Aside0.mk (bSen_len _ gy)
          unfold gSen at gy
          have GY15 := Aside0.mk gy
          clear gy
          obtain ⟨ad15, cs, rfl, _, hK, hcell⟩ := hE
          obtain ⟨As15, cs15, hcs, _, g_seqs⟩ := kSen_open hK
          subst hcs
          have CS15 := Aside0.mk g_seqs
          have hms15 := CS15.out.2.1
          clear hK g_seqs
          have hw15_0 := Aside0.mk (show w.cell? (ad15.add (j15 * 3)) = some (.string y15_.name) from hcell 0 _ rfl)
          have hw15_1 := Aside0.mk (show w.cell? ⟨(ad15.add (j15 * 3)).block, (ad15.add (j15 * 3)).off + 1, none⟩ = some (.int .i64 y15_.floor) by rw [← add_field _ _ 1 (by omega)]; exact hcell 1 _ rfl)
          have hw15_2 := Aside0.mk (show w.cell? ⟨(ad15.add (j15 * 3)).block, (ad15.add (j15 * 3)).off + 2, none⟩ = some (.slice As15 y15_.seqs.length cs15) by rw [← add_field _ _ 2 (by omega)]; exact hcell 2 _ rfl)
          clear hcell
          have LS15 := Aside0.mk (loop_len bSen x.seens P15 HTK15.out HLT15.out)
          have yv : wr.cell? ⟨w.heap.size, 7, none⟩ = some (.slice (some ad15) x.seens.length c2) := (blk_cell BK_v.out 7).trans k7.out
          have y0 : wr.cell? (ad15.add (j15 * 3)) = some (.string y15_.name) := ((HB.out.cell (World.block_lt_of_cell? _ _ hw15_0.out)).trans hw15_0.out)
          have y1 : wr.cell? ⟨(ad15.add (j15 * 3)).block, (ad15.add (j15 * 3)).off + 1, none⟩ = some (.int .i64 y15_.floor) := ((HB.out.cell (World.block_lt_of_cell? _ _ hw15_1.out)).trans hw15_1.out)
          have y2 : wr.cell? ⟨(ad15.add (j15 * 3)).block, (ad15.add (j15 * 3)).off + 2, none⟩ = some (.slice As15 y15_.seqs.length cs15) := ((HB.out.cell (World.block_lt_of_cell? _ _ hw15_2.out)).trans hw15_2.out)
          go_upto_region 13 with fail
          clear yv y0 y1 y2
          have hm := (Below.refl wr.heap.size wr).alloc (Nat.le_refl _) (.cells #[.string y15_.name, .int .i64 y15_.floor, .slice As15 y15_.seqs.length cs15] 88)
          have n_v := Aside0.mk (blk_below BK_v.out hm)
          have n_HB := Aside0.mk (HB.out.trans (hm.mono HB.out.size))
          clear HB BK_v hm
          have HB := n_HB
          have BK_v := n_v
          clear n_HB n_v
          have BK_e := Aside0.mk (blk_new wr (.cells #[.string y15_.name, .int .i64 y15_.floor, .slice As15 y15_.seqs.length cs15] 88))
          generalize wr.alloc (.cells #[.string y15_.name, .int .i64 y15_.floor, .slice As15 y15_.seqs.length cs15] 88) = V15 at HB BK_v BK_e ⊢
          generalize wr.heap.size = M15 at BK_e ⊢
          have n_v := Aside0.mk (blk_drew BK_v.out)
          have n_e := Aside0.mk (blk_drew BK_e.out)
          have n_HB := Aside0.mk (below_drew1 HB.out)
          clear HB BK_v BK_e
          have BK_v := n_v
          have BK_e := n_e
          have HB := n_HB
          clear n_HB n_v n_e
          refine wp_mono (Q := fun e a w => e = .normal ∧ _) ?_ (fun e a w h => h.2)
          refine start_ (n := 15) (S := fun w' => w'.cell? ⟨M15, 0, none⟩ = some (.string y15_.name) ∧ w'.cell? ⟨M15, 1, none⟩ = some (.int .i64 y15_.floor) ∧ w'.cell? ⟨M15, 2, none⟩ = some (.slice As15 y15_.seqs.length cs15)) (ds := []) #[false, false, false, false, false, false, false, false, false, false, false, false, false, false, false] (by kernel_rfl) rfl rfl ⟨((blk_cell BK_e.out 0).trans rfl), ((blk_cell BK_e.out 1).trans rfl), ((blk_cell BK_e.out 2).trans rfl)⟩ (fun hHeld => ?_)
          refine with_tabW r9.tab13 r9.bits13 (fun HT_ HW_ => ?_)
          refine pure_ (i := 0) (N := some 73) (v := ?_) (a' := ?_) #[true, false, false, false, false, false, false, false, false, false, false, false, false, false, false] rfl rfl (any_of HT_.out (by kernel_rfl)) (fun _ _ _ h => nomatch h.1) (Or.inl ⟨by rfl, ?_⟩) ?_ ?_
          rotate_left
          · intro w'
            go_simp
            with_reducible rfl
          rotate_left
          · simp only [Act.put, List.setIfInBounds_toArray, List.set_cons_zero, List.set_cons_succ, i64_w, i32_w]
            rfl
          refine pure_ (i := 1) (N := some 74) (v := ?_) (a' := ?_) #[true, true, false, false, false, false, false, false, false, false, false, false, false, false, false] rfl rfl (any_of HT_.out (by kernel_rfl)) (fun _ _ _ h => nomatch h.1) (Or.inl ⟨by rfl, ?_⟩) ?_ ?_
          rotate_left
          · intro w'
            go_simp
            with_reducible rfl
          rotate_left
          · simp only [Act.put, List.setIfInBounds_toArray, List.set_cons_zero, List.set_cons_succ, i64_w, i32_w]
            rfl
          refine pure_ (i := 5) (N := some 78) (v := ?_) (a' := ?_) #[true, true, false, false, false, true, false, false, false, false, false, false, false, false, false] rfl rfl (any_of HT_.out (by kernel_rfl)) (fun _ _ _ h => nomatch h.1) (Or.inl ⟨by rfl, ?_⟩) ?_ ?_
          rotate_left
          · intro w'
            go_simp
            with_reducible rfl
          rotate_left
          · simp only [Act.put, List.setIfInBounds_toArray, List.set_cons_zero, List.set_cons_succ, i64_w, i32_w]
            rfl
          refine pure_ (i := 9) (N := some 82) (v := ?_) (a' := ?_) #[true, true, false, false, false, true, false, false, false, true, false, false, false, false, false] rfl rfl (any_of HT_.out (by kernel_rfl)) (fun _ _ _ h => nomatch h.1) (Or.inl ⟨by rfl, ?_⟩) ?_ ?_
          rotate_left
          · intro w'
            go_simp
            with_reducible rfl
          rotate_left
          · simp only [Act.put, List.setIfInBounds_toArray, List.set_cons_zero, List.set_cons_succ, i64_w, i32_w]
            rfl
          refine take_ (i := 2) (N := some 75) (v := ?_) (a' := ?_) #[true, true, true, false, false, true, false, false, false, true, false, false, false, false, false] rfl rfl (take_ofW HT_.out HW_.out (by kernel_rfl)) (fun _ _ _ h => nomatch h.1) (Or.inl ⟨by rfl, ?_⟩) hHeld ?_ ?_
          rotate_left
          · rintro w' ⟨s0, s1, s2⟩
            go_simp
            with_reducible rfl
          rotate_left
          · simp only [Act.put, List.setIfInBounds_toArray, List.set_cons_zero, List.set_cons_succ, i64_w, i32_w]
            rfl
          refine take_ (i := 6) (N := some 79) (v := ?_) (a' := ?_) #[true, true, true, false, false, true, true, false, false, true, false, false, false, false, false] rfl rfl (take_ofW HT_.out HW_.out (by kernel_rfl)) (fun _ _ _ h => nomatch h.1) (Or.inl ⟨by rfl, ?_⟩) hHeld ?_ ?_
          rotate_left
          · rintro w' ⟨s0, s1, s2⟩
            go_simp
            with_reducible rfl
          rotate_left
          · simp only [Act.put, List.setIfInBounds_toArray, List.set_cons_zero, List.set_cons_succ, i64_w, i32_w]
            rfl
          refine take_ (i := 10) (N := some 83) (v := ?_) (a' := ?_) #[true, true, true, false, false, true, true, false, false, true, true, false, false, false, false] rfl rfl (take_ofW HT_.out HW_.out (by kernel_rfl)) (fun _ _ _ h => nomatch h.1) (Or.inl ⟨by rfl, ?_⟩) hHeld ?_ ?_
          rotate_left
          · rintro w' ⟨s0, s1, s2⟩
            go_simp
            with_reducible rfl
          rotate_left
          · simp only [Act.put, List.setIfInBounds_toArray, List.set_cons_zero, List.set_cons_succ, i64_w, i32_w]
            rfl
          refine pure_ (i := 11) (N := some 84) (v := ?_) (a' := ?_) #[true, true, true, false, false, true, true, false, false, true, true, true, false, false, false] rfl rfl (any_of HT_.out (by kernel_rfl)) (fun _ _ _ h => nomatch h.1) (Or.inl ⟨by rfl, ?_⟩) ?_ ?_
          rotate_left
          · intro w'
            go_simp
            with_reducible rfl
          rotate_left
          · simp only [Act.put, List.setIfInBounds_toArray, List.set_cons_zero, List.set_cons_succ, i64_w, i32_w]
            rfl
          refine one_ (i := 3) (N := some 76) #[true, true, true, true, false, true, true, false, false, true, true, true, false, false, false] rfl rfl (one_of HT_.out (by kernel_rfl)) (by decide) (fun K hK => ?_)
          refine goes_ Tryz.func22 (by kernel_rfl) rfl #[.string y15_.name] (by rfl) rfl rfl (by simp only [List.map_toArray, List.map_cons, List.map_nil]; rfl) ?_
          with_reducible refine (rTextG_calls y15_.name GY15.out.1 _).mono ?_
          rintro e W16 ⟨⟨s16, rfl, hs⟩, hb⟩
          refine ⟨_, rfl, ?_⟩
          have HS16 := Aside0.mk hs
          have LS16 := Aside0.mk (show (textB y15_.name).length ≤ 10011 from textB_len GY15.out.1)
          clear hs
          have n_v := Aside0.mk (blk_below BK_v.out hb)
          have n_e := Aside0.mk (blk_below BK_e.out hb)
          have n_HB := Aside0.mk (HB.out.trans (hb.mono HB.out.size))
          clear HB hb BK_v BK_e
          have BK_v := n_v
          have BK_e := n_e
          have HB := n_HB
          clear n_HB n_v n_e
          obtain ⟨hc17, hs⟩ := cat_pre c15 s16 HS15.out HS16.out (by have := LS15.out; have := LS16.out; omega)
          (try simp only [ByteArray.size_append] at hc17)
          have HS17 := Aside0.mk hs
          have LS17 := Aside0.mk (show ((P15 ++ (x.seens.take j15).flatMap bSen) ++ (textB y15_.name)).length ≤ 100000010011 from (by rw [List.length_append]; have := LS15.out; have := LS16.out; omega))
          clear hs
          refine hK.out _ _ ⟨((blk_cell BK_e.out 0).trans rfl), ((blk_cell BK_e.out 1).trans rfl), ((blk_cell BK_e.out 2).trans rfl)⟩ (fun hHeld => ?_)
          clear hK K
          refine norm_ (a' := ?_) ?_ ?_
          rotate_left
          · show Act.put _ (some 76) _ = _
            simp only [Act.put, List.setIfInBounds_toArray, List.set_cons_zero, List.set_cons_succ, i64_w, i32_w]
            rfl
          refine pure_ (i := 4) (N := some 77) (v := ?_) (a' := ?_) #[true, true, true, true, true, true, true, false, false, true, true, true, false, false, false] rfl rfl (any_of HT_.out (by kernel_rfl)) (fun _ _ _ h => nomatch h.1) (Or.inl ⟨by rfl, ?_⟩) ?_ ?_
          rotate_left
          · intro w'
            go_simp
            with_reducible rfl
          rotate_left
          · simp only [Act.put, List.setIfInBounds_toArray, List.set_cons_zero, List.set_cons_succ, i64_w, i32_w]
            rfl
          refine one_ (i := 7) (N := some 80) #[true, true, true, true, true, true, true, true, false, true, true, true, false, false, false] rfl rfl (one_of HT_.out (by kernel_rfl)) (by decide) (fun K hK => ?_)
          refine goes_ Tryz.func23 (by kernel_rfl) rfl #[.int .i64 y15_.floor] (by rfl) rfl rfl (by simp only [List.map_toArray, List.map_cons, List.map_nil]; rfl) ?_
          with_reducible refine (rUpG_calls y15_.floor GY15.out.2.1 _).mono ?_
          rintro e W18 ⟨⟨s18, rfl, hs⟩, hb⟩
          refine ⟨_, rfl, ?_⟩
          have HS18 := Aside0.mk hs
          have LS18 := Aside0.mk (show (upB y15_.floor).length ≤ 11 from upB_len' GY15.out.2.1)
          clear hs
          have n_v := Aside0.mk (blk_below BK_v.out hb)
          have n_e := Aside0.mk (blk_below BK_e.out hb)
          have n_HB := Aside0.mk (HB.out.trans (hb.mono HB.out.size))
          clear HB hb BK_v BK_e
          have BK_v := n_v
          have BK_e := n_e
          have HB := n_HB
          clear n_HB n_v n_e
          obtain ⟨hc19, hs⟩ := cat_pre (c15 ++ s16) s18 HS17.out HS18.out (by have := LS17.out; have := LS18.out; omega)
          (try simp only [ByteArray.size_append] at hc19)
          have HS19 := Aside0.mk hs
          have LS19 := Aside0.mk (show (((P15 ++ (x.seens.take j15).flatMap bSen) ++ (textB y15_.name)) ++ (upB y15_.floor)).length ≤ 100000010022 from (by rw [List.length_append]; have := LS17.out; have := LS18.out; omega))
          clear hs
          refine hK.out _ _ ⟨((blk_cell BK_e.out 0).trans rfl), ((blk_cell BK_e.out 1).trans rfl), ((blk_cell BK_e.out 2).trans rfl)⟩ (fun hHeld => ?_)
          clear hK K
          refine norm_ (a' := ?_) ?_ ?_
          rotate_left
          · show Act.put _ (some 80) _ = _
            simp only [Act.put, List.setIfInBounds_toArray, List.set_cons_zero, List.set_cons_succ, i64_w, i32_w]
            rfl
          refine pure_ (i := 8) (N := some 81) (v := ?_) (a' := ?_) #[true, true, true, true, true, true, true, true, true, true, true, true, false, false, false] rfl rfl (any_of HT_.out (by kernel_rfl)) (fun _ _ _ h => nomatch h.1) (Or.inl ⟨by rfl, ?_⟩) ?_ ?_
          rotate_left
          · intro w'
            go_simp
            with_reducible rfl
          rotate_left
          · simp only [Act.put, List.setIfInBounds_toArray, List.set_cons_zero, List.set_cons_succ, i64_w, i32_w]
            rfl
          refine one_ (i := 12) (N := some 85) #[true, true, true, true, true, true, true, true, true, true, true, true, true, false, false] rfl rfl (one_of HT_.out (by kernel_rfl)) (by decide) (fun K hK => ?_)
          refine goes_ Tryz.func23 (by kernel_rfl) rfl #[.int .i64 (y15_.seqs.length : Int)] (by rfl) rfl rfl (by simp only [List.map_toArray, List.map_cons, List.map_nil]; rfl) ?_
          with_reducible refine (rUpG_calls (y15_.seqs.length : Int) (gList_up GY15.out.2.2) _).mono ?_
          rintro e W20 ⟨⟨s20, rfl, hs⟩, hb⟩
          refine ⟨_, rfl, ?_⟩
          have HS20 := Aside0.mk hs
          have LS20 := Aside0.mk (show (upB (y15_.seqs.length : Int)).length ≤ 11 from upB_len' (gList_up GY15.out.2.2))
          clear hs
          have n_v := Aside0.mk (blk_below BK_v.out hb)
          have n_e := Aside0.mk (blk_below BK_e.out hb)
          have n_HB := Aside0.mk (HB.out.trans (hb.mono HB.out.size))
          clear HB hb BK_v BK_e
          have BK_v := n_v
          have BK_e := n_e
          have HB := n_HB
          clear n_HB n_v n_e
          obtain ⟨hc21, hs⟩ := cat_pre ((c15 ++ s16) ++ s18) s20 HS19.out HS20.out (by have := LS19.out; have := LS20.out; omega)
          (try simp only [ByteArray.size_append] at hc21)
          have HS21 := Aside0.mk hs
          have LS21 := Aside0.mk (show ((((P15 ++ (x.seens.take j15).flatMap bSen) ++ (textB y15_.name)) ++ (upB y15_.floor)) ++ (upB (y15_.seqs.length : Int))).length ≤ 100000010033 from (by rw [List.length_append]; have := LS19.out; have := LS20.out; omega))
          clear hs
          refine hK.out _ _ ⟨((blk_cell BK_e.out 0).trans rfl), ((blk_cell BK_e.out 1).trans rfl), ((blk_cell BK_e.out 2).trans rfl)⟩ (fun hHeld => ?_)
          clear hK K
          refine norm_ (a' := ?_) ?_ ?_
          rotate_left
          · show Act.put _ (some 85) _ = _
            simp only [Act.put, List.setIfInBounds_toArray, List.set_cons_zero, List.set_cons_succ, i64_w, i32_w]
            rfl
          refine pure_ (i := 13) (N := some 86) (v := ?_) (a' := ?_) #[true, true, true, true, true, true, true, true, true, true, true, true, true, true, false] rfl rfl (any_of HT_.out (by kernel_rfl)) (fun _ _ _ h => nomatch h.1) (Or.inl ⟨by rfl, ?_⟩) ?_ ?_
          rotate_left
          · intro w'
            go_simp
            with_reducible rfl
          rotate_left
          · simp only [Act.put, List.setIfInBounds_toArray, List.set_cons_zero, List.set_cons_succ, i64_w, i32_w]
            rfl
          refine pure_ (i := 14) (N := some 3) (v := ?_) (a' := ?_) #[true, true, true, true, true, true, true, true, true, true, true, true, true, true, true] rfl rfl (any_of HT_.out (by kernel_rfl)) (fun _ _ _ h => nomatch h.1) (Or.inl ⟨by rfl, ?_⟩) ?_ ?_
          rotate_left
          · intro w'
            go_simp
            with_reducible rfl
          rotate_left
          · simp only [Act.put, List.setIfInBounds_toArray, List.set_cons_zero, List.set_cons_succ, i64_w, i32_w]
            rfl
          refine done_ (done_of HT_.out (by kernel_rfl)) ?_
          refine ⟨rfl, ?_⟩
          clear hHeld HT_ HW_
          clear hc21
          generalize (((c15 ++ s16) ++ s18) ++ s20) = c21 at HS21 ⊢
          have y0 := (blk_cell BK_e.out 2).trans rfl
          go_wp2_with fail
          clear y0
          obtain ⟨P22, hP22⟩ : ∃ P, P = (((P15 ++ (x.seens.take j15).flatMap bSen) ++ (textB y15_.name)) ++ (upB y15_.floor)) ++ (upB (y15_.seqs.length : Int)) := ⟨_, rfl⟩
          have HP22 := Aside0.mk hP22
          rw [← hP22] at HS21
          clear hP22
          have HLT22 := Aside0.mk (show (P22 ++ y15_.seqs.flatMap upB).length ≤ 100000031066 by rw [HP22.out]; have := LS21.out; have := HLY15.out; simp only [bSen, listB] at this; simp only [List.length_append] at *; omega)
          go_loopw [3, 8, 90] (fun v3 v8 v90 wr => ∃ (j22 : Nat) (c : ByteArray), j22 ≤ y15_.seqs.length ∧ v90 = .int .i64 j22 ∧ v3 = .string c ∧ bytesOf c = P22 ++ (y15_.seqs.take j22).flatMap upB ∧ Below w.heap.size w wr ∧ wr.heap[w.heap.size]? = some (.cells CA 61 (0, 0)) ∧ wr.heap[M15]? = some (.cells #[.string y15_.name, .int .i64 y15_.floor, .slice As15 y15_.seqs.length cs15] 88 (0, 0))) (fun v3 v8 v90 _ => y15_.seqs.length - (intOf v90).toNat)
          case atStart => exact ⟨0, _, Nat.zero_le _, rfl, rfl, by rw [HS21.out]; simp, HB.out, BK_v.out, BK_e.out⟩
          case round =>
            clear HS21 HB BK_v BK_e
            obtain ⟨j22, c22, hj22, rfl, rfl, hs, hb, k_v, k_e⟩ := hrel
            have HS22 := Aside0.mk hs
            have HB := Aside0.mk hb
            have BK_v := Aside0.mk k_v
            have BK_e := Aside0.mk k_e
            clear hs hb k_v k_e
            by_cases hlt : j22 < y15_.seqs.length
            · skip
              have hE := Kd.C_get CS15.out 0 (j22 : Int) (by omega) (by omega)
              rw [Int.toNat_natCast, show y15_.seqs.getD j22 0 = y15_.seqs[j22] by rw [List.getD_eq_getElem?_getD, List.getElem?_eq_getElem hlt]; rfl] at hE
              have HTK22 := Aside0.mk (show y15_.seqs.take (j22 + 1) = y15_.seqs.take j22 ++ [y15_.seqs[j22]] from List.take_succ_eq_append_getElem hlt)
              have GY22 := Aside0.mk ((gList_mem GY15.out.2.2) y15_.seqs[j22] (List.getElem_mem hlt))
              generalize y15_.seqs[j22] = y22_ at hE HTK22 GY22
              obtain ⟨ad22, cs, rfl, _, hK, hcell⟩ := hE
              obtain rfl := hK
              have hcl22 : wr.cell? (ad22.add j22) = some (.int .i64 y22_) := by rw [show j22 = j22 * 1 + 0 from (Nat.mul_one j22).symm]; exact (HB.out.cell (World.block_lt_of_cell? _ _ (hcell 0 _ rfl))).trans (hcell 0 _ rfl)
              clear hcell
              have LS22 := Aside0.mk (loop_len upB y15_.seqs P22 HTK22.out HLT22.out)
              have y0 : wr.cell? ⟨M15, 2, none⟩ = some (.slice (some ad22) y15_.seqs.length cs15) := ((blk_cell BK_e.out 2).trans rfl)
              have y1 : wr.cell? (ad22.add j22) = some (.int .i64 y22_) := hcl22
              have hc := rUpG_calls y22_ GY22.out wr
              go_wp2_with (go_at_call 23; refine (show Calls _ _ _ _ _ from hc).mono ?_; rintro e W23 ⟨⟨s23, rfl, hs⟩, hb⟩; have HS23 := Aside0.mk hs; have LS23 := Aside0.mk (show (upB y22_).length ≤ 11 from upB_len' GY22.out); clear hs; have n_v := Aside0.mk (blk_below BK_v.out hb); have n_e := Aside0.mk (blk_below BK_e.out hb); have n_HB := Aside0.mk (HB.out.trans (hb.mono HB.out.size)); clear HB hb BK_v BK_e; have BK_v := n_v; have BK_e := n_e; have HB := n_HB; clear n_HB n_v n_e; obtain ⟨hc24, hs⟩ := cat_pre c22 s23 HS22.out HS23.out (by have := LS22.out; have := LS23.out; omega); (try simp only [ByteArray.size_append] at hc24); have HS24 := Aside0.mk hs; have LS24 := Aside0.mk (show ((P22 ++ (y15_.seqs.take j22).flatMap upB) ++ (upB y22_)).length ≤ 100000031077 from (by rw [List.length_append]; have := LS22.out; have := LS23.out; omega)); clear hs; clear hc)
              clear y0 y1
              go_roundw
              case rel => exact ⟨j22 + 1, _, by omega, by simp, rfl, by rw [HS24.out, HTK22.out]; simp [listB, bSrc, bSen, bCel, bLab, bEmi, List.append_assoc], HB.out, BK_v.out, BK_e.out⟩
              case measure => simp [intOf]; omega
            · skip
              obtain rfl : j22 = y15_.seqs.length := by omega
              clear hj22 hlt
              rw [List.take_length] at HS22
              have LS22 := HLT22
              rw [HP22.out] at HS22 LS22
              clear HP22 HLT22
              go_wp2
              go_roundw
              case rel => exact ⟨j15 + 1, _, by omega, by simp, rfl, by rw [HS22.out, HTK15.out]; simp [listB, bSrc, bSen, bCel, bLab, bEmi, List.append_assoc], HB.out, BK_v.out⟩
              case measure => simp [intOf]; omega
        · skip
          obtain rfl : j15 = x.seens.length := by omega
          clear hj15 hlt
          rw [List.take_length] at HS15
          have LS15 := HLT15
          rw [HP15.out] at HS15 LS15
          clear HP15 HLT15
          have y0 : wr.cell? ⟨w.heap.size, 8, none⟩ = some (.slice A3 x.cells.length c3) := ((blk_cell BK_v.out 8).trans k8.out)
          have hc := rUpG_calls (x.cells.length : Int) (gList_up G.out.2.2.2.2.1) wr
          go_upto_region 21 with (go_at_call 23; refine (show Calls _ _ _ _ _ from hc).mono ?_; rintro e W25 ⟨⟨s25, rfl, hs⟩, hb⟩; have HS25 := Aside0.mk hs; have LS25 := Aside0.mk (show (upB (x.cells.length : Int)).length ≤ 11 from upB_len' (gList_up G.out.2.2.2.2.1)); clear hs; have n_v := Aside0.mk (blk_below BK_v.out hb); have n_HB := Aside0.mk (HB.out.trans (hb.mono HB.out.size)); clear HB hb BK_v; have BK_v := n_v; have HB := n_HB; clear n_HB n_v; obtain ⟨hc26, hs⟩ := cat_pre c15 s25 HS15.out HS25.out (by have := LS15.out; have := LS25.out; omega); (try simp only [ByteArray.size_append] at hc26); have HS26 := Aside0.mk hs; have LS26 := Aside0.mk (show (((((((upB x.now) ++ (upB x.low)) ++ (upB (x.sources.length : Int))) ++ x.sources.flatMap bSrc) ++ (upB (x.seens.length : Int))) ++ x.seens.flatMap bSen) ++ (upB (x.cells.length : Int))).length ≤ 100000000011 from (by rw [List.length_append]; have := LS15.out; have := LS25.out; omega)); clear hs; clear hc)
          clear y0
          clear hc26
          generalize (c15 ++ s25) = c26 at HS26 ⊢
          have y0 := (blk_cell BK_v.out 8).trans k8.out
          go_wp2_with fail
          clear y0
          obtain ⟨P27, hP27⟩ : ∃ P, P = ((((((upB x.now) ++ (upB x.low)) ++ (upB (x.sources.length : Int))) ++ x.sources.flatMap bSrc) ++ (upB (x.seens.length : Int))) ++ x.seens.flatMap bSen) ++ (upB (x.cells.length : Int)) := ⟨_, rfl⟩
          have HP27 := Aside0.mk hP27
          rw [← hP27] at HS26
          clear hP27
          have HLT27 := Aside0.mk (show (P27 ++ x.cells.flatMap bCel).length ≤ 100000000000 by rw [HP27.out]; have := HL.out; simp only [List.length_append] at *; omega)
          go_loopw [3, 9, 10, 112] (fun v3 v9 v10 v112 wr => ∃ (j27 : Nat) (c : ByteArray), j27 ≤ x.cells.length ∧ v112 = .int .i64 j27 ∧ v3 = .string c ∧ bytesOf c = P27 ++ (x.cells.take j27).flatMap bCel ∧ Below w.heap.size w wr ∧ wr.heap[w.heap.size]? = some (.cells CA 61 (0, 0))) (fun v3 v9 v10 v112 _ => x.cells.length - (intOf v112).toNat)
          case atStart => exact ⟨0, _, Nat.zero_le _, rfl, rfl, by rw [HS26.out]; simp, HB.out, BK_v.out⟩
          case round =>
            clear HS26 HB BK_v
            obtain ⟨j27, c27, hj27, rfl, rfl, hs, hb, k_v⟩ := hrel
            have HS27 := Aside0.mk hs
            have HB := Aside0.mk hb
            have BK_v := Aside0.mk k_v
            clear hs hb k_v
            by_cases hlt : j27 < x.cells.length
            · skip
              have hE := Kd.C_get C3.out zCel (j27 : Int) (by omega) (by omega)
              rw [Int.toNat_natCast, show x.cells.getD j27 zCel = x.cells[j27] by rw [List.getD_eq_getElem?_getD, List.getElem?_eq_getElem hlt]; rfl] at hE
              have HTK27 := Aside0.mk (show x.cells.take (j27 + 1) = x.cells.take j27 ++ [x.cells[j27]] from List.take_succ_eq_append_getElem hlt)
              have gy := (gList_mem G.out.2.2.2.2.1) x.cells[j27] (List.getElem_mem hlt)
              generalize x.cells[j27] = y27_ at hE HTK27 gy
              have HLY27 := Aside0.mk (bCel_len _ gy)
              unfold gCel at gy
              have GY27 := Aside0.mk gy
              clear gy
              obtain ⟨ad27, cs, rfl, _, hK, hcell⟩ := hE
              obtain ⟨Al27, cl27, Av27, cv27, Am27, cm27, hcs, _, g_l, hv27, g_v, hmm27, g_m⟩ := kCel_open hK
              subst hcs
              have CL27 := Aside0.mk g_l
              have hms27 := CL27.out.2.1
              have CV27 := Aside0.mk g_v
              have CM27 := Aside0.mk g_m
              clear hK g_l g_v g_m
              have hw27_0 := Aside0.mk (show w.cell? (ad27.add (j27 * 16)) = some (.string y27_.metric) from hcell 0 _ rfl)
              have hw27_1 := Aside0.mk (show w.cell? ⟨(ad27.add (j27 * 16)).block, (ad27.add (j27 * 16)).off + 1, none⟩ = some (.slice Al27 y27_.labels.length cl27) by rw [← add_field _ _ 1 (by omega)]; exact hcell 1 _ rfl)
              have hw27_2 := Aside0.mk (show w.cell? ⟨(ad27.add (j27 * 16)).block, (ad27.add (j27 * 16)).off + 2, none⟩ = some (.int .i64 y27_.policy) by rw [← add_field _ _ 2 (by omega)]; exact hcell 2 _ rfl)
              have hw27_3 := Aside0.mk (show w.cell? ⟨(ad27.add (j27 * 16)).block, (ad27.add (j27 * 16)).off + 3, none⟩ = some (.int .i64 y27_.start) by rw [← add_field _ _ 3 (by omega)]; exact hcell 3 _ rfl)
              have hw27_4 := Aside0.mk (show w.cell? ⟨(ad27.add (j27 * 16)).block, (ad27.add (j27 * 16)).off + 4, none⟩ = some (.int .i64 y27_.rev) by rw [← add_field _ _ 4 (by omega)]; exact hcell 4 _ rfl)
              have hw27_5 := Aside0.mk (show w.cell? ⟨(ad27.add (j27 * 16)).block, (ad27.add (j27 * 16)).off + 5, none⟩ = some (.bool y27_.dirty) by rw [← add_field _ _ 5 (by omega)]; exact hcell 5 _ rfl)
              have hw27_6 := Aside0.mk (show w.cell? ⟨(ad27.add (j27 * 16)).block, (ad27.add (j27 * 16)).off + 6, none⟩ = some (.int .i64 y27_.vat.kind) by rw [← add_field _ _ 6 (by omega)]; exact hcell 6 _ rfl)
              have hw27_7 := Aside0.mk (show w.cell? ⟨(ad27.add (j27 * 16)).block, (ad27.add (j27 * 16)).off + 7, none⟩ = some (.int .i64 y27_.vat.many) by rw [← add_field _ _ 7 (by omega)]; exact hcell 7 _ rfl)
              have hw27_8 := Aside0.mk (show w.cell? ⟨(ad27.add (j27 * 16)).block, (ad27.add (j27 * 16)).off + 8, none⟩ = some (.int .i64 y27_.vat.high) by rw [← add_field _ _ 8 (by omega)]; exact hcell 8 _ rfl)
              have hw27_9 := Aside0.mk (show w.cell? ⟨(ad27.add (j27 * 16)).block, (ad27.add (j27 * 16)).off + 9, none⟩ = some (.int .i64 y27_.vat.low) by rw [← add_field _ _ 9 (by omega)]; exact hcell 9 _ rfl)
              have hw27_10 := Aside0.mk (show w.cell? ⟨(ad27.add (j27 * 16)).block, (ad27.add (j27 * 16)).off + 10, none⟩ = some (.int .i64 y27_.vat.last) by rw [← add_field _ _ 10 (by omega)]; exact hcell 10 _ rfl)
              have hw27_11 := Aside0.mk (show w.cell? ⟨(ad27.add (j27 * 16)).block, (ad27.add (j27 * 16)).off + 11, none⟩ = some (.int .i64 y27_.vat.time) by rw [← add_field _ _ 11 (by omega)]; exact hcell 11 _ rfl)
              have hw27_12 := Aside0.mk (show w.cell? ⟨(ad27.add (j27 * 16)).block, (ad27.add (j27 * 16)).off + 12, none⟩ = some (.int .i64 y27_.vat.seq) by rw [← add_field _ _ 12 (by omega)]; exact hcell 12 _ rfl)
              have hw27_13 := Aside0.mk (show w.cell? ⟨(ad27.add (j27 * 16)).block, (ad27.add (j27 * 16)).off + 13, none⟩ = some (.string y27_.vat.source) by rw [← add_field _ _ 13 (by omega)]; exact hcell 13 _ rfl)
              have hw27_14 := Aside0.mk (show w.cell? ⟨(ad27.add (j27 * 16)).block, (ad27.add (j27 * 16)).off + 14, none⟩ = some (.slice Av27 y27_.vat.samples.length cv27) by rw [← add_field _ _ 14 (by omega)]; exact hcell 14 _ rfl)
              have hw27_15 := Aside0.mk (show w.cell? ⟨(ad27.add (j27 * 16)).block, (ad27.add (j27 * 16)).off + 15, none⟩ = some (.slice Am27 y27_.vat.members.length cm27) by rw [← add_field _ _ 15 (by omega)]; exact hcell 15 _ rfl)
              clear hcell
              have LS27 := Aside0.mk (loop_len bCel x.cells P27 HTK27.out HLT27.out)
              have yv : wr.cell? ⟨w.heap.size, 8, none⟩ = some (.slice (some ad27) x.cells.length c3) := (blk_cell BK_v.out 8).trans k8.out
              have y0 : wr.cell? (ad27.add (j27 * 16)) = some (.string y27_.metric) := ((HB.out.cell (World.block_lt_of_cell? _ _ hw27_0.out)).trans hw27_0.out)
              have y1 : wr.cell? ⟨(ad27.add (j27 * 16)).block, (ad27.add (j27 * 16)).off + 1, none⟩ = some (.slice Al27 y27_.labels.length cl27) := ((HB.out.cell (World.block_lt_of_cell? _ _ hw27_1.out)).trans hw27_1.out)
              have y2 : wr.cell? ⟨(ad27.add (j27 * 16)).block, (ad27.add (j27 * 16)).off + 2, none⟩ = some (.int .i64 y27_.policy) := ((HB.out.cell (World.block_lt_of_cell? _ _ hw27_2.out)).trans hw27_2.out)
              have y3 : wr.cell? ⟨(ad27.add (j27 * 16)).block, (ad27.add (j27 * 16)).off + 3, none⟩ = some (.int .i64 y27_.start) := ((HB.out.cell (World.block_lt_of_cell? _ _ hw27_3.out)).trans hw27_3.out)
              have y4 : wr.cell? ⟨(ad27.add (j27 * 16)).block, (ad27.add (j27 * 16)).off + 4, none⟩ = some (.int .i64 y27_.rev) := ((HB.out.cell (World.block_lt_of_cell? _ _ hw27_4.out)).trans hw27_4.out)
              have y5 : wr.cell? ⟨(ad27.add (j27 * 16)).block, (ad27.add (j27 * 16)).off + 5, none⟩ = some (.bool y27_.dirty) := ((HB.out.cell (World.block_lt_of_cell? _ _ hw27_5.out)).trans hw27_5.out)
              have y6 : wr.cell? ⟨(ad27.add (j27 * 16)).block, (ad27.add (j27 * 16)).off + 6, none⟩ = some (.int .i64 y27_.vat.kind) := ((HB.out.cell (World.block_lt_of_cell? _ _ hw27_6.out)).trans hw27_6.out)
              have y7 : wr.cell? ⟨(ad27.add (j27 * 16)).block, (ad27.add (j27 * 16)).off + 7, none⟩ = some (.int .i64 y27_.vat.many) := ((HB.out.cell (World.block_lt_of_cell? _ _ hw27_7.out)).trans hw27_7.out)
              have y8 : wr.cell? ⟨(ad27.add (j27 * 16)).block, (ad27.add (j27 * 16)).off + 8, none⟩ = some (.int .i64 y27_.vat.high) := ((HB.out.cell (World.block_lt_of_cell? _ _ hw27_8.out)).trans hw27_8.out)
              have y9 : wr.cell? ⟨(ad27.add (j27 * 16)).block, (ad27.add (j27 * 16)).off + 9, none⟩ = some (.int .i64 y27_.vat.low) := ((HB.out.cell (World.block_lt_of_cell? _ _ hw27_9.out)).trans hw27_9.out)
              have y10 : wr.cell? ⟨(ad27.add (j27 * 16)).block, (ad27.add (j27 * 16)).off + 10, none⟩ = some (.int .i64 y27_.vat.last) := ((HB.out.cell (World.block_lt_of_cell? _ _ hw27_10.out)).trans hw27_10.out)
              have y11 : wr.cell? ⟨(ad27.add (j27 * 16)).block, (ad27.add (j27 * 16)).off + 11, none⟩ = some (.int .i64 y27_.vat.time) := ((HB.out.cell (World.block_lt_of_cell? _ _ hw27_11.out)).trans hw27_11.out)
              have y12 : wr.cell? ⟨(ad27.add (j27 * 16)).block, (ad27.add (j27 * 16)).off + 12, none⟩ = some (.int .i64 y27_.vat.seq) := ((HB.out.cell (World.block_lt_of_cell? _ _ hw27_12.out)).trans hw27_12.out)
              have y13 : wr.cell? ⟨(ad27.add (j27 * 16)).block, (ad27.add (j27 * 16)).off + 13, none⟩ = some (.string y27_.vat.source) := ((HB.out.cell (World.block_lt_of_cell? _ _ hw27_13.out)).trans hw27_13.out)
              have y14 : wr.cell? ⟨(ad27.add (j27 * 16)).block, (ad27.add (j27 * 16)).off + 14, none⟩ = some (.slice Av27 y27_.vat.samples.length cv27) := ((HB.out.cell (World.block_lt_of_cell? _ _ hw27_14.out)).trans hw27_14.out)
              have y15 : wr.cell? ⟨(ad27.add (j27 * 16)).block, (ad27.add (j27 * 16)).off + 15, none⟩ = some (.slice Am27 y27_.vat.members.length cm27) := ((HB.out.cell (World.block_lt_of_cell? _ _ hw27_15.out)).trans hw27_15.out)
              go_upto_region 25 with fail
              clear yv y0 y1 y2 y3 y4 y5 y6 y7 y8 y9 y10 y11 y12 y13 y14 y15
              have hm := (Below.refl wr.heap.size wr).alloc (Nat.le_refl _) (.cells #[.string y27_.metric, .slice Al27 y27_.labels.length cl27, .int .i64 y27_.policy, .int .i64 y27_.start, .int .i64 y27_.rev, .bool y27_.dirty, .int .i64 y27_.vat.kind, .int .i64 y27_.vat.many, .int .i64 y27_.vat.high, .int .i64 y27_.vat.low, .int .i64 y27_.vat.last, .int .i64 y27_.vat.time, .int .i64 y27_.vat.seq, .string y27_.vat.source, .slice Av27 y27_.vat.samples.length cv27, .slice Am27 y27_.vat.members.length cm27] 96)
              have n_v := Aside0.mk (blk_below BK_v.out hm)
              have n_HB := Aside0.mk (HB.out.trans (hm.mono HB.out.size))
              clear HB BK_v hm
              have HB := n_HB
              have BK_v := n_v
              clear n_HB n_v
              have BK_e := Aside0.mk (blk_new wr (.cells #[.string y27_.metric, .slice Al27 y27_.labels.length cl27, .int .i64 y27_.policy, .int .i64 y27_.start, .int .i64 y27_.rev, .bool y27_.dirty, .int .i64 y27_.vat.kind, .int .i64 y27_.vat.many, .int .i64 y27_.vat.high, .int .i64 y27_.vat.low, .int .i64 y27_.vat.last, .int .i64 y27_.vat.time, .int .i64 y27_.vat.seq, .string y27_.vat.source, .slice Av27 y27_.vat.samples.length cv27, .slice Am27 y27_.vat.members.length cm27] 96))
              generalize wr.alloc (.cells #[.string y27_.metric, .slice Al27 y27_.labels.length cl27, .int .i64 y27_.policy, .int .i64 y27_.start, .int .i64 y27_.rev, .bool y27_.dirty, .int .i64 y27_.vat.kind, .int .i64 y27_.vat.many, .int .i64 y27_.vat.high, .int .i64 y27_.vat.low, .int .i64 y27_.vat.last, .int .i64 y27_.vat.time, .int .i64 y27_.vat.seq, .string y27_.vat.source, .slice Av27 y27_.vat.samples.length cv27, .slice Am27 y27_.vat.members.length cm27] 96) = V27 at HB BK_v BK_e ⊢
              generalize wr.heap.size = M27 at BK_e ⊢
              have n_v := Aside0.mk (blk_drew BK_v.out)
              have n_e := Aside0.mk (blk_drew BK_e.out)
              have n_HB := Aside0.mk (below_drew1 HB.out)
              clear HB BK_v BK_e
              have BK_v := n_v
              have BK_e := n_e
              have HB := n_HB
              clear n_HB n_v n_e
              refine wp_mono (Q := fun e a w => e = .normal ∧ _) ?_ (fun e a w h => h.2)
              refine start_ (n := 13) (S := fun w' => w'.cell? ⟨M27, 0, none⟩ = some (.string y27_.metric) ∧ w'.cell? ⟨M27, 1, none⟩ = some (.slice Al27 y27_.labels.length cl27)) (ds := []) #[false, false, false, false, false, false, false, false, false, false, false, false, false] (by kernel_rfl) rfl rfl ⟨((blk_cell BK_e.out 0).trans rfl), ((blk_cell BK_e.out 1).trans rfl)⟩ (fun hHeld => ?_)
              refine with_tabW r9.tab25 r9.bits25 (fun HT_ HW_ => ?_)
              refine pure_ (i := 0) (N := some 120) (v := ?_) (a' := ?_) #[true, false, false, false, false, false, false, false, false, false, false, false, false] rfl rfl (any_of HT_.out (by kernel_rfl)) (fun _ _ _ h => nomatch h.1) (Or.inl ⟨by rfl, ?_⟩) ?_ ?_
              rotate_left
              · intro w'
                go_simp
                with_reducible rfl
              rotate_left
              · simp only [Act.put, List.setIfInBounds_toArray, List.set_cons_zero, List.set_cons_succ, i64_w, i32_w]
                rfl
              refine pure_ (i := 1) (N := some 121) (v := ?_) (a' := ?_) #[true, true, false, false, false, false, false, false, false, false, false, false, false] rfl rfl (any_of HT_.out (by kernel_rfl)) (fun _ _ _ h => nomatch h.1) (Or.inl ⟨by rfl, ?_⟩) ?_ ?_
              rotate_left
              · intro w'
                go_simp
                with_reducible rfl
              rotate_left
              · simp only [Act.put, List.setIfInBounds_toArray, List.set_cons_zero, List.set_cons_succ, i64_w, i32_w]
                rfl
              refine pure_ (i := 2) (N := some 122) (v := ?_) (a' := ?_) #[true, true, true, false, false, false, false, false, false, false, false, false, false] rfl rfl (any_of HT_.out (by kernel_rfl)) (fun _ _ _ h => nomatch h.1) (Or.inl ⟨by rfl, ?_⟩) ?_ ?_
              rotate_left
              · intro w'
                go_simp
                with_reducible rfl
              rotate_left
              · simp only [Act.put, List.setIfInBounds_toArray, List.set_cons_zero, List.set_cons_succ, i64_w, i32_w]
                rfl
              refine pure_ (i := 6) (N := some 126) (v := ?_) (a' := ?_) #[true, true, true, false, false, false, true, false, false, false, false, false, false] rfl rfl (any_of HT_.out (by kernel_rfl)) (fun _ _ _ h => nomatch h.1) (Or.inl ⟨by rfl, ?_⟩) ?_ ?_
              rotate_left
              · intro w'
                go_simp
                with_reducible rfl
              rotate_left
              · simp only [Act.put, List.setIfInBounds_toArray, List.set_cons_zero, List.set_cons_succ, i64_w, i32_w]
                rfl
              refine pure_ (i := 7) (N := some 127) (v := ?_) (a' := ?_) #[true, true, true, false, false, false, true, true, false, false, false, false, false] rfl rfl (any_of HT_.out (by kernel_rfl)) (fun _ _ _ h => nomatch h.1) (Or.inl ⟨by rfl, ?_⟩) ?_ ?_
              rotate_left
              · intro w'
                go_simp
                with_reducible rfl
              rotate_left
              · simp only [Act.put, List.setIfInBounds_toArray, List.set_cons_zero, List.set_cons_succ, i64_w, i32_w]
                rfl
              refine take_ (i := 3) (N := some 123) (v := ?_) (a' := ?_) #[true, true, true, true, false, false, true, true, false, false, false, false, false] rfl rfl (take_ofW HT_.out HW_.out (by kernel_rfl)) (fun _ _ _ h => nomatch h.1) (Or.inl ⟨by rfl, ?_⟩) hHeld ?_ ?_
              rotate_left
              · rintro w' ⟨s0, s1⟩
                go_simp
                with_reducible rfl
              rotate_left
              · simp only [Act.put, List.setIfInBounds_toArray, List.set_cons_zero, List.set_cons_succ, i64_w, i32_w]
                rfl
              refine take_ (i := 8) (N := some 128) (v := ?_) (a' := ?_) #[true, true, true, true, false, false, true, true, true, false, false, false, false] rfl rfl (take_ofW HT_.out HW_.out (by kernel_rfl)) (fun _ _ _ h => nomatch h.1) (Or.inl ⟨by rfl, ?_⟩) hHeld ?_ ?_
              rotate_left
              · rintro w' ⟨s0, s1⟩
                go_simp
                with_reducible rfl
              rotate_left
              · simp only [Act.put, List.setIfInBounds_toArray, List.set_cons_zero, List.set_cons_succ, i64_w, i32_w]
                rfl
              refine pure_ (i := 9) (N := some 129) (v := ?_) (a' := ?_) #[true, true, true, true, false, false, true, true, true, true, false, false, false] rfl rfl (any_of HT_.out (by kernel_rfl)) (fun _ _ _ h => nomatch h.1) (Or.inl ⟨by rfl, ?_⟩) ?_ ?_
              rotate_left
              · intro w'
                go_simp
                with_reducible rfl
              rotate_left
              · simp only [Act.put, List.setIfInBounds_toArray, List.set_cons_zero, List.set_cons_succ, i64_w, i32_w]
                rfl
              refine one_ (i := 4) (N := some 124) #[true, true, true, true, true, false, true, true, true, true, false, false, false] rfl rfl (one_of HT_.out (by kernel_rfl)) (by decide) (fun K hK => ?_)
              refine goes_ Tryz.func22 (by kernel_rfl) rfl #[.string y27_.metric] (by rfl) rfl rfl (by simp only [List.map_toArray, List.map_cons, List.map_nil]; rfl) ?_
              with_reducible refine (rTextG_calls y27_.metric GY27.out.1 _).mono ?_
              rintro e W28 ⟨⟨s28, rfl, hs⟩, hb⟩
              refine ⟨_, rfl, ?_⟩
              have HS28 := Aside0.mk hs
              have LS28 := Aside0.mk (show (textB y27_.metric).length ≤ 10011 from textB_len GY27.out.1)
              clear hs
              have n_v := Aside0.mk (blk_below BK_v.out hb)
              have n_e := Aside0.mk (blk_below BK_e.out hb)
              have n_HB := Aside0.mk (HB.out.trans (hb.mono HB.out.size))
              clear HB hb BK_v BK_e
              have BK_v := n_v
              have BK_e := n_e
              have HB := n_HB
              clear n_HB n_v n_e
              obtain ⟨hc29, hs⟩ := cat_pre c27 s28 HS27.out HS28.out (by have := LS27.out; have := LS28.out; omega)
              (try simp only [ByteArray.size_append] at hc29)
              have HS29 := Aside0.mk hs
              have LS29 := Aside0.mk (show ((P27 ++ (x.cells.take j27).flatMap bCel) ++ (textB y27_.metric)).length ≤ 100000010011 from (by rw [List.length_append]; have := LS27.out; have := LS28.out; omega))
              clear hs
              refine hK.out _ _ ⟨((blk_cell BK_e.out 0).trans rfl), ((blk_cell BK_e.out 1).trans rfl)⟩ (fun hHeld => ?_)
              clear hK K
              refine norm_ (a' := ?_) ?_ ?_
              rotate_left
              · show Act.put _ (some 124) _ = _
                simp only [Act.put, List.setIfInBounds_toArray, List.set_cons_zero, List.set_cons_succ, i64_w, i32_w]
                rfl
              refine pure_ (i := 5) (N := some 125) (v := ?_) (a' := ?_) #[true, true, true, true, true, true, true, true, true, true, false, false, false] rfl rfl (any_of HT_.out (by kernel_rfl)) (fun _ _ _ h => nomatch h.1) (Or.inl ⟨by rfl, ?_⟩) ?_ ?_
              rotate_left
              · intro w'
                go_simp
                with_reducible rfl
              rotate_left
              · simp only [Act.put, List.setIfInBounds_toArray, List.set_cons_zero, List.set_cons_succ, i64_w, i32_w]
                rfl
              refine one_ (i := 10) (N := some 130) #[true, true, true, true, true, true, true, true, true, true, true, false, false] rfl rfl (one_of HT_.out (by kernel_rfl)) (by decide) (fun K hK => ?_)
              refine goes_ Tryz.func23 (by kernel_rfl) rfl #[.int .i64 (y27_.labels.length : Int)] (by rfl) rfl rfl (by simp only [List.map_toArray, List.map_cons, List.map_nil]; rfl) ?_
              with_reducible refine (rUpG_calls (y27_.labels.length : Int) (gList_up GY27.out.2.1) _).mono ?_
              rintro e W30 ⟨⟨s30, rfl, hs⟩, hb⟩
              refine ⟨_, rfl, ?_⟩
              have HS30 := Aside0.mk hs
              have LS30 := Aside0.mk (show (upB (y27_.labels.length : Int)).length ≤ 11 from upB_len' (gList_up GY27.out.2.1))
              clear hs
              have n_v := Aside0.mk (blk_below BK_v.out hb)
              have n_e := Aside0.mk (blk_below BK_e.out hb)
              have n_HB := Aside0.mk (HB.out.trans (hb.mono HB.out.size))
              clear HB hb BK_v BK_e
              have BK_v := n_v
              have BK_e := n_e
              have HB := n_HB
              clear n_HB n_v n_e
              obtain ⟨hc31, hs⟩ := cat_pre (c27 ++ s28) s30 HS29.out HS30.out (by have := LS29.out; have := LS30.out; omega)
              (try simp only [ByteArray.size_append] at hc31)
              have HS31 := Aside0.mk hs
              have LS31 := Aside0.mk (show (((P27 ++ (x.cells.take j27).flatMap bCel) ++ (textB y27_.metric)) ++ (upB (y27_.labels.length : Int))).length ≤ 100000010022 from (by rw [List.length_append]; have := LS29.out; have := LS30.out; omega))
              clear hs
              refine hK.out _ _ ⟨((blk_cell BK_e.out 0).trans rfl), ((blk_cell BK_e.out 1).trans rfl)⟩ (fun hHeld => ?_)
              clear hK K
              refine norm_ (a' := ?_) ?_ ?_
              rotate_left
              · show Act.put _ (some 130) _ = _
                simp only [Act.put, List.setIfInBounds_toArray, List.set_cons_zero, List.set_cons_succ, i64_w, i32_w]
                rfl
              refine pure_ (i := 11) (N := some 131) (v := ?_) (a' := ?_) #[true, true, true, true, true, true, true, true, true, true, true, true, false] rfl rfl (any_of HT_.out (by kernel_rfl)) (fun _ _ _ h => nomatch h.1) (Or.inl ⟨by rfl, ?_⟩) ?_ ?_
              rotate_left
              · intro w'
                go_simp
                with_reducible rfl
              rotate_left
              · simp only [Act.put, List.setIfInBounds_toArray, List.set_cons_zero, List.set_cons_succ, i64_w, i32_w]
                rfl
              refine pure_ (i := 12) (N := some 3) (v := ?_) (a' := ?_) #[true, true, true, true, true, true, true, true, true, true, true, true, true] rfl rfl (any_of HT_.out (by kernel_rfl)) (fun _ _ _ h => nomatch h.1) (Or.inl ⟨by rfl, ?_⟩) ?_ ?_
              rotate_left
              · intro w'
                go_simp
                with_reducible rfl
              rotate_left
              · simp only [Act.put, List.setIfInBounds_toArray, List.set_cons_zero, List.set_cons_succ, i64_w, i32_w]
                rfl
              refine done_ (done_of HT_.out (by kernel_rfl)) ?_
              refine ⟨rfl, ?_⟩
              clear hHeld HT_ HW_
              clear hc31
              generalize ((c27 ++ s28) ++ s30) = c31 at HS31 ⊢
              have y0 := (blk_cell BK_e.out 1).trans rfl
              go_wp2_with fail
              clear y0
              obtain ⟨P32, hP32⟩ : ∃ P, P = ((P27 ++ (x.cells.take j27).flatMap bCel) ++ (textB y27_.metric)) ++ (upB (y27_.labels.length : Int)) := ⟨_, rfl⟩
              have HP32 := Aside0.mk hP32
              rw [← hP32] at HS31
              clear hP32
              have HLT32 := Aside0.mk (show (P32 ++ y27_.labels.flatMap bLab).length ≤ 100030074188 by rw [HP32.out]; have := LS31.out; have := HLY27.out; simp only [bCel, listB] at this; simp only [List.length_append] at *; omega)
              go_loopw [3, 11, 136] (fun v3 v11 v136 wr => ∃ (j32 : Nat) (c : ByteArray), j32 ≤ y27_.labels.length ∧ v136 = .int .i64 j32 ∧ v3 = .string c ∧ bytesOf c = P32 ++ (y27_.labels.take j32).flatMap bLab ∧ Below w.heap.size w wr ∧ wr.heap[w.heap.size]? = some (.cells CA 61 (0, 0)) ∧ wr.heap[M27]? = some (.cells #[.string y27_.metric, .slice Al27 y27_.labels.length cl27, .int .i64 y27_.policy, .int .i64 y27_.start, .int .i64 y27_.rev, .bool y27_.dirty, .int .i64 y27_.vat.kind, .int .i64 y27_.vat.many, .int .i64 y27_.vat.high, .int .i64 y27_.vat.low, .int .i64 y27_.vat.last, .int .i64 y27_.vat.time, .int .i64 y27_.vat.seq, .string y27_.vat.source, .slice Av27 y27_.vat.samples.length cv27, .slice Am27 y27_.vat.members.length cm27] 96 (0, 0))) (fun v3 v11 v136 _ => y27_.labels.length - (intOf v136).toNat)
              case atStart => exact ⟨0, _, Nat.zero_le _, rfl, rfl, by rw [HS31.out]; simp, HB.out, BK_v.out, BK_e.out⟩
              case round =>
                clear HS31 HB BK_v BK_e
                obtain ⟨j32, c32, hj32, rfl, rfl, hs, hb, k_v, k_e⟩ := hrel
                have HS32 := Aside0.mk hs
                have HB := Aside0.mk hb
                have BK_v := Aside0.mk k_v
                have BK_e := Aside0.mk k_e
                clear hs hb k_v k_e
                by_cases hlt : j32 < y27_.labels.length
                · skip
                  have hE := Kd.C_get CL27.out zLab (j32 : Int) (by omega) (by omega)
                  rw [Int.toNat_natCast, show y27_.labels.getD j32 zLab = y27_.labels[j32] by rw [List.getD_eq_getElem?_getD, List.getElem?_eq_getElem hlt]; rfl] at hE
                  have HTK32 := Aside0.mk (show y27_.labels.take (j32 + 1) = y27_.labels.take j32 ++ [y27_.labels[j32]] from List.take_succ_eq_append_getElem hlt)
                  have gy := (gList_mem GY27.out.2.1) y27_.labels[j32] (List.getElem_mem hlt)
                  generalize y27_.labels[j32] = y32_ at hE HTK32 gy
                  have HLY32 := Aside0.mk (bLab_len _ gy)
                  unfold gLab at gy
                  have GY32 := Aside0.mk gy
                  clear gy
                  obtain ⟨ad32, cs, rfl, _, hK, hcell⟩ := hE
                  have hcs := kLab_open hK
                  subst hcs
                  clear hK
                  have hw32_0 := Aside0.mk (show w.cell? (ad32.add (j32 * 2)) = some (.string y32_.name) from hcell 0 _ rfl)
                  have hw32_1 := Aside0.mk (show w.cell? ⟨(ad32.add (j32 * 2)).block, (ad32.add (j32 * 2)).off + 1, none⟩ = some (.string y32_.value) by rw [← add_field _ _ 1 (by omega)]; exact hcell 1 _ rfl)
                  clear hcell
                  have LS32 := Aside0.mk (loop_len bLab y27_.labels P32 HTK32.out HLT32.out)
                  have hj32_0 : 0 ≤ (j32 : Int) := by omega
                  go_upto_region 29 with fail
                  have n_v := Aside0.mk (blk_drew BK_v.out)
                  have n_e := Aside0.mk (blk_drew BK_e.out)
                  have n_HB := Aside0.mk (below_drew1 HB.out)
                  clear HB BK_v BK_e
                  have BK_v := n_v
                  have BK_e := n_e
                  have HB := n_HB
                  clear n_HB n_v n_e
                  refine wp_mono (Q := fun e a w => e = .normal ∧ _) ?_ (fun e a w h => h.2)
                  refine start_ (n := 20) (S := fun w' => w'.cell? ⟨M27, 1, none⟩ = some (.slice (some ad32) y27_.labels.length cl27) ∧ w'.cell? (ad32.add (j32 * 2)) = some (.string y32_.name) ∧ w'.cell? ⟨(ad32.add (j32 * 2)).block, (ad32.add (j32 * 2)).off + 1, none⟩ = some (.string y32_.value)) (ds := []) #[false, false, false, false, false, false, false, false, false, false, false, false, false, false, false, false, false, false, false, false] (by kernel_rfl) rfl rfl ⟨((blk_cell BK_e.out 1).trans rfl), ((HB.out.cell (World.block_lt_of_cell? _ _ hw32_0.out)).trans hw32_0.out), ((HB.out.cell (World.block_lt_of_cell? _ _ hw32_1.out)).trans hw32_1.out)⟩ (fun hHeld => ?_)
                  refine with_tabW r9.tab29 r9.bits29 (fun HT_ HW_ => ?_)
                  refine pure_ (i := 0) (N := some 139) (v := ?_) (a' := ?_) #[true, false, false, false, false, false, false, false, false, false, false, false, false, false, false, false, false, false, false, false] rfl rfl (any_of HT_.out (by kernel_rfl)) (fun _ _ _ h => nomatch h.1) (Or.inl ⟨by rfl, ?_⟩) ?_ ?_
                  rotate_left
                  · intro w'
                    go_simp
                    with_reducible rfl
                  rotate_left
                  · simp only [Act.put, List.setIfInBounds_toArray, List.set_cons_zero, List.set_cons_succ, i64_w, i32_w]
                    rfl
                  refine pure_ (i := 1) (N := some 140) (v := ?_) (a' := ?_) #[true, true, false, false, false, false, false, false, false, false, false, false, false, false, false, false, false, false, false, false] rfl rfl (any_of HT_.out (by kernel_rfl)) (fun _ _ _ h => nomatch h.1) (Or.inl ⟨by rfl, ?_⟩) ?_ ?_
                  rotate_left
                  · intro w'
                    go_simp
                    with_reducible rfl
                  rotate_left
                  · simp only [Act.put, List.setIfInBounds_toArray, List.set_cons_zero, List.set_cons_succ, i64_w, i32_w]
                    rfl
                  refine pure_ (i := 2) (N := some 141) (v := ?_) (a' := ?_) #[true, true, true, false, false, false, false, false, false, false, false, false, false, false, false, false, false, false, false, false] rfl rfl (any_of HT_.out (by kernel_rfl)) (fun _ _ _ h => nomatch h.1) (Or.inl ⟨by rfl, ?_⟩) ?_ ?_
                  rotate_left
                  · intro w'
                    go_simp
                    with_reducible rfl
                  rotate_left
                  · simp only [Act.put, List.setIfInBounds_toArray, List.set_cons_zero, List.set_cons_succ, i64_w, i32_w]
                    rfl
                  refine pure_ (i := 4) (N := some 143) (v := ?_) (a' := ?_) #[true, true, true, false, true, false, false, false, false, false, false, false, false, false, false, false, false, false, false, false] rfl rfl (any_of HT_.out (by kernel_rfl)) (fun _ _ _ h => nomatch h.1) (Or.inl ⟨by rfl, ?_⟩) ?_ ?_
                  rotate_left
                  · intro w'
                    go_simp
                    with_reducible rfl
                  rotate_left
                  · simp only [Act.put, List.setIfInBounds_toArray, List.set_cons_zero, List.set_cons_succ, i64_w, i32_w]
                    rfl
                  refine pure_ (i := 10) (N := some 149) (v := ?_) (a' := ?_) #[true, true, true, false, true, false, false, false, false, false, true, false, false, false, false, false, false, false, false, false] rfl rfl (any_of HT_.out (by kernel_rfl)) (fun _ _ _ h => nomatch h.1) (Or.inl ⟨by rfl, ?_⟩) ?_ ?_
                  rotate_left
                  · intro w'
                    go_simp
                    with_reducible rfl
                  rotate_left
                  · simp only [Act.put, List.setIfInBounds_toArray, List.set_cons_zero, List.set_cons_succ, i64_w, i32_w]
                    rfl
                  refine pure_ (i := 11) (N := some 150) (v := ?_) (a' := ?_) #[true, true, true, false, true, false, false, false, false, false, true, true, false, false, false, false, false, false, false, false] rfl rfl (any_of HT_.out (by kernel_rfl)) (fun _ _ _ h => nomatch h.1) (Or.inl ⟨by rfl, ?_⟩) ?_ ?_
                  rotate_left
                  · intro w'
                    go_simp
                    with_reducible rfl
                  rotate_left
                  · simp only [Act.put, List.setIfInBounds_toArray, List.set_cons_zero, List.set_cons_succ, i64_w, i32_w]
                    rfl
                  refine pure_ (i := 13) (N := some 152) (v := ?_) (a' := ?_) #[true, true, true, false, true, false, false, false, false, false, true, true, false, true, false, false, false, false, false, false] rfl rfl (any_of HT_.out (by kernel_rfl)) (fun _ _ _ h => nomatch h.1) (Or.inl ⟨by rfl, ?_⟩) ?_ ?_
                  rotate_left
                  · intro w'
                    go_simp
                    with_reducible rfl
                  rotate_left
                  · simp only [Act.put, List.setIfInBounds_toArray, List.set_cons_zero, List.set_cons_succ, i64_w, i32_w]
                    rfl
                  refine take_ (i := 3) (N := some 142) (v := ?_) (a' := ?_) #[true, true, true, true, true, false, false, false, false, false, true, true, false, true, false, false, false, false, false, false] rfl rfl (take_ofW HT_.out HW_.out (by kernel_rfl)) (fun _ _ _ h => nomatch h.1) (Or.inl ⟨by rfl, ?_⟩) hHeld ?_ ?_
                  rotate_left
                  · rintro w' ⟨s0, s1, s2⟩
                    go_simp
                    with_reducible rfl
                  rotate_left
                  · simp only [Act.put, List.setIfInBounds_toArray, List.set_cons_zero, List.set_cons_succ, i64_w, i32_w]
                    rfl
                  refine pure_ (i := 5) (N := some 144) (v := ?_) (a' := ?_) #[true, true, true, true, true, true, false, false, false, false, true, true, false, true, false, false, false, false, false, false] rfl rfl (any_of HT_.out (by kernel_rfl)) (fun _ _ _ h => nomatch h.1) (Or.inl ⟨by rfl, ?_⟩) ?_ ?_
                  rotate_left
                  · intro w'
                    go_simp
                    with_reducible rfl
                  rotate_left
                  · simp only [Act.put, List.setIfInBounds_toArray, List.set_cons_zero, List.set_cons_succ, i64_w, i32_w]
                    rfl
                  refine pure_ (i := 6) (N := some 145) (v := ?_) (a' := ?_) #[true, true, true, true, true, true, true, false, false, false, true, true, false, true, false, false, false, false, false, false] rfl rfl (any_of HT_.out (by kernel_rfl)) (fun _ _ _ h => nomatch h.1) (Or.inl ⟨by rfl, ?_⟩) ?_ ?_
                  rotate_left
                  · intro w'
                    go_simp
                    with_reducible rfl
                  rotate_left
                  · simp only [Act.put, List.setIfInBounds_toArray, List.set_cons_zero, List.set_cons_succ, i64_w, i32_w]
                    rfl
                  refine take_ (i := 7) (N := some 146) (v := ?_) (a' := ?_) #[true, true, true, true, true, true, true, true, false, false, true, true, false, true, false, false, false, false, false, false] rfl rfl (take_ofW HT_.out HW_.out (by kernel_rfl)) (fun _ _ _ h => nomatch h.1) (Or.inl ⟨by rfl, ?_⟩) hHeld ?_ ?_
                  rotate_left
                  · rintro w' ⟨s0, s1, s2⟩
                    go_simp
                    with_reducible rfl
                  rotate_left
                  · simp only [Act.put, List.setIfInBounds_toArray, List.set_cons_zero, List.set_cons_succ, i64_w, i32_w]
                    rfl
                  refine take_ (i := 12) (N := some 151) (v := ?_) (a' := ?_) #[true, true, true, true, true, true, true, true, false, false, true, true, true, true, false, false, false, false, false, false] rfl rfl (take_ofW HT_.out HW_.out (by kernel_rfl)) (fun _ _ _ h => nomatch h.1) (Or.inl ⟨by rfl, ?_⟩) hHeld ?_ ?_
                  rotate_left
                  · rintro w' ⟨s0, s1, s2⟩
                    go_simp
                    with_reducible rfl
                  rotate_left
                  · simp only [Act.put, List.setIfInBounds_toArray, List.set_cons_zero, List.set_cons_succ, i64_w, i32_w]
                    rfl
                  refine pure_ (i := 14) (N := some 153) (v := ?_) (a' := ?_) #[true, true, true, true, true, true, true, true, false, false, true, true, true, true, true, false, false, false, false, false] rfl rfl (any_of HT_.out (by kernel_rfl)) (fun _ _ _ h => nomatch h.1) (Or.inl ⟨by rfl, ?_⟩) ?_ ?_
                  rotate_left
                  · intro w'
                    go_simp
                    with_reducible rfl
                  rotate_left
                  · simp only [Act.put, List.setIfInBounds_toArray, List.set_cons_zero, List.set_cons_succ, i64_w, i32_w]
                    rfl
                  refine pure_ (i := 15) (N := some 154) (v := ?_) (a' := ?_) #[true, true, true, true, true, true, true, true, false, false, true, true, true, true, true, true, false, false, false, false] rfl rfl (any_of HT_.out (by kernel_rfl)) (fun _ _ _ h => nomatch h.1) (Or.inl ⟨by rfl, ?_⟩) ?_ ?_
                  rotate_left
                  · intro w'
                    go_simp
                    with_reducible rfl
                  rotate_left
                  · simp only [Act.put, List.setIfInBounds_toArray, List.set_cons_zero, List.set_cons_succ, i64_w, i32_w]
                    rfl
                  refine take_ (i := 16) (N := some 155) (v := ?_) (a' := ?_) #[true, true, true, true, true, true, true, true, false, false, true, true, true, true, true, true, true, false, false, false] rfl rfl (take_ofW HT_.out HW_.out (by kernel_rfl)) (fun _ _ _ h => nomatch h.1) (Or.inl ⟨by rfl, ?_⟩) hHeld ?_ ?_
                  rotate_left
                  · rintro w' ⟨s0, s1, s2⟩
                    go_simp
                    with_reducible rfl
                  rotate_left
                  · simp only [Act.put, List.setIfInBounds_toArray, List.set_cons_zero, List.set_cons_succ, i64_w, i32_w]
                    rfl
                  refine one_ (i := 8) (N := some 147) #[true, true, true, true, true, true, true, true, true, false, true, true, true, true, true, true, true, false, false, false] rfl rfl (one_of HT_.out (by kernel_rfl)) (by decide) (fun K hK => ?_)
                  refine goes_ Tryz.func22 (by kernel_rfl) rfl #[.string y32_.name] (by rfl) rfl rfl (by simp only [List.map_toArray, List.map_cons, List.map_nil]; rfl) ?_
                  with_reducible refine (rTextG_calls y32_.name GY32.out.1 _).mono ?_
                  rintro e W33 ⟨⟨s33, rfl, hs⟩, hb⟩
                  refine ⟨_, rfl, ?_⟩
                  have HS33 := Aside0.mk hs
                  have LS33 := Aside0.mk (show (textB y32_.name).length ≤ 10011 from textB_len GY32.out.1)
                  clear hs
                  have n_v := Aside0.mk (blk_below BK_v.out hb)
                  have n_e := Aside0.mk (blk_below BK_e.out hb)
                  have n_HB := Aside0.mk (HB.out.trans (hb.mono HB.out.size))
                  clear HB hb BK_v BK_e
                  have BK_v := n_v
                  have BK_e := n_e
                  have HB := n_HB
                  clear n_HB n_v n_e
                  obtain ⟨hc34, hs⟩ := cat_pre c32 s33 HS32.out HS33.out (by have := LS32.out; have := LS33.out; omega)
                  (try simp only [ByteArray.size_append] at hc34)
                  have HS34 := Aside0.mk hs
                  have LS34 := Aside0.mk (show ((P32 ++ (y27_.labels.take j32).flatMap bLab) ++ (textB y32_.name)).length ≤ 100030084199 from (by rw [List.length_append]; have := LS32.out; have := LS33.out; omega))
                  clear hs
                  refine hK.out _ _ ⟨((blk_cell BK_e.out 1).trans rfl), ((HB.out.cell (World.block_lt_of_cell? _ _ hw32_0.out)).trans hw32_0.out), ((HB.out.cell (World.block_lt_of_cell? _ _ hw32_1.out)).trans hw32_1.out)⟩ (fun hHeld => ?_)
                  clear hK K
                  refine norm_ (a' := ?_) ?_ ?_
                  rotate_left
                  · show Act.put _ (some 147) _ = _
                    simp only [Act.put, List.setIfInBounds_toArray, List.set_cons_zero, List.set_cons_succ, i64_w, i32_w]
                    rfl
                  refine pure_ (i := 9) (N := some 148) (v := ?_) (a' := ?_) #[true, true, true, true, true, true, true, true, true, true, true, true, true, true, true, true, true, false, false, false] rfl rfl (any_of HT_.out (by kernel_rfl)) (fun _ _ _ h => nomatch h.1) (Or.inl ⟨by rfl, ?_⟩) ?_ ?_
                  rotate_left
                  · intro w'
                    go_simp
                    with_reducible rfl
                  rotate_left
                  · simp only [Act.put, List.setIfInBounds_toArray, List.set_cons_zero, List.set_cons_succ, i64_w, i32_w]
                    rfl
                  refine one_ (i := 17) (N := some 156) #[true, true, true, true, true, true, true, true, true, true, true, true, true, true, true, true, true, true, false, false] rfl rfl (one_of HT_.out (by kernel_rfl)) (by decide) (fun K hK => ?_)
                  refine goes_ Tryz.func22 (by kernel_rfl) rfl #[.string y32_.value] (by rfl) rfl rfl (by simp only [List.map_toArray, List.map_cons, List.map_nil]; rfl) ?_
                  with_reducible refine (rTextG_calls y32_.value GY32.out.2 _).mono ?_
                  rintro e W35 ⟨⟨s35, rfl, hs⟩, hb⟩
                  refine ⟨_, rfl, ?_⟩
                  have HS35 := Aside0.mk hs
                  have LS35 := Aside0.mk (show (textB y32_.value).length ≤ 10011 from textB_len GY32.out.2)
                  clear hs
                  have n_v := Aside0.mk (blk_below BK_v.out hb)
                  have n_e := Aside0.mk (blk_below BK_e.out hb)
                  have n_HB := Aside0.mk (HB.out.trans (hb.mono HB.out.size))
                  clear HB hb BK_v BK_e
                  have BK_v := n_v
                  have BK_e := n_e
                  have HB := n_HB
                  clear n_HB n_v n_e
                  obtain ⟨hc36, hs⟩ := cat_pre (c32 ++ s33) s35 HS34.out HS35.out (by have := LS34.out; have := LS35.out; omega)
                  (try simp only [ByteArray.size_append] at hc36)
                  have HS36 := Aside0.mk hs
                  have LS36 := Aside0.mk (show (((P32 ++ (y27_.labels.take j32).flatMap bLab) ++ (textB y32_.name)) ++ (textB y32_.value)).length ≤ 100030094210 from (by rw [List.length_append]; have := LS34.out; have := LS35.out; omega))
                  clear hs
                  refine hK.out _ _ ⟨((blk_cell BK_e.out 1).trans rfl), ((HB.out.cell (World.block_lt_of_cell? _ _ hw32_0.out)).trans hw32_0.out), ((HB.out.cell (World.block_lt_of_cell? _ _ hw32_1.out)).trans hw32_1.out)⟩ (fun hHeld => ?_)
                  clear hK K
                  refine norm_ (a' := ?_) ?_ ?_
                  rotate_left
                  · show Act.put _ (some 156) _ = _
                    simp only [Act.put, List.setIfInBounds_toArray, List.set_cons_zero, List.set_cons_succ, i64_w, i32_w]
                    rfl
                  refine pure_ (i := 18) (N := some 157) (v := ?_) (a' := ?_) #[true, true, true, true, true, true, true, true, true, true, true, true, true, true, true, true, true, true, true, false] rfl rfl (any_of HT_.out (by kernel_rfl)) (fun _ _ _ h => nomatch h.1) (Or.inl ⟨by rfl, ?_⟩) ?_ ?_
                  rotate_left
                  · intro w'
                    go_simp
                    with_reducible rfl
                  rotate_left
                  · simp only [Act.put, List.setIfInBounds_toArray, List.set_cons_zero, List.set_cons_succ, i64_w, i32_w]
                    rfl
                  refine pure_ (i := 19) (N := some 3) (v := ?_) (a' := ?_) #[true, true, true, true, true, true, true, true, true, true, true, true, true, true, true, true, true, true, true, true] rfl rfl (any_of HT_.out (by kernel_rfl)) (fun _ _ _ h => nomatch h.1) (Or.inl ⟨by rfl, ?_⟩) ?_ ?_
                  rotate_left
                  · intro w'
                    go_simp
                    with_reducible rfl
                  rotate_left
                  · simp only [Act.put, List.setIfInBounds_toArray, List.set_cons_zero, List.set_cons_succ, i64_w, i32_w]
                    rfl
                  refine done_ (done_of HT_.out (by kernel_rfl)) ?_
                  refine ⟨rfl, ?_⟩
                  clear hHeld HT_ HW_
                  clear hc36
                  generalize ((c32 ++ s33) ++ s35) = c36 at HS36 ⊢
                  go_wp2
                  go_roundw
                  case rel => exact ⟨j32 + 1, _, by omega, by simp, rfl, by rw [HS36.out, HTK32.out]; simp [listB, bSrc, bSen, bCel, bLab, bEmi, List.append_assoc], HB.out, BK_v.out, BK_e.out⟩
                  case measure => simp [intOf]; omega
                · skip
                  obtain rfl : j32 = y27_.labels.length := by omega
                  clear hj32 hlt
                  rw [List.take_length] at HS32
                  have LS32 := HLT32
                  rw [HP32.out] at HS32 LS32
                  clear HP32 HLT32
                  go_upto_region 31 with fail
                  have n_v := Aside0.mk (blk_drew BK_v.out)
                  have n_e := Aside0.mk (blk_drew BK_e.out)
                  have n_HB := Aside0.mk (below_drew1 HB.out)
                  clear HB BK_v BK_e
                  have BK_v := n_v
                  have BK_e := n_e
                  have HB := n_HB
                  clear n_HB n_v n_e
                  refine wp_mono (Q := fun e a w => e = .normal ∧ _) ?_ (fun e a w h => h.2)
                  refine start_ (n := 22) (S := fun w' => w'.cell? ⟨M27, 2, none⟩ = some (.int .i64 y27_.policy) ∧ w'.cell? ⟨M27, 3, none⟩ = some (.int .i64 y27_.start) ∧ w'.cell? ⟨M27, 4, none⟩ = some (.int .i64 y27_.rev) ∧ w'.cell? ⟨M27, 5, none⟩ = some (.bool y27_.dirty) ∧ w'.cell? ⟨M27, 6, none⟩ = some (.int .i64 y27_.vat.kind) ∧ w'.cell? ⟨M27, 7, none⟩ = some (.int .i64 y27_.vat.many) ∧ w'.cell? ⟨M27, 8, none⟩ = some (.int .i64 y27_.vat.high) ∧ w'.cell? ⟨M27, 9, none⟩ = some (.int .i64 y27_.vat.low) ∧ w'.cell? ⟨M27, 10, none⟩ = some (.int .i64 y27_.vat.last) ∧ w'.cell? ⟨M27, 11, none⟩ = some (.int .i64 y27_.vat.time) ∧ w'.cell? ⟨M27, 12, none⟩ = some (.int .i64 y27_.vat.seq) ∧ w'.cell? ⟨M27, 13, none⟩ = some (.string y27_.vat.source) ∧ w'.cell? ⟨M27, 14, none⟩ = some (.slice Av27 y27_.vat.samples.length cv27) ∧ w'.cell? ⟨M27, 15, none⟩ = some (.slice Am27 y27_.vat.members.length cm27)) (ds := []) #[false, false, false, false, false, false, false, false, false, false, false, false, false, false, false, false, false, false, false, false, false, false] (by kernel_rfl) rfl rfl ⟨((blk_cell BK_e.out 2).trans rfl), ((blk_cell BK_e.out 3).trans rfl), ((blk_cell BK_e.out 4).trans rfl), ((blk_cell BK_e.out 5).trans rfl), ((blk_cell BK_e.out 6).trans rfl), ((blk_cell BK_e.out 7).trans rfl), ((blk_cell BK_e.out 8).trans rfl), ((blk_cell BK_e.out 9).trans rfl), ((blk_cell BK_e.out 10).trans rfl), ((blk_cell BK_e.out 11).trans rfl), ((blk_cell BK_e.out 12).trans rfl), ((blk_cell BK_e.out 13).trans rfl), ((blk_cell BK_e.out 14).trans rfl), ((blk_cell BK_e.out 15).trans rfl)⟩ (fun hHeld => ?_)
                  refine with_tabW r9.tab31 r9.bits31 (fun HT_ HW_ => ?_)
                  refine pure_ (i := 0) (N := some 159) (v := ?_) (a' := ?_) #[true, false, false, false, false, false, false, false, false, false, false, false, false, false, false, false, false, false, false, false, false, false] rfl rfl (any_of HT_.out (by kernel_rfl)) (fun _ _ _ h => nomatch h.1) (Or.inl ⟨by rfl, ?_⟩) ?_ ?_
                  rotate_left
                  · intro w'
                    go_simp
                    with_reducible rfl
                  rotate_left
                  · simp only [Act.put, List.setIfInBounds_toArray, List.set_cons_zero, List.set_cons_succ, i64_w, i32_w]
                    rfl
                  refine pure_ (i := 1) (N := some 160) (v := ?_) (a' := ?_) #[true, true, false, false, false, false, false, false, false, false, false, false, false, false, false, false, false, false, false, false, false, false] rfl rfl (any_of HT_.out (by kernel_rfl)) (fun _ _ _ h => nomatch h.1) (Or.inl ⟨by rfl, ?_⟩) ?_ ?_
                  rotate_left
                  · intro w'
                    go_simp
                    with_reducible rfl
                  rotate_left
                  · simp only [Act.put, List.setIfInBounds_toArray, List.set_cons_zero, List.set_cons_succ, i64_w, i32_w]
                    rfl
                  refine pure_ (i := 5) (N := some 164) (v := ?_) (a' := ?_) #[true, true, false, false, false, true, false, false, false, false, false, false, false, false, false, false, false, false, false, false, false, false] rfl rfl (any_of HT_.out (by kernel_rfl)) (fun _ _ _ h => nomatch h.1) (Or.inl ⟨by rfl, ?_⟩) ?_ ?_
                  rotate_left
                  · intro w'
                    go_simp
                    with_reducible rfl
                  rotate_left
                  · simp only [Act.put, List.setIfInBounds_toArray, List.set_cons_zero, List.set_cons_succ, i64_w, i32_w]
                    rfl
                  refine pure_ (i := 9) (N := some 168) (v := ?_) (a' := ?_) #[true, true, false, false, false, true, false, false, false, true, false, false, false, false, false, false, false, false, false, false, false, false] rfl rfl (any_of HT_.out (by kernel_rfl)) (fun _ _ _ h => nomatch h.1) (Or.inl ⟨by rfl, ?_⟩) ?_ ?_
                  rotate_left
                  · intro w'
                    go_simp
                    with_reducible rfl
                  rotate_left
                  · simp only [Act.put, List.setIfInBounds_toArray, List.set_cons_zero, List.set_cons_succ, i64_w, i32_w]
                    rfl
                  refine pure_ (i := 13) (N := some 172) (v := ?_) (a' := ?_) #[true, true, false, false, false, true, false, false, false, true, false, false, false, true, false, false, false, false, false, false, false, false] rfl rfl (any_of HT_.out (by kernel_rfl)) (fun _ _ _ h => nomatch h.1) (Or.inl ⟨by rfl, ?_⟩) ?_ ?_
                  rotate_left
                  · intro w'
                    go_simp
                    with_reducible rfl
                  rotate_left
                  · simp only [Act.put, List.setIfInBounds_toArray, List.set_cons_zero, List.set_cons_succ, i64_w, i32_w]
                    rfl
                  refine pure_ (i := 17) (N := some 176) (v := ?_) (a' := ?_) #[true, true, false, false, false, true, false, false, false, true, false, false, false, true, false, false, false, true, false, false, false, false] rfl rfl (any_of HT_.out (by kernel_rfl)) (fun _ _ _ h => nomatch h.1) (Or.inl ⟨by rfl, ?_⟩) ?_ ?_
                  rotate_left
                  · intro w'
                    go_simp
                    with_reducible rfl
                  rotate_left
                  · simp only [Act.put, List.setIfInBounds_toArray, List.set_cons_zero, List.set_cons_succ, i64_w, i32_w]
                    rfl
                  refine take_ (i := 2) (N := some 161) (v := ?_) (a' := ?_) #[true, true, true, false, false, true, false, false, false, true, false, false, false, true, false, false, false, true, false, false, false, false] rfl rfl (take_ofW HT_.out HW_.out (by kernel_rfl)) (fun _ _ _ h => nomatch h.1) (Or.inl ⟨by rfl, ?_⟩) hHeld ?_ ?_
                  rotate_left
                  · rintro w' ⟨s0, s1, s2, s3, s4, s5, s6, s7, s8, s9, s10, s11, s12, s13⟩
                    go_simp
                    with_reducible rfl
                  rotate_left
                  · simp only [Act.put, List.setIfInBounds_toArray, List.set_cons_zero, List.set_cons_succ, i64_w, i32_w]
                    rfl
                  refine take_ (i := 6) (N := some 165) (v := ?_) (a' := ?_) #[true, true, true, false, false, true, true, false, false, true, false, false, false, true, false, false, false, true, false, false, false, false] rfl rfl (take_ofW HT_.out HW_.out (by kernel_rfl)) (fun _ _ _ h => nomatch h.1) (Or.inl ⟨by rfl, ?_⟩) hHeld ?_ ?_
                  rotate_left
                  · rintro w' ⟨s0, s1, s2, s3, s4, s5, s6, s7, s8, s9, s10, s11, s12, s13⟩
                    go_simp
                    with_reducible rfl
                  rotate_left
                  · simp only [Act.put, List.setIfInBounds_toArray, List.set_cons_zero, List.set_cons_succ, i64_w, i32_w]
                    rfl
                  refine take_ (i := 10) (N := some 169) (v := ?_) (a' := ?_) #[true, true, true, false, false, true, true, false, false, true, true, false, false, true, false, false, false, true, false, false, false, false] rfl rfl (take_ofW HT_.out HW_.out (by kernel_rfl)) (fun _ _ _ h => nomatch h.1) (Or.inl ⟨by rfl, ?_⟩) hHeld ?_ ?_
                  rotate_left
                  · rintro w' ⟨s0, s1, s2, s3, s4, s5, s6, s7, s8, s9, s10, s11, s12, s13⟩
                    go_simp
                    with_reducible rfl
                  rotate_left
                  · simp only [Act.put, List.setIfInBounds_toArray, List.set_cons_zero, List.set_cons_succ, i64_w, i32_w]
                    rfl
                  refine take_ (i := 14) (N := some 173) (v := ?_) (a' := ?_) #[true, true, true, false, false, true, true, false, false, true, true, false, false, true, true, false, false, true, false, false, false, false] rfl rfl (take_ofW HT_.out HW_.out (by kernel_rfl)) (fun _ _ _ h => nomatch h.1) (Or.inl ⟨by rfl, ?_⟩) hHeld ?_ ?_
                  rotate_left
                  · rintro w' ⟨s0, s1, s2, s3, s4, s5, s6, s7, s8, s9, s10, s11, s12, s13⟩
                    go_simp
                    with_reducible rfl
                  rotate_left
                  · simp only [Act.put, List.setIfInBounds_toArray, List.set_cons_zero, List.set_cons_succ, i64_w, i32_w]
                    rfl
                  refine take_ (i := 18) (N := some 177) (v := ?_) (a' := ?_) #[true, true, true, false, false, true, true, false, false, true, true, false, false, true, true, false, false, true, true, false, false, false] rfl rfl (take_ofW HT_.out HW_.out (by kernel_rfl)) (fun _ _ _ h => nomatch h.1) (Or.inl ⟨by rfl, ?_⟩) hHeld ?_ ?_
                  rotate_left
                  · rintro w' ⟨s0, s1, s2, s3, s4, s5, s6, s7, s8, s9, s10, s11, s12, s13⟩
                    go_simp
                    with_reducible rfl
                  rotate_left
                  · simp only [Act.put, List.setIfInBounds_toArray, List.set_cons_zero, List.set_cons_succ, i64_w, i32_w]
                    rfl
                  refine one_ (i := 3) (N := some 162) #[true, true, true, true, false, true, true, false, false, true, true, false, false, true, true, false, false, true, true, false, false, false] rfl rfl (one_of HT_.out (by kernel_rfl)) (by decide) (fun K hK => ?_)
                  refine goes_ Tryz.func23 (by kernel_rfl) rfl #[.int .i64 y27_.policy] (by rfl) rfl rfl (by simp only [List.map_toArray, List.map_cons, List.map_nil]; rfl) ?_
                  with_reducible refine (rUpG_calls y27_.policy GY27.out.2.2.1 _).mono ?_
                  rintro e W37 ⟨⟨s37, rfl, hs⟩, hb⟩
                  refine ⟨_, rfl, ?_⟩
                  have HS37 := Aside0.mk hs
                  have LS37 := Aside0.mk (show (upB y27_.policy).length ≤ 11 from upB_len' GY27.out.2.2.1)
                  clear hs
                  have n_v := Aside0.mk (blk_below BK_v.out hb)
                  have n_e := Aside0.mk (blk_below BK_e.out hb)
                  have n_HB := Aside0.mk (HB.out.trans (hb.mono HB.out.size))
                  clear HB hb BK_v BK_e
                  have BK_v := n_v
                  have BK_e := n_e
                  have HB := n_HB
                  clear n_HB n_v n_e
                  obtain ⟨hc38, hs⟩ := cat_pre c32 s37 HS32.out HS37.out (by have := LS32.out; have := LS37.out; omega)
                  (try simp only [ByteArray.size_append] at hc38)
                  have HS38 := Aside0.mk hs
                  have LS38 := Aside0.mk (show (((((P27 ++ (x.cells.take j27).flatMap bCel) ++ (textB y27_.metric)) ++ (upB (y27_.labels.length : Int))) ++ y27_.labels.flatMap bLab) ++ (upB y27_.policy)).length ≤ 100030074199 from (by rw [List.length_append]; have := LS32.out; have := LS37.out; omega))
                  clear hs
                  refine hK.out _ _ ⟨((blk_cell BK_e.out 2).trans rfl), ((blk_cell BK_e.out 3).trans rfl), ((blk_cell BK_e.out 4).trans rfl), ((blk_cell BK_e.out 5).trans rfl), ((blk_cell BK_e.out 6).trans rfl), ((blk_cell BK_e.out 7).trans rfl), ((blk_cell BK_e.out 8).trans rfl), ((blk_cell BK_e.out 9).trans rfl), ((blk_cell BK_e.out 10).trans rfl), ((blk_cell BK_e.out 11).trans rfl), ((blk_cell BK_e.out 12).trans rfl), ((blk_cell BK_e.out 13).trans rfl), ((blk_cell BK_e.out 14).trans rfl), ((blk_cell BK_e.out 15).trans rfl)⟩ (fun hHeld => ?_)
                  clear hK K
                  refine norm_ (a' := ?_) ?_ ?_
                  rotate_left
                  · show Act.put _ (some 162) _ = _
                    simp only [Act.put, List.setIfInBounds_toArray, List.set_cons_zero, List.set_cons_succ, i64_w, i32_w]
                    rfl
                  refine pure_ (i := 4) (N := some 163) (v := ?_) (a' := ?_) #[true, true, true, true, true, true, true, false, false, true, true, false, false, true, true, false, false, true, true, false, false, false] rfl rfl (any_of HT_.out (by kernel_rfl)) (fun _ _ _ h => nomatch h.1) (Or.inl ⟨by rfl, ?_⟩) ?_ ?_
                  rotate_left
                  · intro w'
                    go_simp
                    with_reducible rfl
                  rotate_left
                  · simp only [Act.put, List.setIfInBounds_toArray, List.set_cons_zero, List.set_cons_succ, i64_w, i32_w]
                    rfl
                  refine one_ (i := 7) (N := some 166) #[true, true, true, true, true, true, true, true, false, true, true, false, false, true, true, false, false, true, true, false, false, false] rfl rfl (one_of HT_.out (by kernel_rfl)) (by decide) (fun K hK => ?_)
                  refine goes_ Tryz.func23 (by kernel_rfl) rfl #[.int .i64 y27_.start] (by rfl) rfl rfl (by simp only [List.map_toArray, List.map_cons, List.map_nil]; rfl) ?_
                  with_reducible refine (rUpG_calls y27_.start GY27.out.2.2.2.1 _).mono ?_
                  rintro e W39 ⟨⟨s39, rfl, hs⟩, hb⟩
                  refine ⟨_, rfl, ?_⟩
                  have HS39 := Aside0.mk hs
                  have LS39 := Aside0.mk (show (upB y27_.start).length ≤ 11 from upB_len' GY27.out.2.2.2.1)
                  clear hs
                  have n_v := Aside0.mk (blk_below BK_v.out hb)
                  have n_e := Aside0.mk (blk_below BK_e.out hb)
                  have n_HB := Aside0.mk (HB.out.trans (hb.mono HB.out.size))
                  clear HB hb BK_v BK_e
                  have BK_v := n_v
                  have BK_e := n_e
                  have HB := n_HB
                  clear n_HB n_v n_e
                  obtain ⟨hc40, hs⟩ := cat_pre (c32 ++ s37) s39 HS38.out HS39.out (by have := LS38.out; have := LS39.out; omega)
                  (try simp only [ByteArray.size_append] at hc40)
                  have HS40 := Aside0.mk hs
                  have LS40 := Aside0.mk (show ((((((P27 ++ (x.cells.take j27).flatMap bCel) ++ (textB y27_.metric)) ++ (upB (y27_.labels.length : Int))) ++ y27_.labels.flatMap bLab) ++ (upB y27_.policy)) ++ (upB y27_.start)).length ≤ 100030074210 from (by rw [List.length_append]; have := LS38.out; have := LS39.out; omega))
                  clear hs
                  refine hK.out _ _ ⟨((blk_cell BK_e.out 2).trans rfl), ((blk_cell BK_e.out 3).trans rfl), ((blk_cell BK_e.out 4).trans rfl), ((blk_cell BK_e.out 5).trans rfl), ((blk_cell BK_e.out 6).trans rfl), ((blk_cell BK_e.out 7).trans rfl), ((blk_cell BK_e.out 8).trans rfl), ((blk_cell BK_e.out 9).trans rfl), ((blk_cell BK_e.out 10).trans rfl), ((blk_cell BK_e.out 11).trans rfl), ((blk_cell BK_e.out 12).trans rfl), ((blk_cell BK_e.out 13).trans rfl), ((blk_cell BK_e.out 14).trans rfl), ((blk_cell BK_e.out 15).trans rfl)⟩ (fun hHeld => ?_)
                  clear hK K
                  refine norm_ (a' := ?_) ?_ ?_
                  rotate_left
                  · show Act.put _ (some 166) _ = _
                    simp only [Act.put, List.setIfInBounds_toArray, List.set_cons_zero, List.set_cons_succ, i64_w, i32_w]
                    rfl
                  refine pure_ (i := 8) (N := some 167) (v := ?_) (a' := ?_) #[true, true, true, true, true, true, true, true, true, true, true, false, false, true, true, false, false, true, true, false, false, false] rfl rfl (any_of HT_.out (by kernel_rfl)) (fun _ _ _ h => nomatch h.1) (Or.inl ⟨by rfl, ?_⟩) ?_ ?_
                  rotate_left
                  · intro w'
                    go_simp
                    with_reducible rfl
                  rotate_left
                  · simp only [Act.put, List.setIfInBounds_toArray, List.set_cons_zero, List.set_cons_succ, i64_w, i32_w]
                    rfl
                  refine one_ (i := 11) (N := some 170) #[true, true, true, true, true, true, true, true, true, true, true, true, false, true, true, false, false, true, true, false, false, false] rfl rfl (one_of HT_.out (by kernel_rfl)) (by decide) (fun K hK => ?_)
                  refine goes_ Tryz.func23 (by kernel_rfl) rfl #[.int .i64 y27_.rev] (by rfl) rfl rfl (by simp only [List.map_toArray, List.map_cons, List.map_nil]; rfl) ?_
                  with_reducible refine (rUpG_calls y27_.rev GY27.out.2.2.2.2.1 _).mono ?_
                  rintro e W41 ⟨⟨s41, rfl, hs⟩, hb⟩
                  refine ⟨_, rfl, ?_⟩
                  have HS41 := Aside0.mk hs
                  have LS41 := Aside0.mk (show (upB y27_.rev).length ≤ 11 from upB_len' GY27.out.2.2.2.2.1)
                  clear hs
                  have n_v := Aside0.mk (blk_below BK_v.out hb)
                  have n_e := Aside0.mk (blk_below BK_e.out hb)
                  have n_HB := Aside0.mk (HB.out.trans (hb.mono HB.out.size))
                  clear HB hb BK_v BK_e
                  have BK_v := n_v
                  have BK_e := n_e
                  have HB := n_HB
                  clear n_HB n_v n_e
                  obtain ⟨hc42, hs⟩ := cat_pre ((c32 ++ s37) ++ s39) s41 HS40.out HS41.out (by have := LS40.out; have := LS41.out; omega)
                  (try simp only [ByteArray.size_append] at hc42)
                  have HS42 := Aside0.mk hs
                  have LS42 := Aside0.mk (show (((((((P27 ++ (x.cells.take j27).flatMap bCel) ++ (textB y27_.metric)) ++ (upB (y27_.labels.length : Int))) ++ y27_.labels.flatMap bLab) ++ (upB y27_.policy)) ++ (upB y27_.start)) ++ (upB y27_.rev)).length ≤ 100030074221 from (by rw [List.length_append]; have := LS40.out; have := LS41.out; omega))
                  clear hs
                  refine hK.out _ _ ⟨((blk_cell BK_e.out 2).trans rfl), ((blk_cell BK_e.out 3).trans rfl), ((blk_cell BK_e.out 4).trans rfl), ((blk_cell BK_e.out 5).trans rfl), ((blk_cell BK_e.out 6).trans rfl), ((blk_cell BK_e.out 7).trans rfl), ((blk_cell BK_e.out 8).trans rfl), ((blk_cell BK_e.out 9).trans rfl), ((blk_cell BK_e.out 10).trans rfl), ((blk_cell BK_e.out 11).trans rfl), ((blk_cell BK_e.out 12).trans rfl), ((blk_cell BK_e.out 13).trans rfl), ((blk_cell BK_e.out 14).trans rfl), ((blk_cell BK_e.out 15).trans rfl)⟩ (fun hHeld => ?_)
                  clear hK K
                  refine norm_ (a' := ?_) ?_ ?_
                  rotate_left
                  · show Act.put _ (some 170) _ = _
                    simp only [Act.put, List.setIfInBounds_toArray, List.set_cons_zero, List.set_cons_succ, i64_w, i32_w]
                    rfl
                  refine pure_ (i := 12) (N := some 171) (v := ?_) (a' := ?_) #[true, true, true, true, true, true, true, true, true, true, true, true, true, true, true, false, false, true, true, false, false, false] rfl rfl (any_of HT_.out (by kernel_rfl)) (fun _ _ _ h => nomatch h.1) (Or.inl ⟨by rfl, ?_⟩) ?_ ?_
                  rotate_left
                  · intro w'
                    go_simp
                    with_reducible rfl
                  rotate_left
                  · simp only [Act.put, List.setIfInBounds_toArray, List.set_cons_zero, List.set_cons_succ, i64_w, i32_w]
                    rfl
                  refine one_ (i := 15) (N := some 174) #[true, true, true, true, true, true, true, true, true, true, true, true, true, true, true, true, false, true, true, false, false, false] rfl rfl (one_of HT_.out (by kernel_rfl)) (by decide) (fun K hK => ?_)
                  refine goes_ Tryz.func24 (by kernel_rfl) rfl #[.bool y27_.dirty] (by rfl) rfl rfl (by simp only [List.map_toArray, List.map_cons, List.map_nil]; rfl) ?_
                  with_reducible refine (rMarkG_calls y27_.dirty trivial _).mono ?_
                  rintro e W43 ⟨⟨s43, rfl, hs⟩, hb⟩
                  refine ⟨_, rfl, ?_⟩
                  have HS43 := Aside0.mk hs
                  have LS43 := Aside0.mk (show (markB y27_.dirty).length ≤ 1 from Nat.le_of_eq (markB_len _))
                  clear hs
                  have n_v := Aside0.mk (blk_below BK_v.out hb)
                  have n_e := Aside0.mk (blk_below BK_e.out hb)
                  have n_HB := Aside0.mk (HB.out.trans (hb.mono HB.out.size))
                  clear HB hb BK_v BK_e
                  have BK_v := n_v
                  have BK_e := n_e
                  have HB := n_HB
                  clear n_HB n_v n_e
                  obtain ⟨hc44, hs⟩ := cat_pre (((c32 ++ s37) ++ s39) ++ s41) s43 HS42.out HS43.out (by have := LS42.out; have := LS43.out; omega)
                  (try simp only [ByteArray.size_append] at hc44)
                  have HS44 := Aside0.mk hs
                  have LS44 := Aside0.mk (show ((((((((P27 ++ (x.cells.take j27).flatMap bCel) ++ (textB y27_.metric)) ++ (upB (y27_.labels.length : Int))) ++ y27_.labels.flatMap bLab) ++ (upB y27_.policy)) ++ (upB y27_.start)) ++ (upB y27_.rev)) ++ (markB y27_.dirty)).length ≤ 100030074222 from (by rw [List.length_append]; have := LS42.out; have := LS43.out; omega))
                  clear hs
                  refine hK.out _ _ ⟨((blk_cell BK_e.out 2).trans rfl), ((blk_cell BK_e.out 3).trans rfl), ((blk_cell BK_e.out 4).trans rfl), ((blk_cell BK_e.out 5).trans rfl), ((blk_cell BK_e.out 6).trans rfl), ((blk_cell BK_e.out 7).trans rfl), ((blk_cell BK_e.out 8).trans rfl), ((blk_cell BK_e.out 9).trans rfl), ((blk_cell BK_e.out 10).trans rfl), ((blk_cell BK_e.out 11).trans rfl), ((blk_cell BK_e.out 12).trans rfl), ((blk_cell BK_e.out 13).trans rfl), ((blk_cell BK_e.out 14).trans rfl), ((blk_cell BK_e.out 15).trans rfl)⟩ (fun hHeld => ?_)
                  clear hK K
                  refine norm_ (a' := ?_) ?_ ?_
                  rotate_left
                  · show Act.put _ (some 174) _ = _
                    simp only [Act.put, List.setIfInBounds_toArray, List.set_cons_zero, List.set_cons_succ, i64_w, i32_w]
                    rfl
                  refine pure_ (i := 16) (N := some 175) (v := ?_) (a' := ?_) #[true, true, true, true, true, true, true, true, true, true, true, true, true, true, true, true, true, true, true, false, false, false] rfl rfl (any_of HT_.out (by kernel_rfl)) (fun _ _ _ h => nomatch h.1) (Or.inl ⟨by rfl, ?_⟩) ?_ ?_
                  rotate_left
                  · intro w'
                    go_simp
                    with_reducible rfl
                  rotate_left
                  · simp only [Act.put, List.setIfInBounds_toArray, List.set_cons_zero, List.set_cons_succ, i64_w, i32_w]
                    rfl
                  refine one_ (i := 19) (N := some 178) #[true, true, true, true, true, true, true, true, true, true, true, true, true, true, true, true, true, true, true, true, false, false] rfl rfl (one_of HT_.out (by kernel_rfl)) (by decide) (fun K hK => ?_)
                  refine goes_ Tryz.func26 (by kernel_rfl) rfl #[.agg #[.int .i64 y27_.vat.kind, .int .i64 y27_.vat.many, .int .i64 y27_.vat.high, .int .i64 y27_.vat.low, .int .i64 y27_.vat.last, .int .i64 y27_.vat.time, .int .i64 y27_.vat.seq, .string y27_.vat.source, .slice Av27 y27_.vat.samples.length cv27, .slice Am27 y27_.vat.members.length cm27]] (by rfl) rfl rfl (by simp only [List.map_toArray, List.map_cons, List.map_nil]; rfl) ?_
                  with_reducible refine (rVat_calls y27_.vat GY27.out.2.2.2.2.2 _ (by omega) (Kd.C_below CV27.out HB.out) (by omega) (Kd.C_below CM27.out HB.out)).mono ?_
                  rintro e W45 ⟨⟨s45, rfl, hs⟩, hb⟩
                  refine ⟨_, rfl, ?_⟩
                  have HS45 := Aside0.mk hs
                  have LS45 := Aside0.mk (show (bVatS y27_.vat).length ≤ 10032110 from bVatS_len _ GY27.out.2.2.2.2.2)
                  clear hs
                  have n_v := Aside0.mk (blk_below BK_v.out hb)
                  have n_e := Aside0.mk (blk_below BK_e.out hb)
                  have n_HB := Aside0.mk (HB.out.trans (hb.mono HB.out.size))
                  clear HB hb BK_v BK_e
                  have BK_v := n_v
                  have BK_e := n_e
                  have HB := n_HB
                  clear n_HB n_v n_e
                  obtain ⟨hc46, hs⟩ := cat_pre ((((c32 ++ s37) ++ s39) ++ s41) ++ s43) s45 HS44.out HS45.out (by have := LS44.out; have := LS45.out; omega)
                  (try simp only [ByteArray.size_append] at hc46)
                  have HS46 := Aside0.mk hs
                  have LS46 := Aside0.mk (show (((((((((P27 ++ (x.cells.take j27).flatMap bCel) ++ (textB y27_.metric)) ++ (upB (y27_.labels.length : Int))) ++ y27_.labels.flatMap bLab) ++ (upB y27_.policy)) ++ (upB y27_.start)) ++ (upB y27_.rev)) ++ (markB y27_.dirty)) ++ (bVatS y27_.vat)).length ≤ 100040106332 from (by rw [List.length_append]; have := LS44.out; have := LS45.out; omega))
                  clear hs
                  refine hK.out _ _ ⟨((blk_cell BK_e.out 2).trans rfl), ((blk_cell BK_e.out 3).trans rfl), ((blk_cell BK_e.out 4).trans rfl), ((blk_cell BK_e.out 5).trans rfl), ((blk_cell BK_e.out 6).trans rfl), ((blk_cell BK_e.out 7).trans rfl), ((blk_cell BK_e.out 8).trans rfl), ((blk_cell BK_e.out 9).trans rfl), ((blk_cell BK_e.out 10).trans rfl), ((blk_cell BK_e.out 11).trans rfl), ((blk_cell BK_e.out 12).trans rfl), ((blk_cell BK_e.out 13).trans rfl), ((blk_cell BK_e.out 14).trans rfl), ((blk_cell BK_e.out 15).trans rfl)⟩ (fun hHeld => ?_)
                  clear hK K
                  refine norm_ (a' := ?_) ?_ ?_
                  rotate_left
                  · show Act.put _ (some 178) _ = _
                    simp only [Act.put, List.setIfInBounds_toArray, List.set_cons_zero, List.set_cons_succ, i64_w, i32_w]
                    rfl
                  refine pure_ (i := 20) (N := some 179) (v := ?_) (a' := ?_) #[true, true, true, true, true, true, true, true, true, true, true, true, true, true, true, true, true, true, true, true, true, false] rfl rfl (any_of HT_.out (by kernel_rfl)) (fun _ _ _ h => nomatch h.1) (Or.inl ⟨by rfl, ?_⟩) ?_ ?_
                  rotate_left
                  · intro w'
                    go_simp
                    with_reducible rfl
                  rotate_left
                  · simp only [Act.put, List.setIfInBounds_toArray, List.set_cons_zero, List.set_cons_succ, i64_w, i32_w]
                    rfl
                  refine pure_ (i := 21) (N := some 3) (v := ?_) (a' := ?_) #[true, true, true, true, true, true, true, true, true, true, true, true, true, true, true, true, true, true, true, true, true, true] rfl rfl (any_of HT_.out (by kernel_rfl)) (fun _ _ _ h => nomatch h.1) (Or.inl ⟨by rfl, ?_⟩) ?_ ?_
                  rotate_left
                  · intro w'
                    go_simp
                    with_reducible rfl
                  rotate_left
                  · simp only [Act.put, List.setIfInBounds_toArray, List.set_cons_zero, List.set_cons_succ, i64_w, i32_w]
                    rfl
                  refine done_ (done_of HT_.out (by kernel_rfl)) ?_
                  refine ⟨rfl, ?_⟩
                  clear hHeld HT_ HW_
                  clear hc46
                  generalize (((((c32 ++ s37) ++ s39) ++ s41) ++ s43) ++ s45) = c46 at HS46 ⊢
                  go_wp2
                  go_roundw
                  case rel => exact ⟨j27 + 1, _, by omega, by simp, rfl, by rw [HS46.out, HTK27.out]; simp [listB, bSrc, bSen, bCel, bLab, bEmi, List.append_assoc], HB.out, BK_v.out⟩
                  case measure => simp [intOf]; omega
            · skip
              obtain rfl : j27 = x.cells.length := by omega
              clear hj27 hlt
              rw [List.take_length] at HS27
              have LS27 := HLT27
              rw [HP27.out] at HS27 LS27
              clear HP27 HLT27
              go_upto_region 33 with fail
              have n_v := Aside0.mk (blk_drew BK_v.out)
              have n_HB := Aside0.mk (below_drew1 HB.out)
              clear HB BK_v
              have BK_v := n_v
              have HB := n_HB
              clear n_HB n_v
              refine wp_mono (Q := fun e a w => e = .normal ∧ _) ?_ (fun e a w h => h.2)
              refine start_ (n := 11) (S := fun w' => w'.cell? ⟨w.heap.size, 9, none⟩ = some (.int .i64 x.first) ∧ w'.cell? ⟨w.heap.size, 10, none⟩ = some (.slice A4 x.out.length c4)) (ds := []) #[false, false, false, false, false, false, false, false, false, false, false] (by kernel_rfl) rfl rfl ⟨((blk_cell BK_v.out 9).trans k9.out), ((blk_cell BK_v.out 10).trans k10.out)⟩ (fun hHeld => ?_)
              refine with_tabW r9.tab33 r9.bits33 (fun HT_ HW_ => ?_)
              refine pure_ (i := 0) (N := some 181) (v := ?_) (a' := ?_) #[true, false, false, false, false, false, false, false, false, false, false] rfl rfl (any_of HT_.out (by kernel_rfl)) (fun _ _ _ h => nomatch h.1) (Or.inl ⟨by rfl, ?_⟩) ?_ ?_
              rotate_left
              · intro w'
                go_simp
                with_reducible rfl
              rotate_left
              · simp only [Act.put, List.setIfInBounds_toArray, List.set_cons_zero, List.set_cons_succ, i64_w, i32_w]
                rfl
              refine pure_ (i := 1) (N := some 182) (v := ?_) (a' := ?_) #[true, true, false, false, false, false, false, false, false, false, false] rfl rfl (any_of HT_.out (by kernel_rfl)) (fun _ _ _ h => nomatch h.1) (Or.inl ⟨by rfl, ?_⟩) ?_ ?_
              rotate_left
              · intro w'
                go_simp
                with_reducible rfl
              rotate_left
              · simp only [Act.put, List.setIfInBounds_toArray, List.set_cons_zero, List.set_cons_succ, i64_w, i32_w]
                rfl
              refine pure_ (i := 5) (N := some 186) (v := ?_) (a' := ?_) #[true, true, false, false, false, true, false, false, false, false, false] rfl rfl (any_of HT_.out (by kernel_rfl)) (fun _ _ _ h => nomatch h.1) (Or.inl ⟨by rfl, ?_⟩) ?_ ?_
              rotate_left
              · intro w'
                go_simp
                with_reducible rfl
              rotate_left
              · simp only [Act.put, List.setIfInBounds_toArray, List.set_cons_zero, List.set_cons_succ, i64_w, i32_w]
                rfl
              refine take_ (i := 2) (N := some 183) (v := ?_) (a' := ?_) #[true, true, true, false, false, true, false, false, false, false, false] rfl rfl (take_ofW HT_.out HW_.out (by kernel_rfl)) (fun _ _ _ h => nomatch h.1) (Or.inl ⟨by rfl, ?_⟩) hHeld ?_ ?_
              rotate_left
              · rintro w' ⟨s0, s1⟩
                go_simp
                with_reducible rfl
              rotate_left
              · simp only [Act.put, List.setIfInBounds_toArray, List.set_cons_zero, List.set_cons_succ, i64_w, i32_w]
                rfl
              refine take_ (i := 6) (N := some 187) (v := ?_) (a' := ?_) #[true, true, true, false, false, true, true, false, false, false, false] rfl rfl (take_ofW HT_.out HW_.out (by kernel_rfl)) (fun _ _ _ h => nomatch h.1) (Or.inl ⟨by rfl, ?_⟩) hHeld ?_ ?_
              rotate_left
              · rintro w' ⟨s0, s1⟩
                go_simp
                with_reducible rfl
              rotate_left
              · simp only [Act.put, List.setIfInBounds_toArray, List.set_cons_zero, List.set_cons_succ, i64_w, i32_w]
                rfl
              refine pure_ (i := 7) (N := some 188) (v := ?_) (a' := ?_) #[true, true, true, false, false, true, true, true, false, false, false] rfl rfl (any_of HT_.out (by kernel_rfl)) (fun _ _ _ h => nomatch h.1) (Or.inl ⟨by rfl, ?_⟩) ?_ ?_
              rotate_left
              · intro w'
                go_simp
                with_reducible rfl
              rotate_left
              · simp only [Act.put, List.setIfInBounds_toArray, List.set_cons_zero, List.set_cons_succ, i64_w, i32_w]
                rfl
              refine one_ (i := 3) (N := some 184) #[true, true, true, true, false, true, true, true, false, false, false] rfl rfl (one_of HT_.out (by kernel_rfl)) (by decide) (fun K hK => ?_)
              refine goes_ Tryz.func23 (by kernel_rfl) rfl #[.int .i64 x.first] (by rfl) rfl rfl (by simp only [List.map_toArray, List.map_cons, List.map_nil]; rfl) ?_
              with_reducible refine (rUpG_calls x.first G.out.2.2.2.2.2.1 _).mono ?_
              rintro e W47 ⟨⟨s47, rfl, hs⟩, hb⟩
              refine ⟨_, rfl, ?_⟩
              have HS47 := Aside0.mk hs
              have LS47 := Aside0.mk (show (upB x.first).length ≤ 11 from upB_len' G.out.2.2.2.2.2.1)
              clear hs
              have n_v := Aside0.mk (blk_below BK_v.out hb)
              have n_HB := Aside0.mk (HB.out.trans (hb.mono HB.out.size))
              clear HB hb BK_v
              have BK_v := n_v
              have HB := n_HB
              clear n_HB n_v
              obtain ⟨hc48, hs⟩ := cat_pre c27 s47 HS27.out HS47.out (by have := LS27.out; have := LS47.out; omega)
              (try simp only [ByteArray.size_append] at hc48)
              have HS48 := Aside0.mk hs
              have LS48 := Aside0.mk (show (((((((((upB x.now) ++ (upB x.low)) ++ (upB (x.sources.length : Int))) ++ x.sources.flatMap bSrc) ++ (upB (x.seens.length : Int))) ++ x.seens.flatMap bSen) ++ (upB (x.cells.length : Int))) ++ x.cells.flatMap bCel) ++ (upB x.first)).length ≤ 100000000011 from (by rw [List.length_append]; have := LS27.out; have := LS47.out; omega))
              clear hs
              refine hK.out _ _ ⟨((blk_cell BK_v.out 9).trans k9.out), ((blk_cell BK_v.out 10).trans k10.out)⟩ (fun hHeld => ?_)
              clear hK K
              refine norm_ (a' := ?_) ?_ ?_
              rotate_left
              · show Act.put _ (some 184) _ = _
                simp only [Act.put, List.setIfInBounds_toArray, List.set_cons_zero, List.set_cons_succ, i64_w, i32_w]
                rfl
              refine pure_ (i := 4) (N := some 185) (v := ?_) (a' := ?_) #[true, true, true, true, true, true, true, true, false, false, false] rfl rfl (any_of HT_.out (by kernel_rfl)) (fun _ _ _ h => nomatch h.1) (Or.inl ⟨by rfl, ?_⟩) ?_ ?_
              rotate_left
              · intro w'
                go_simp
                with_reducible rfl
              rotate_left
              · simp only [Act.put, List.setIfInBounds_toArray, List.set_cons_zero, List.set_cons_succ, i64_w, i32_w]
                rfl
              refine one_ (i := 8) (N := some 189) #[true, true, true, true, true, true, true, true, true, false, false] rfl rfl (one_of HT_.out (by kernel_rfl)) (by decide) (fun K hK => ?_)
              refine goes_ Tryz.func23 (by kernel_rfl) rfl #[.int .i64 (x.out.length : Int)] (by rfl) rfl rfl (by simp only [List.map_toArray, List.map_cons, List.map_nil]; rfl) ?_
              with_reducible refine (rUpG_calls (x.out.length : Int) (gList_up G.out.2.2.2.2.2.2.1) _).mono ?_
              rintro e W49 ⟨⟨s49, rfl, hs⟩, hb⟩
              refine ⟨_, rfl, ?_⟩
              have HS49 := Aside0.mk hs
              have LS49 := Aside0.mk (show (upB (x.out.length : Int)).length ≤ 11 from upB_len' (gList_up G.out.2.2.2.2.2.2.1))
              clear hs
              have n_v := Aside0.mk (blk_below BK_v.out hb)
              have n_HB := Aside0.mk (HB.out.trans (hb.mono HB.out.size))
              clear HB hb BK_v
              have BK_v := n_v
              have HB := n_HB
              clear n_HB n_v
              obtain ⟨hc50, hs⟩ := cat_pre (c27 ++ s47) s49 HS48.out HS49.out (by have := LS48.out; have := LS49.out; omega)
              (try simp only [ByteArray.size_append] at hc50)
              have HS50 := Aside0.mk hs
              have LS50 := Aside0.mk (show ((((((((((upB x.now) ++ (upB x.low)) ++ (upB (x.sources.length : Int))) ++ x.sources.flatMap bSrc) ++ (upB (x.seens.length : Int))) ++ x.seens.flatMap bSen) ++ (upB (x.cells.length : Int))) ++ x.cells.flatMap bCel) ++ (upB x.first)) ++ (upB (x.out.length : Int))).length ≤ 100000000022 from (by rw [List.length_append]; have := LS48.out; have := LS49.out; omega))
              clear hs
              refine hK.out _ _ ⟨((blk_cell BK_v.out 9).trans k9.out), ((blk_cell BK_v.out 10).trans k10.out)⟩ (fun hHeld => ?_)
              clear hK K
              refine norm_ (a' := ?_) ?_ ?_
              rotate_left
              · show Act.put _ (some 189) _ = _
                simp only [Act.put, List.setIfInBounds_toArray, List.set_cons_zero, List.set_cons_succ, i64_w, i32_w]
                rfl
              refine pure_ (i := 9) (N := some 190) (v := ?_) (a' := ?_) #[true, true, true, true, true, true, true, true, true, true, false] rfl rfl (any_of HT_.out (by kernel_rfl)) (fun _ _ _ h => nomatch h.1) (Or.inl ⟨by rfl, ?_⟩) ?_ ?_
              rotate_left
              · intro w'
                go_simp
                with_reducible rfl
              rotate_left
              · simp only [Act.put, List.setIfInBounds_toArray, List.set_cons_zero, List.set_cons_succ, i64_w, i32_w]
                rfl
              refine pure_ (i := 10) (N := some 3) (v := ?_) (a' := ?_) #[true, true, true, true, true, true, true, true, true, true, true] rfl rfl (any_of HT_.out (by kernel_rfl)) (fun _ _ _ h => nomatch h.1) (Or.inl ⟨by rfl, ?_⟩) ?_ ?_
              rotate_left
              · intro w'
                go_simp
                with_reducible rfl
              rotate_left
              · simp only [Act.put, List.setIfInBounds_toArray, List.set_cons_zero, List.set_cons_succ, i64_w, i32_w]
                rfl
              refine done_ (done_of HT_.out (by kernel_rfl)) ?_
              refine ⟨rfl, ?_⟩
              clear hHeld HT_ HW_
              clear hc50
              generalize ((c27 ++ s47) ++ s49) = c50 at HS50 ⊢
              have y0 := (blk_cell BK_v.out 10).trans k10.out
              go_wp2_with fail
              clear y0
              obtain ⟨P51, hP51⟩ : ∃ P, P = (((((((((upB x.now) ++ (upB x.low)) ++ (upB (x.sources.length : Int))) ++ x.sources.flatMap bSrc) ++ (upB (x.seens.length : Int))) ++ x.seens.flatMap bSen) ++ (upB (x.cells.length : Int))) ++ x.cells.flatMap bCel) ++ (upB x.first)) ++ (upB (x.out.length : Int)) := ⟨_, rfl⟩
              have HP51 := Aside0.mk hP51
              rw [← hP51] at HS50
              clear hP51
              have HLT51 := Aside0.mk (show (P51 ++ x.out.flatMap bEmi).length ≤ 100000000000 by rw [HP51.out]; have := HL.out; simp only [List.length_append] at *; omega)
              go_loopw [3, 12, 194] (fun v3 v12 v194 wr => ∃ (j51 : Nat) (c : ByteArray), j51 ≤ x.out.length ∧ v194 = .int .i64 j51 ∧ v3 = .string c ∧ bytesOf c = P51 ++ (x.out.take j51).flatMap bEmi ∧ Below w.heap.size w wr ∧ wr.heap[w.heap.size]? = some (.cells CA 61 (0, 0))) (fun v3 v12 v194 _ => x.out.length - (intOf v194).toNat)
              case atStart => exact ⟨0, _, Nat.zero_le _, rfl, rfl, by rw [HS50.out]; simp, HB.out, BK_v.out⟩
              case round =>
                clear HS50 HB BK_v
                obtain ⟨j51, c51, hj51, rfl, rfl, hs, hb, k_v⟩ := hrel
                have HS51 := Aside0.mk hs
                have HB := Aside0.mk hb
                have BK_v := Aside0.mk k_v
                clear hs hb k_v
                by_cases hlt : j51 < x.out.length
                · skip
                  have hE := Kd.C_get C4.out zEmi (j51 : Int) (by omega) (by omega)
                  rw [Int.toNat_natCast, show x.out.getD j51 zEmi = x.out[j51] by rw [List.getD_eq_getElem?_getD, List.getElem?_eq_getElem hlt]; rfl] at hE
                  have HTK51 := Aside0.mk (show x.out.take (j51 + 1) = x.out.take j51 ++ [x.out[j51]] from List.take_succ_eq_append_getElem hlt)
                  have gy := (gList_mem G.out.2.2.2.2.2.2.1) x.out[j51] (List.getElem_mem hlt)
                  generalize x.out[j51] = y51_ at hE HTK51 gy
                  have GY51 := Aside0.mk gy
                  clear gy
                  obtain ⟨ad51, cs, rfl, _, hK, hcell⟩ := hE
                  have hcs := kEmi_open hK
                  subst hcs
                  clear hK
                  have hw51_0 := Aside0.mk (show w.cell? (ad51.add (j51 * 15)) = some (.string y51_.key) from hcell 0 _ rfl)
                  have hw51_1 := Aside0.mk (show w.cell? ⟨(ad51.add (j51 * 15)).block, (ad51.add (j51 * 15)).off + 1, none⟩ = some (.string y51_.policy) by rw [← add_field _ _ 1 (by omega)]; exact hcell 1 _ rfl)
                  have hw51_2 := Aside0.mk (show w.cell? ⟨(ad51.add (j51 * 15)).block, (ad51.add (j51 * 15)).off + 2, none⟩ = some (.int .i64 y51_.kind) by rw [← add_field _ _ 2 (by omega)]; exact hcell 2 _ rfl)
                  have hw51_3 := Aside0.mk (show w.cell? ⟨(ad51.add (j51 * 15)).block, (ad51.add (j51 * 15)).off + 3, none⟩ = some (.int .i64 y51_.start) by rw [← add_field _ _ 3 (by omega)]; exact hcell 3 _ rfl)
                  have hw51_4 := Aside0.mk (show w.cell? ⟨(ad51.add (j51 * 15)).block, (ad51.add (j51 * 15)).off + 4, none⟩ = some (.int .i64 y51_.rev) by rw [← add_field _ _ 4 (by omega)]; exact hcell 4 _ rfl)
                  have hw51_5 := Aside0.mk (show w.cell? ⟨(ad51.add (j51 * 15)).block, (ad51.add (j51 * 15)).off + 5, none⟩ = some (.bool y51_.final) by rw [← add_field _ _ 5 (by omega)]; exact hcell 5 _ rfl)
                  have hw51_6 := Aside0.mk (show w.cell? ⟨(ad51.add (j51 * 15)).block, (ad51.add (j51 * 15)).off + 6, none⟩ = some (.int .i64 y51_.rkind) by rw [← add_field _ _ 6 (by omega)]; exact hcell 6 _ rfl)
                  have hw51_7 := Aside0.mk (show w.cell? ⟨(ad51.add (j51 * 15)).block, (ad51.add (j51 * 15)).off + 7, none⟩ = some (.int .i64 y51_.count) by rw [← add_field _ _ 7 (by omega)]; exact hcell 7 _ rfl)
                  have hw51_8 := Aside0.mk (show w.cell? ⟨(ad51.add (j51 * 15)).block, (ad51.add (j51 * 15)).off + 8, none⟩ = some (.int .i64 y51_.sum) by rw [← add_field _ _ 8 (by omega)]; exact hcell 8 _ rfl)
                  have hw51_9 := Aside0.mk (show w.cell? ⟨(ad51.add (j51 * 15)).block, (ad51.add (j51 * 15)).off + 9, none⟩ = some (.int .i64 y51_.min) by rw [← add_field _ _ 9 (by omega)]; exact hcell 9 _ rfl)
                  have hw51_10 := Aside0.mk (show w.cell? ⟨(ad51.add (j51 * 15)).block, (ad51.add (j51 * 15)).off + 10, none⟩ = some (.int .i64 y51_.max) by rw [← add_field _ _ 10 (by omega)]; exact hcell 10 _ rfl)
                  have hw51_11 := Aside0.mk (show w.cell? ⟨(ad51.add (j51 * 15)).block, (ad51.add (j51 * 15)).off + 11, none⟩ = some (.int .i64 y51_.q0) by rw [← add_field _ _ 11 (by omega)]; exact hcell 11 _ rfl)
                  have hw51_12 := Aside0.mk (show w.cell? ⟨(ad51.add (j51 * 15)).block, (ad51.add (j51 * 15)).off + 12, none⟩ = some (.int .i64 y51_.q1) by rw [← add_field _ _ 12 (by omega)]; exact hcell 12 _ rfl)
                  have hw51_13 := Aside0.mk (show w.cell? ⟨(ad51.add (j51 * 15)).block, (ad51.add (j51 * 15)).off + 13, none⟩ = some (.int .i64 y51_.q2) by rw [← add_field _ _ 13 (by omega)]; exact hcell 13 _ rfl)
                  have hw51_14 := Aside0.mk (show w.cell? ⟨(ad51.add (j51 * 15)).block, (ad51.add (j51 * 15)).off + 14, none⟩ = some (.bool y51_.over) by rw [← add_field _ _ 14 (by omega)]; exact hcell 14 _ rfl)
                  clear hcell
                  have LS51 := Aside0.mk (loop_len bEmi x.out P51 HTK51.out HLT51.out)
                  have y0 : wr.cell? ⟨w.heap.size, 10, none⟩ = some (.slice (some ad51) x.out.length c4) := ((blk_cell BK_v.out 10).trans k10.out)
                  have y1 : wr.cell? (ad51.add (j51 * 15)) = some (.string y51_.key) := ((HB.out.cell (World.block_lt_of_cell? _ _ hw51_0.out)).trans hw51_0.out)
                  have y2 : wr.cell? ⟨(ad51.add (j51 * 15)).block, (ad51.add (j51 * 15)).off + 1, none⟩ = some (.string y51_.policy) := ((HB.out.cell (World.block_lt_of_cell? _ _ hw51_1.out)).trans hw51_1.out)
                  have y3 : wr.cell? ⟨(ad51.add (j51 * 15)).block, (ad51.add (j51 * 15)).off + 2, none⟩ = some (.int .i64 y51_.kind) := ((HB.out.cell (World.block_lt_of_cell? _ _ hw51_2.out)).trans hw51_2.out)
                  have y4 : wr.cell? ⟨(ad51.add (j51 * 15)).block, (ad51.add (j51 * 15)).off + 3, none⟩ = some (.int .i64 y51_.start) := ((HB.out.cell (World.block_lt_of_cell? _ _ hw51_3.out)).trans hw51_3.out)
                  have y5 : wr.cell? ⟨(ad51.add (j51 * 15)).block, (ad51.add (j51 * 15)).off + 4, none⟩ = some (.int .i64 y51_.rev) := ((HB.out.cell (World.block_lt_of_cell? _ _ hw51_4.out)).trans hw51_4.out)
                  have y6 : wr.cell? ⟨(ad51.add (j51 * 15)).block, (ad51.add (j51 * 15)).off + 5, none⟩ = some (.bool y51_.final) := ((HB.out.cell (World.block_lt_of_cell? _ _ hw51_5.out)).trans hw51_5.out)
                  have y7 : wr.cell? ⟨(ad51.add (j51 * 15)).block, (ad51.add (j51 * 15)).off + 6, none⟩ = some (.int .i64 y51_.rkind) := ((HB.out.cell (World.block_lt_of_cell? _ _ hw51_6.out)).trans hw51_6.out)
                  have y8 : wr.cell? ⟨(ad51.add (j51 * 15)).block, (ad51.add (j51 * 15)).off + 7, none⟩ = some (.int .i64 y51_.count) := ((HB.out.cell (World.block_lt_of_cell? _ _ hw51_7.out)).trans hw51_7.out)
                  have y9 : wr.cell? ⟨(ad51.add (j51 * 15)).block, (ad51.add (j51 * 15)).off + 8, none⟩ = some (.int .i64 y51_.sum) := ((HB.out.cell (World.block_lt_of_cell? _ _ hw51_8.out)).trans hw51_8.out)
                  have y10 : wr.cell? ⟨(ad51.add (j51 * 15)).block, (ad51.add (j51 * 15)).off + 9, none⟩ = some (.int .i64 y51_.min) := ((HB.out.cell (World.block_lt_of_cell? _ _ hw51_9.out)).trans hw51_9.out)
                  have y11 : wr.cell? ⟨(ad51.add (j51 * 15)).block, (ad51.add (j51 * 15)).off + 10, none⟩ = some (.int .i64 y51_.max) := ((HB.out.cell (World.block_lt_of_cell? _ _ hw51_10.out)).trans hw51_10.out)
                  have y12 : wr.cell? ⟨(ad51.add (j51 * 15)).block, (ad51.add (j51 * 15)).off + 11, none⟩ = some (.int .i64 y51_.q0) := ((HB.out.cell (World.block_lt_of_cell? _ _ hw51_11.out)).trans hw51_11.out)
                  have y13 : wr.cell? ⟨(ad51.add (j51 * 15)).block, (ad51.add (j51 * 15)).off + 12, none⟩ = some (.int .i64 y51_.q1) := ((HB.out.cell (World.block_lt_of_cell? _ _ hw51_12.out)).trans hw51_12.out)
                  have y14 : wr.cell? ⟨(ad51.add (j51 * 15)).block, (ad51.add (j51 * 15)).off + 13, none⟩ = some (.int .i64 y51_.q2) := ((HB.out.cell (World.block_lt_of_cell? _ _ hw51_13.out)).trans hw51_13.out)
                  have y15 : wr.cell? ⟨(ad51.add (j51 * 15)).block, (ad51.add (j51 * 15)).off + 14, none⟩ = some (.bool y51_.over) := ((HB.out.cell (World.block_lt_of_cell? _ _ hw51_14.out)).trans hw51_14.out)
                  have hc := rEmi_calls y51_ GY51.out wr
                  go_wp2_with (go_at_call 8; refine (show Calls _ _ _ _ _ from hc).mono ?_; rintro e W52 ⟨⟨s52, rfl, hs⟩, hb⟩; have HS52 := Aside0.mk hs; have LS52 := Aside0.mk (show (bEmi y51_).length ≤ 20200 from bEmi_len _ GY51.out); clear hs; have n_v := Aside0.mk (blk_below BK_v.out hb); have n_HB := Aside0.mk (HB.out.trans (hb.mono HB.out.size)); clear HB hb BK_v; have BK_v := n_v; have HB := n_HB; clear n_HB n_v; obtain ⟨hc53, hs⟩ := cat_pre c51 s52 HS51.out HS52.out (by have := LS51.out; have := LS52.out; omega); (try simp only [ByteArray.size_append] at hc53); have HS53 := Aside0.mk hs; have LS53 := Aside0.mk (show ((P51 ++ (x.out.take j51).flatMap bEmi) ++ (bEmi y51_)).length ≤ 100000020200 from (by rw [List.length_append]; have := LS51.out; have := LS52.out; omega)); clear hs; clear hc)
                  clear y0 y1 y2 y3 y4 y5 y6 y7 y8 y9 y10 y11 y12 y13 y14 y15
                  go_roundw
                  case rel => exact ⟨j51 + 1, _, by omega, by simp, rfl, by rw [HS53.out, HTK51.out]; simp [listB, bSrc, bSen, bCel, bLab, bEmi, List.append_assoc], HB.out, BK_v.out⟩
                  case measure => simp [intOf]; omega
                · skip
                  obtain rfl : j51 = x.out.length := by omega
                  clear hj51 hlt
                  rw [List.take_length] at HS51
                  have LS51 := HLT51
                  rw [HP51.out] at HS51 LS51
                  clear HP51 HLT51
                  go_wp2_with fail
                  obtain ⟨P54, hP54⟩ : ∃ P, P = ((((((((((upB x.now) ++ (upB x.low)) ++ (upB (x.sources.length : Int))) ++ x.sources.flatMap bSrc) ++ (upB (x.seens.length : Int))) ++ x.seens.flatMap bSen) ++ (upB (x.cells.length : Int))) ++ x.cells.flatMap bCel) ++ (upB x.first)) ++ (upB (x.out.length : Int))) ++ x.out.flatMap bEmi := ⟨_, rfl⟩
                  have HP54 := Aside0.mk hP54
                  rw [← hP54] at HS51
                  clear hP54
                  have HLT54 := Aside0.mk (show (P54 ++ x.counts.flatMap upB).length ≤ 100000000000 by rw [HP54.out]; have := HL.out; simp only [List.length_append] at *; omega)
                  go_loopw [3, 13, 206] (fun v3 v13 v206 wr => ∃ (j54 : Nat) (c : ByteArray), j54 ≤ x.counts.length ∧ v206 = .int .i64 j54 ∧ v3 = .string c ∧ bytesOf c = P54 ++ (x.counts.take j54).flatMap upB ∧ Below w.heap.size w wr ∧ wr.heap[w.heap.size]? = some (.cells CA 61 (0, 0))) (fun v3 v13 v206 _ => x.counts.length - (intOf v206).toNat)
                  case atStart => exact ⟨0, _, Nat.zero_le _, rfl, rfl, by rw [HS51.out]; simp, HB.out, BK_v.out⟩
                  case round =>
                    clear HS51 HB BK_v
                    obtain ⟨j54, c54, hj54, rfl, rfl, hs, hb, k_v⟩ := hrel
                    have HS54 := Aside0.mk hs
                    have HB := Aside0.mk hb
                    have BK_v := Aside0.mk k_v
                    clear hs hb k_v
                    by_cases hlt : j54 < x.counts.length
                    · skip
                      have hE := blk_cell BK_v.out (11 + j54)
                      rw [k11.out j54 hlt] at hE
                      have HTK54 := Aside0.mk (show x.counts.take (j54 + 1) = x.counts.take j54 ++ [x.counts[j54]] from List.take_succ_eq_append_getElem hlt)
                      have GY54 := Aside0.mk (G.out.2.2.2.2.2.2.2 x.counts[j54] (List.getElem_mem hlt))
                      generalize x.counts[j54] = y54_ at hE HTK54 GY54
                      have hcl54 := hE
                      clear hE
                      have LS54 := Aside0.mk (loop_len upB x.counts P54 HTK54.out HLT54.out)
                      have y0 : wr.cell? ⟨w.heap.size, 11 + j54, none⟩ = some (.int .i64 y54_) := hcl54
                      have hc := rUpG_calls y54_ GY54.out wr
                      go_wp2_with (go_at_call 23; refine (show Calls _ _ _ _ _ from hc).mono ?_; rintro e W55 ⟨⟨s55, rfl, hs⟩, hb⟩; have HS55 := Aside0.mk hs; have LS55 := Aside0.mk (show (upB y54_).length ≤ 11 from upB_len' GY54.out); clear hs; have n_v := Aside0.mk (blk_below BK_v.out hb); have n_HB := Aside0.mk (HB.out.trans (hb.mono HB.out.size)); clear HB hb BK_v; have BK_v := n_v; have HB := n_HB; clear n_HB n_v; obtain ⟨hc56, hs⟩ := cat_pre c54 s55 HS54.out HS55.out (by have := LS54.out; have := LS55.out; omega); (try simp only [ByteArray.size_append] at hc56); have HS56 := Aside0.mk hs; have LS56 := Aside0.mk (show ((P54 ++ (x.counts.take j54).flatMap upB) ++ (upB y54_)).length ≤ 100000000011 from (by rw [List.length_append]; have := LS54.out; have := LS55.out; omega)); clear hs; clear hc)
                      clear y0
                      go_roundw
                      case rel => exact ⟨j54 + 1, _, by omega, by simp, rfl, by rw [HS56.out, HTK54.out]; simp [listB, bSrc, bSen, bCel, bLab, bEmi, List.append_assoc], HB.out, BK_v.out⟩
                      case measure => simp [intOf]; omega
                    · skip
                      obtain rfl : j54 = x.counts.length := by omega
                      clear hj54 hlt
                      rw [List.take_length] at HS54
                      have LS54 := HLT54
                      rw [HP54.out] at HS54 LS54
                      clear HP54 HLT54
                      go_wp2
                      exact bodyPost_ret (v := .string c54) (by simp [results, Tryz.results9, go_sem]) rfl ⟨⟨_, rfl, by rw [HS54.out]; simp [bSta, listB, List.append_assoc]⟩, HB.out⟩
end Go.Proofs.YtpdppfihpnfblaaGreat.H
