/- Racks' nodes in memory: counted, turned, made even. Laid by wip/racks_bl.py. -/
import Derived.Test.YtdooajmgfoobfaaGreatDoorZz
import Derived.Test.YtdooajmgfoobfaaGreatDoorRkH
namespace Go.Proofs.YtdooajmgfoobfaaGreatDoor.H
open Go.RowKit Go.Proofs.YtdooajmgfoobfaaGreatDoor.PA Go.Proofs.YtdooajmgfoobfaaGreatDoorW.PrintWords Go.Proofs.YtdooajmgfoobfaaGreatDoorW.PrintLast Go.Proofs.YtdooajmgfoobfaaGreatDoorW.PrintMore
set_option linter.unusedVariables false
set_option linter.unusedSimpArgs false
theorem wrap_inR {n : Int} (h1 : -9223372036854775808 ≤ n) (h2 : n ≤ 9223372036854775807) : wrap64 n = n := by unfold wrap64; omega
/-- A tree's height and size, bounded. -/
abbrev Bd (t : Tr FV) : Prop := (0 ≤ t.hi ∧ t.hi ≤ 1000000) ∧ (0 ≤ t.many ∧ t.many ≤ 1000000)
theorem bd {t : Tr FV} (h : t.wf) (hl : t.toL.length ≤ 1000) : Bd t := by
 have h1 := Tr.hi_nonneg h; have h2 := Tr.hi_le h; have h3 := Tr.many_eq h
 unfold Bd; omega
theorem bd_mk {b : Nat} {k : ByteArray} {v : FV} {l r : Tr FV} (hl : 0 ≤ l.hi ∧ l.hi ≤ 100000) (hr : 0 ≤ r.hi ∧ r.hi ≤ 100000) (ml : 0 ≤ l.many ∧ l.many ≤ 100000) (mr : 0 ≤ r.many ∧ r.many ≤ 100000) : Bd (Tr.mk b k v l r) := by
 show (0 ≤ 1 + max l.hi r.hi ∧ 1 + max l.hi r.hi ≤ 1000000) ∧ (0 ≤ 1 + l.many + r.many ∧ 1 + l.many + r.many ≤ 1000000)
 omega
theorem parts {tb b : Nat} {tl tr r : List Nat} (h : ((tl ++ tb :: tr) ++ b :: r).Nodup) : b ≠ tb ∧ b ∉ tl ∧ b ∉ tr ∧ b ∉ r ∧ tb ∉ tl ∧ tb ∉ tr ∧ tb ∉ r := by
 simp only [List.nodup_append, List.nodup_cons, List.mem_append, List.mem_cons] at h
 grind
theorem nd3 {L R : List Nat} {b : Nat} (h : (L ++ b :: R).Nodup) : b ∉ L ∧ b ∉ R ∧ (∀ i ∈ R, i ∉ L) ∧ L.Nodup ∧ R.Nodup := by
 rw [List.nodup_append, List.nodup_cons] at h
 obtain ⟨h1, ⟨h2, h3⟩, h4⟩ := h
 exact ⟨fun hb => h4 b hb b (by simp) rfl, h2, fun i hi hj => h4 i hj i (by simp [hi]) rfl, h1, h3⟩
theorem parts2 {tb b : Nat} {l tl tr : List Nat} (h : (l ++ b :: (tl ++ tb :: tr)).Nodup) : b ≠ tb ∧ b ∉ tl ∧ b ∉ tr ∧ b ∉ l ∧ tb ∉ tl ∧ tb ∉ tr ∧ tb ∉ l := by
 simp only [List.nodup_append, List.nodup_cons, List.mem_append, List.mem_cons] at h
 grind
def q77.T1 : Bool × List (List Nat × List Nat) := (true, [([], []), ([], []), ([1], [1]), ([2], [2]), ([3], [3]), ([4], [4]), ([], []), ([6], [6]), ([7], [7]), ([8], [8]), ([9, 5], [9]), ([5, 10], [5, 10]), ([11], [11]), ([0, 0, 1, 2, 3, 4, 5, 6, 7, 8, 9, 10, 11, 12], [0]), ([13, 0, 1, 2, 3, 4, 5, 6, 7, 8, 9, 10, 11, 12], [13]), ([14, 12, 10, 0, 1, 2, 3, 4, 5, 6, 7, 8, 9, 10, 11, 12], [12, 14])])
def q77.B1 : List Nat := [0, 0, 2, 6, 14, 30, 0, 64, 192, 448, 1022, 2046, 4094, 8191, 16383, 32767]
theorem q77.tab1 : rtab .any (opsOf Tryz.f77 1) = q77.T1 := by kernel_rfl
theorem q77.bits1 : waitsOk q77.T1.2 q77.B1 = true := by kernel_rfl
def q77.T2 : Bool × List (List Nat × List Nat) := (true, [([], []), ([], []), ([1], [1]), ([2], [2]), ([3], [3]), ([4], [4]), ([5], [5]), ([], []), ([7], [7]), ([8], [8]), ([9], [9]), ([10, 5], [10]), ([6, 11], [6, 11]), ([0, 0, 1, 2, 3, 4, 5, 6, 7, 8, 9, 10, 11, 12], [0]), ([13, 0, 1, 2, 3, 4, 5, 6, 7, 8, 9, 10, 11, 12], [13]), ([14, 12, 11, 0, 1, 2, 3, 4, 5, 6, 7, 8, 9, 10, 11, 12], [12, 14])])
def q77.B2 : List Nat := [0, 0, 2, 6, 14, 30, 62, 0, 128, 384, 896, 1982, 4094, 8191, 16383, 32767]
theorem q77.tab2 : rtab .any (opsOf Tryz.f77 2) = q77.T2 := by kernel_rfl
theorem q77.bits2 : waitsOk q77.T2.2 q77.B2 = true := by kernel_rfl
def q90.T2 : Bool × List (List Nat × List Nat) := (true, [([], []), ([], []), ([], []), ([2], [2]), ([3], [3]), ([4], [4]), ([], []), ([6], [6]), ([0, 0, 2, 3, 4, 5, 7], [0]), ([8, 0, 2, 3, 4, 5, 7], [8]), ([9, 5, 7, 0, 2, 3, 4, 5, 7], [5, 9]), ([1, 0, 1, 2, 3, 4, 5, 6, 7, 8, 9, 10], [1]), ([11, 0, 1, 2, 3, 4, 5, 6, 7, 8, 9, 10], [11]), ([12, 7, 10, 0, 1, 2, 3, 4, 5, 6, 7, 8, 9, 10], [7, 12])])
def q90.B2 : List Nat := [0, 0, 0, 4, 12, 28, 0, 64, 253, 509, 1021, 2047, 4095, 8191]
theorem q90.tab2 : rtab .any (opsOf Tryz.f90 2) = q90.T2 := by kernel_rfl
theorem q90.bits2 : waitsOk q90.T2.2 q90.B2 = true := by kernel_rfl
def q89.T2 : Bool × List (List Nat × List Nat) := (true, [([], []), ([], []), ([], []), ([2], [2]), ([3], [3]), ([4], [4]), ([], []), ([6], [6]), ([0, 0, 2, 3, 4, 5, 7], [0]), ([8, 0, 2, 3, 4, 5, 7], [8]), ([9, 5, 7, 0, 2, 3, 4, 5, 7], [5, 9]), ([1, 0, 1, 2, 3, 4, 5, 6, 7, 8, 9, 10], [1]), ([11, 0, 1, 2, 3, 4, 5, 6, 7, 8, 9, 10], [11]), ([12, 7, 10, 0, 1, 2, 3, 4, 5, 6, 7, 8, 9, 10], [7, 12])])
def q89.B2 : List Nat := [0, 0, 0, 4, 12, 28, 0, 64, 253, 509, 1021, 2047, 4095, 8191]
theorem q89.tab2 : rtab .any (opsOf Tryz.f89 2) = q89.T2 := by kernel_rfl
theorem q89.bits2 : waitsOk q89.T2.2 q89.B2 = true := by kernel_rfl
def q78.T1 : Bool × List (List Nat × List Nat) := (true, [([], []), ([0], [0]), ([1], [1]), ([2], [2]), ([3], [3]), ([], []), ([5], [5]), ([6], [6]), ([7], [7]), ([8, 4], [8]), ([4, 9], [4, 9]), ([10, 9, 0, 1, 2, 3, 4, 5, 6, 7, 8, 9, 10], [10])])
def q78.B1 : List Nat := [0, 1, 3, 7, 15, 0, 32, 96, 224, 511, 1023, 2047]
theorem q78.tab1 : rtab .any (opsOf Tryz.f78 1) = q78.T1 := by kernel_rfl
theorem q78.bits1 : waitsOk q78.T1.2 q78.B1 = true := by kernel_rfl
def q78.T3 : Bool × List (List Nat × List Nat) := (true, [([], []), ([0], [0]), ([1], [1]), ([2], [2]), ([3], [3]), ([4], [4]), ([5], [5]), ([6], [6]), ([], []), ([8], [8]), ([9], [9]), ([10], [10]), ([11], [11]), ([12], [12]), ([13], [13]), ([14, 7], [14]), ([7, 15], [7, 15])])
def q78.B3 : List Nat := [0, 1, 3, 7, 15, 31, 63, 127, 0, 256, 768, 1792, 3840, 7936, 16128, 32767, 65535]
theorem q78.tab3 : rtab .any (opsOf Tryz.f78 3) = q78.T3 := by kernel_rfl
theorem q78.bits3 : waitsOk q78.T3.2 q78.B3 = true := by kernel_rfl
def q78.T7 : Bool × List (List Nat × List Nat) := (true, [([], []), ([0], [0]), ([1], [1]), ([2], [2]), ([3], [3]), ([4], [4]), ([5], [5]), ([6], [6]), ([], []), ([8], [8]), ([9], [9]), ([10], [10]), ([11], [11]), ([12], [12]), ([13], [13]), ([14, 7], [14]), ([7, 15], [7, 15])])
def q78.B7 : List Nat := [0, 1, 3, 7, 15, 31, 63, 127, 0, 256, 768, 1792, 3840, 7936, 16128, 32767, 65535]
theorem q78.tab7 : rtab .any (opsOf Tryz.f78 7) = q78.T7 := by kernel_rfl
theorem q78.bits7 : waitsOk q78.T7.2 q78.B7 = true := by kernel_rfl
set_option maxRecDepth 100000 in
set_option maxHeartbeats 8000000 in
theorem count_calls (w : World) (b : Nat) (k : ByteArray) (v : FV) (l r : Tr FV) (h m : Int) (hb : w.heap[b]? = some (.cells (nodeC k v l.adr r.adr h m) 121 (0, 0))) (hl : At w l) (hr : At w r) (bl : 0 ≤ l.hi ∧ l.hi ≤ 1000000) (br : 0 ≤ r.hi ∧ r.hi ≤ 1000000) (ml : 0 ≤ l.many ∧ l.many ≤ 1000000) (mr : 0 ≤ r.many ∧ r.many ≤ 1000000) (nl : b ∉ l.ids) (nr : b ∉ r.ids) :
  Calls Tryz.prog 77 #[.pointer (some ⟨b, 0, none⟩)] w fun e w' => e = .returned (.pointer (some ⟨b, 0, none⟩)) ∧ Mut (fun i => i = b) w w' ∧ w'.heap[b]? = some (.cells (nodeC k v l.adr r.adr (1 + max l.hi r.hi) (1 + l.many + r.many)) 121 (0, 0)) := by
 have hw1 : wrap64 (1 + max l.hi r.hi) = 1 + max l.hi r.hi := wrap_inR (by omega) (by omega)
 have hw2 : wrap64 (1 + l.many) = 1 + l.many := wrap_inR (by omega) (by omega)
 have hw3 : wrap64 (1 + l.many + r.many) = 1 + l.many + r.many := wrap_inR (by omega) (by omega)
 have HK := Aside0.mk (blk_drew hb)
 have HL := Aside0.mk (At.keep (w' := w.drew) hl (fun _ _ _ => rfl))
 have HR := Aside0.mk (At.keep (w' := w.drew) hr (fun _ _ _ => rfl))
 have HN := Aside0.mk (And.intro nl nr)
 clear hl hr nl nr bl br ml mr hb
 go_enter Tryz.func77, Tryz.ntmps77
 go_upto_region 1 with fail
 refine wp_mono (Q := fun e a w => e = .normal ∧ _) ?_ (fun e a w h => h.2)
 refine start_ (n := 16) (S := fun w' => w'.cell? ⟨b, 3, none⟩ = some (.pointer l.adr) ∧ w'.cell? ⟨b, 4, none⟩ = some (.pointer r.adr)) (ds := [15]) #[ff,ff,ff,ff,ff,ff,ff,ff,ff,ff,ff,ff,ff,ff,ff,ff] (by kernel_rfl) rfl rfl ⟨((blk_cell HK.out 3).trans rfl), ((blk_cell HK.out 4).trans rfl)⟩ (fun hHeld => ?_)
 refine with_tabW q77.tab1 q77.bits1 (fun HT_ HW_ => ?_)
 refine pure_ (i := 0) (N := some 3) (v := ?_) (a' := ?_) #[tt,ff,ff,ff,ff,ff,ff,ff,ff,ff,ff,ff,ff,ff,ff,ff] rfl rfl (any_of HT_.out (by kernel_rfl)) (fun _ _ _ h => nomatch h.1) (Or.inl ⟨by rfl, ?_⟩) ?_ ?_
 rotate_left
 ·intro w'
  go_simp
  with_reducible rfl
 rotate_left
 ·simp only [Act.put, sA, sB, sC, i64_w, i32_w]
  rfl
 refine pure_ (i := 1) (N := some 4) (v := ?_) (a' := ?_) #[tt,tt,ff,ff,ff,ff,ff,ff,ff,ff,ff,ff,ff,ff,ff,ff] rfl rfl (any_of HT_.out (by kernel_rfl)) (fun _ _ _ h => nomatch h.1) (Or.inl ⟨by rfl, ?_⟩) ?_ ?_
 rotate_left
 ·intro w'
  go_simp
  with_reducible rfl
 rotate_left
 ·simp only [Act.put, sA, sB, sC, i64_w, i32_w]
  rfl
 refine pure_ (i := 2) (N := some 5) (v := ?_) (a' := ?_) #[tt,tt,tt,ff,ff,ff,ff,ff,ff,ff,ff,ff,ff,ff,ff,ff] rfl rfl (any_of HT_.out (by kernel_rfl)) (fun _ _ _ h => nomatch h.1) (Or.inl ⟨by rfl, ?_⟩) ?_ ?_
 rotate_left
 ·intro w'
  go_simp
  with_reducible rfl
 rotate_left
 ·simp only [Act.put, sA, sB, sC, i64_w, i32_w]
  rfl
 refine pure_ (i := 3) (N := some 6) (v := ?_) (a' := ?_) #[tt,tt,tt,tt,ff,ff,ff,ff,ff,ff,ff,ff,ff,ff,ff,ff] rfl rfl (any_of HT_.out (by kernel_rfl)) (fun _ _ _ h => nomatch h.1) (Or.inl ⟨by rfl, ?_⟩) ?_ ?_
 rotate_left
 ·intro w'
  go_simp
  with_reducible rfl
 rotate_left
 ·simp only [Act.put, sA, sB, sC, i64_w, i32_w]
  rfl
 refine pure_ (i := 6) (N := some 9) (v := ?_) (a' := ?_) #[tt,tt,tt,tt,ff,ff,tt,ff,ff,ff,ff,ff,ff,ff,ff,ff] rfl rfl (any_of HT_.out (by kernel_rfl)) (fun _ _ _ h => nomatch h.1) (Or.inl ⟨by rfl, ?_⟩) ?_ ?_
 rotate_left
 ·intro w'
  go_simp
  with_reducible rfl
 rotate_left
 ·simp only [Act.put, sA, sB, sC, i64_w, i32_w]
  rfl
 refine pure_ (i := 7) (N := some 10) (v := ?_) (a' := ?_) #[tt,tt,tt,tt,ff,ff,tt,tt,ff,ff,ff,ff,ff,ff,ff,ff] rfl rfl (any_of HT_.out (by kernel_rfl)) (fun _ _ _ h => nomatch h.1) (Or.inl ⟨by rfl, ?_⟩) ?_ ?_
 rotate_left
 ·intro w'
  go_simp
  with_reducible rfl
 rotate_left
 ·simp only [Act.put, sA, sB, sC, i64_w, i32_w]
  rfl
 refine pure_ (i := 8) (N := some 11) (v := ?_) (a' := ?_) #[tt,tt,tt,tt,ff,ff,tt,tt,tt,ff,ff,ff,ff,ff,ff,ff] rfl rfl (any_of HT_.out (by kernel_rfl)) (fun _ _ _ h => nomatch h.1) (Or.inl ⟨by rfl, ?_⟩) ?_ ?_
 rotate_left
 ·intro w'
  go_simp
  with_reducible rfl
 rotate_left
 ·simp only [Act.put, sA, sB, sC, i64_w, i32_w]
  rfl
 refine take_ (i := 4) (N := some 7) (v := ?_) (a' := ?_) #[tt,tt,tt,tt,tt,ff,tt,tt,tt,ff,ff,ff,ff,ff,ff,ff] rfl rfl (take_ofW HT_.out HW_.out (by kernel_rfl)) (fun _ _ _ h => nomatch h.1) (Or.inl ⟨by rfl, ?_⟩) hHeld ?_ ?_
 rotate_left
 ·rintro w' ⟨s0, s1⟩
  go_simp
  with_reducible rfl
 rotate_left
 ·simp only [Act.put, sA, sB, sC, i64_w, i32_w]
  rfl
 refine take_ (i := 9) (N := some 12) (v := ?_) (a' := ?_) #[tt,tt,tt,tt,tt,ff,tt,tt,tt,tt,ff,ff,ff,ff,ff,ff] rfl rfl (take_ofW HT_.out HW_.out (by kernel_rfl)) (fun _ _ _ h => nomatch h.1) (Or.inl ⟨by rfl, ?_⟩) hHeld ?_ ?_
 rotate_left
 ·rintro w' ⟨s0, s1⟩
  go_simp
  with_reducible rfl
 rotate_left
 ·simp only [Act.put, sA, sB, sC, i64_w, i32_w]
  rfl
 refine one_ (i := 5) (N := some 8) #[tt,tt,tt,tt,tt,tt,tt,tt,tt,tt,ff,ff,ff,ff,ff,ff] rfl rfl (one_of HT_.out (by kernel_rfl)) (by decide) (fun K hK => ?_)
 refine goes_ Tryz.func88 (by kernel_rfl) rfl #[.pointer l.adr] (by rfl) rfl rfl (by simp only [List.map_toArray, List.map_cons, List.map_nil]; rfl) ?_
 with_reducible refine (height_calls l _ HL.out).mono ?_
 rintro e w1 ⟨rfl, rfl⟩
 refine ⟨_, rfl, ?_⟩
 refine hK.out _ _ ⟨((blk_cell HK.out 3).trans rfl), ((blk_cell HK.out 4).trans rfl)⟩ (fun hHeld => ?_)
 clear hK K
 refine norm_ (a' := ?_) ?_ ?_
 rotate_left
 ·show Act.put _ (some 8) _ = _
  simp only [Act.put, sA, sB, sC, i64_w, i32_w]
  rfl
 refine one_ (i := 10) (N := some 13) #[tt,tt,tt,tt,tt,tt,tt,tt,tt,tt,tt,ff,ff,ff,ff,ff] rfl rfl (one_of HT_.out (by kernel_rfl)) (by decide) (fun K hK => ?_)
 refine goes_ Tryz.func88 (by kernel_rfl) rfl #[.pointer r.adr] (by rfl) rfl rfl (by simp only [List.map_toArray, List.map_cons, List.map_nil]; rfl) ?_
 with_reducible refine (height_calls r _ HR.out).mono ?_
 rintro e w1 ⟨rfl, rfl⟩
 refine ⟨_, rfl, ?_⟩
 refine hK.out _ _ ⟨((blk_cell HK.out 3).trans rfl), ((blk_cell HK.out 4).trans rfl)⟩ (fun hHeld => ?_)
 clear hK K
 refine norm_ (a' := ?_) ?_ ?_
 rotate_left
 ·show Act.put _ (some 13) _ = _
  simp only [Act.put, sA, sB, sC, i64_w, i32_w]
  rfl
 refine pure_ (i := 11) (N := some 14) (v := ?_) (a' := ?_) #[tt,tt,tt,tt,tt,tt,tt,tt,tt,tt,tt,tt,ff,ff,ff,ff] rfl rfl (any_of HT_.out (by kernel_rfl)) (fun _ _ _ h => nomatch h.1) (Or.inl ⟨by rfl, ?_⟩) ?_ ?_
 rotate_left
 ·intro w'
  go_simp
  with_reducible rfl
 rotate_left
 ·simp only [Act.put, sA, sB, sC, i64_w, i32_w]
  rfl
 refine pure_ (i := 12) (N := some 15) (v := ?_) (a' := ?_) #[tt,tt,tt,tt,tt,tt,tt,tt,tt,tt,tt,tt,tt,ff,ff,ff] rfl rfl (any_of HT_.out (by kernel_rfl)) (fun _ _ _ h => nomatch h.1) (Or.inl ⟨by rfl, ?_⟩) ?_ ?_
 rotate_left
 ·intro w'
  go_simp
  with_reducible rfl
 rotate_left
 ·simp only [Act.put, sA, sB, sC, i64_w, i32_w]
  rfl
 refine pure_ (i := 13) (N := some 16) (v := ?_) (a' := ?_) #[tt,tt,tt,tt,tt,tt,tt,tt,tt,tt,tt,tt,tt,tt,ff,ff] rfl rfl (any_of HT_.out (by kernel_rfl)) (fun _ _ _ h => nomatch h.1) (Or.inl ⟨by rfl, ?_⟩) ?_ ?_
 rotate_left
 ·intro w'
  go_simp
  with_reducible rfl
 rotate_left
 ·simp only [Act.put, sA, sB, sC, i64_w, i32_w]
  rfl
 refine pure_ (i := 14) (N := some 17) (v := ?_) (a' := ?_) #[tt,tt,tt,tt,tt,tt,tt,tt,tt,tt,tt,tt,tt,tt,tt,ff] rfl rfl (any_of HT_.out (by kernel_rfl)) (fun _ _ _ h => nomatch h.1) (Or.inl ⟨by rfl, ?_⟩) ?_ ?_
 rotate_left
 ·intro w'
  go_simp
  with_reducible rfl
 rotate_left
 ·simp only [Act.put, sA, sB, sC, i64_w, i32_w]
  rfl
 refine last_ (i := 15) (N := none) #[tt,tt,tt,tt,tt,tt,tt,tt,tt,tt,tt,tt,tt,tt,tt,tt] rfl rfl (one_of HT_.out (by kernel_rfl)) (by decide) (fun K hK => ?_)
 have d5 := (blk_cell HK.out 5).trans rfl
 have f5 := blk_frozen HK.out 5
 refine skip_ (w1 := ?_) (by rfl) rfl ?_ ?_
 rotate_left
 ·go_simp
  rfl
 refine hK.out _ _ ?_
 clear hK K
 refine done_ (done_of HT_.out (by kernel_rfl)) ?_
 refine ⟨rfl, ?_⟩
 clear hHeld HT_ HW_
 have hmx : (if l.hi < r.hi then r.hi else l.hi) = max l.hi r.hi := by omega
 rw [hmx, hw1]
 have HM := Aside0.mk (((Mut.refl (fun i => i = b) w).set (.inl rfl) 5 (.int .i64 (1 + max l.hi r.hi))).drew)
 have n_K := Aside0.mk (blk_drew (blk_put (show w.heap[b]? = some (.cells (nodeC k v l.adr r.adr h m) 121 (0, 0)) from HK.out) 5 (.int .i64 (1 + max l.hi r.hi)) (show _ = nodeC k v l.adr r.adr (1 + max l.hi r.hi) m from rfl)))
 have n_L := Aside0.mk (At.mut (show At w l from At.keep HL.out (fun _ _ _ => rfl)) HM.out (fun i hi e => HN.out.1 (e ▸ hi)))
 have n_R := Aside0.mk (At.mut (show At w r from At.keep HR.out (fun _ _ _ => rfl)) HM.out (fun i hi e => HN.out.2 (e ▸ hi)))
 clear HK HL HR hmx
 generalize (w.setCell ⟨b, 5, none⟩ (.int .i64 (1 + max l.hi r.hi))).drew = W1 at HM n_K n_L n_R ⊢
 go_upto_region 2 with fail
 have HK := Aside0.mk (blk_drew n_K.out)
 have HL := Aside0.mk (At.keep (w' := W1.drew) n_L.out (fun _ _ _ => rfl))
 have HR := Aside0.mk (At.keep (w' := W1.drew) n_R.out (fun _ _ _ => rfl))
 clear n_K n_L n_R
 refine wp_mono (Q := fun e a w => e = .normal ∧ _) ?_ (fun e a w h => h.2)
 refine start_ (n := 16) (S := fun w' => w'.cell? ⟨b, 3, none⟩ = some (.pointer l.adr) ∧ w'.cell? ⟨b, 4, none⟩ = some (.pointer r.adr)) (ds := [15]) #[ff,ff,ff,ff,ff,ff,ff,ff,ff,ff,ff,ff,ff,ff,ff,ff] (by kernel_rfl) rfl rfl ⟨((blk_cell HK.out 3).trans rfl), ((blk_cell HK.out 4).trans rfl)⟩ (fun hHeld => ?_)
 refine with_tabW q77.tab2 q77.bits2 (fun HT_ HW_ => ?_)
 refine pure_ (i := 0) (N := some 18) (v := ?_) (a' := ?_) #[tt,ff,ff,ff,ff,ff,ff,ff,ff,ff,ff,ff,ff,ff,ff,ff] rfl rfl (any_of HT_.out (by kernel_rfl)) (fun _ _ _ h => nomatch h.1) (Or.inl ⟨by rfl, ?_⟩) ?_ ?_
 rotate_left
 ·intro w'
  go_simp
  with_reducible rfl
 rotate_left
 ·simp only [Act.put, sA, sB, sC, i64_w, i32_w]
  rfl
 refine pure_ (i := 1) (N := some 19) (v := ?_) (a' := ?_) #[tt,tt,ff,ff,ff,ff,ff,ff,ff,ff,ff,ff,ff,ff,ff,ff] rfl rfl (any_of HT_.out (by kernel_rfl)) (fun _ _ _ h => nomatch h.1) (Or.inl ⟨by rfl, ?_⟩) ?_ ?_
 rotate_left
 ·intro w'
  go_simp
  with_reducible rfl
 rotate_left
 ·simp only [Act.put, sA, sB, sC, i64_w, i32_w]
  rfl
 refine pure_ (i := 2) (N := some 20) (v := ?_) (a' := ?_) #[tt,tt,tt,ff,ff,ff,ff,ff,ff,ff,ff,ff,ff,ff,ff,ff] rfl rfl (any_of HT_.out (by kernel_rfl)) (fun _ _ _ h => nomatch h.1) (Or.inl ⟨by rfl, ?_⟩) ?_ ?_
 rotate_left
 ·intro w'
  go_simp
  with_reducible rfl
 rotate_left
 ·simp only [Act.put, sA, sB, sC, i64_w, i32_w]
  rfl
 refine pure_ (i := 3) (N := some 21) (v := ?_) (a' := ?_) #[tt,tt,tt,tt,ff,ff,ff,ff,ff,ff,ff,ff,ff,ff,ff,ff] rfl rfl (any_of HT_.out (by kernel_rfl)) (fun _ _ _ h => nomatch h.1) (Or.inl ⟨by rfl, ?_⟩) ?_ ?_
 rotate_left
 ·intro w'
  go_simp
  with_reducible rfl
 rotate_left
 ·simp only [Act.put, sA, sB, sC, i64_w, i32_w]
  rfl
 refine pure_ (i := 7) (N := some 25) (v := ?_) (a' := ?_) #[tt,tt,tt,tt,ff,ff,ff,tt,ff,ff,ff,ff,ff,ff,ff,ff] rfl rfl (any_of HT_.out (by kernel_rfl)) (fun _ _ _ h => nomatch h.1) (Or.inl ⟨by rfl, ?_⟩) ?_ ?_
 rotate_left
 ·intro w'
  go_simp
  with_reducible rfl
 rotate_left
 ·simp only [Act.put, sA, sB, sC, i64_w, i32_w]
  rfl
 refine pure_ (i := 8) (N := some 26) (v := ?_) (a' := ?_) #[tt,tt,tt,tt,ff,ff,ff,tt,tt,ff,ff,ff,ff,ff,ff,ff] rfl rfl (any_of HT_.out (by kernel_rfl)) (fun _ _ _ h => nomatch h.1) (Or.inl ⟨by rfl, ?_⟩) ?_ ?_
 rotate_left
 ·intro w'
  go_simp
  with_reducible rfl
 rotate_left
 ·simp only [Act.put, sA, sB, sC, i64_w, i32_w]
  rfl
 refine pure_ (i := 9) (N := some 27) (v := ?_) (a' := ?_) #[tt,tt,tt,tt,ff,ff,ff,tt,tt,tt,ff,ff,ff,ff,ff,ff] rfl rfl (any_of HT_.out (by kernel_rfl)) (fun _ _ _ h => nomatch h.1) (Or.inl ⟨by rfl, ?_⟩) ?_ ?_
 rotate_left
 ·intro w'
  go_simp
  with_reducible rfl
 rotate_left
 ·simp only [Act.put, sA, sB, sC, i64_w, i32_w]
  rfl
 refine take_ (i := 4) (N := some 22) (v := ?_) (a' := ?_) #[tt,tt,tt,tt,tt,ff,ff,tt,tt,tt,ff,ff,ff,ff,ff,ff] rfl rfl (take_ofW HT_.out HW_.out (by kernel_rfl)) (fun _ _ _ h => nomatch h.1) (Or.inl ⟨by rfl, ?_⟩) hHeld ?_ ?_
 rotate_left
 ·rintro w' ⟨s0, s1⟩
  go_simp
  with_reducible rfl
 rotate_left
 ·simp only [Act.put, sA, sB, sC, i64_w, i32_w]
  rfl
 refine take_ (i := 10) (N := some 28) (v := ?_) (a' := ?_) #[tt,tt,tt,tt,tt,ff,ff,tt,tt,tt,tt,ff,ff,ff,ff,ff] rfl rfl (take_ofW HT_.out HW_.out (by kernel_rfl)) (fun _ _ _ h => nomatch h.1) (Or.inl ⟨by rfl, ?_⟩) hHeld ?_ ?_
 rotate_left
 ·rintro w' ⟨s0, s1⟩
  go_simp
  with_reducible rfl
 rotate_left
 ·simp only [Act.put, sA, sB, sC, i64_w, i32_w]
  rfl
 refine one_ (i := 5) (N := some 23) #[tt,tt,tt,tt,tt,tt,ff,tt,tt,tt,tt,ff,ff,ff,ff,ff] rfl rfl (one_of HT_.out (by kernel_rfl)) (by decide) (fun K hK => ?_)
 refine goes_ Tryz.func72 (by kernel_rfl) rfl #[.pointer l.adr] (by rfl) rfl rfl (by simp only [List.map_toArray, List.map_cons, List.map_nil]; rfl) ?_
 with_reducible refine (size_calls l _ HL.out).mono ?_
 rintro e w1 ⟨rfl, rfl⟩
 refine ⟨_, rfl, ?_⟩
 refine hK.out _ _ ⟨((blk_cell HK.out 3).trans rfl), ((blk_cell HK.out 4).trans rfl)⟩ (fun hHeld => ?_)
 clear hK K
 refine norm_ (a' := ?_) ?_ ?_
 rotate_left
 ·show Act.put _ (some 23) _ = _
  simp only [Act.put, sA, sB, sC, i64_w, i32_w]
  rfl
 refine pure_ (i := 6) (N := some 24) (v := ?_) (a' := ?_) #[tt,tt,tt,tt,tt,tt,tt,tt,tt,tt,tt,ff,ff,ff,ff,ff] rfl rfl (any_of HT_.out (by kernel_rfl)) (fun _ _ _ h => nomatch h.1) (Or.inl ⟨by rfl, ?_⟩) ?_ ?_
 rotate_left
 ·intro w'
  go_simp
  with_reducible rfl
 rotate_left
 ·simp only [Act.put, sA, sB, sC, i64_w, i32_w]
  rfl
 refine one_ (i := 11) (N := some 29) #[tt,tt,tt,tt,tt,tt,tt,tt,tt,tt,tt,tt,ff,ff,ff,ff] rfl rfl (one_of HT_.out (by kernel_rfl)) (by decide) (fun K hK => ?_)
 refine goes_ Tryz.func72 (by kernel_rfl) rfl #[.pointer r.adr] (by rfl) rfl rfl (by simp only [List.map_toArray, List.map_cons, List.map_nil]; rfl) ?_
 with_reducible refine (size_calls r _ HR.out).mono ?_
 rintro e w1 ⟨rfl, rfl⟩
 refine ⟨_, rfl, ?_⟩
 refine hK.out _ _ ⟨((blk_cell HK.out 3).trans rfl), ((blk_cell HK.out 4).trans rfl)⟩ (fun hHeld => ?_)
 clear hK K
 refine norm_ (a' := ?_) ?_ ?_
 rotate_left
 ·show Act.put _ (some 29) _ = _
  simp only [Act.put, sA, sB, sC, i64_w, i32_w]
  rfl
 refine pure_ (i := 12) (N := some 30) (v := ?_) (a' := ?_) #[tt,tt,tt,tt,tt,tt,tt,tt,tt,tt,tt,tt,tt,ff,ff,ff] rfl rfl (any_of HT_.out (by kernel_rfl)) (fun _ _ _ h => nomatch h.1) (Or.inl ⟨by rfl, ?_⟩) ?_ ?_
 rotate_left
 ·intro w'
  go_simp
  with_reducible rfl
 rotate_left
 ·simp only [Act.put, sA, sB, sC, i64_w, i32_w]
  rfl
 refine pure_ (i := 13) (N := some 31) (v := ?_) (a' := ?_) #[tt,tt,tt,tt,tt,tt,tt,tt,tt,tt,tt,tt,tt,tt,ff,ff] rfl rfl (any_of HT_.out (by kernel_rfl)) (fun _ _ _ h => nomatch h.1) (Or.inl ⟨by rfl, ?_⟩) ?_ ?_
 rotate_left
 ·intro w'
  go_simp
  with_reducible rfl
 rotate_left
 ·simp only [Act.put, sA, sB, sC, i64_w, i32_w]
  rfl
 refine pure_ (i := 14) (N := some 32) (v := ?_) (a' := ?_) #[tt,tt,tt,tt,tt,tt,tt,tt,tt,tt,tt,tt,tt,tt,tt,ff] rfl rfl (any_of HT_.out (by kernel_rfl)) (fun _ _ _ h => nomatch h.1) (Or.inl ⟨by rfl, ?_⟩) ?_ ?_
 rotate_left
 ·intro w'
  go_simp
  with_reducible rfl
 rotate_left
 ·simp only [Act.put, sA, sB, sC, i64_w, i32_w]
  rfl
 refine last_ (i := 15) (N := none) #[tt,tt,tt,tt,tt,tt,tt,tt,tt,tt,tt,tt,tt,tt,tt,tt] rfl rfl (one_of HT_.out (by kernel_rfl)) (by decide) (fun K hK => ?_)
 have d6 := (blk_cell HK.out 6).trans rfl
 have f6 := blk_frozen HK.out 6
 refine skip_ (w1 := ?_) (by rfl) rfl ?_ ?_
 rotate_left
 ·go_simp
  rfl
 refine hK.out _ _ ?_
 clear hK K
 refine done_ (done_of HT_.out (by kernel_rfl)) ?_
 refine ⟨rfl, ?_⟩
 clear hHeld HT_ HW_
 (try rw [hw2])
 (try rw [hw3])
 have HM2 := Aside0.mk (((Mut.refl (fun i => i = b) W1).set (.inl rfl) 6 (.int .i64 (1 + l.many + r.many))).drew)
 have n_K := Aside0.mk (blk_drew (blk_put (show W1.heap[b]? = some (.cells (nodeC k v l.adr r.adr (1 + max l.hi r.hi) m) 121 (0, 0)) from HK.out) 6 (.int .i64 (1 + l.many + r.many)) (show _ = nodeC k v l.adr r.adr (1 + max l.hi r.hi) (1 + l.many + r.many) from rfl)))
 generalize (W1.setCell ⟨b, 6, none⟩ (.int .i64 (1 + l.many + r.many))).drew = W2 at HM2 n_K ⊢
 go_wp2
 exact bodyPost_ret (v := .pointer (some ⟨b, 0, none⟩)) (by simp [results, Tryz.results77, go_sem]) rfl ⟨rfl, HM.out.trans HM2.out (fun _ e => e) (fun _ e _ => e), n_K.out⟩
set_option maxRecDepth 100000 in
set_option maxHeartbeats 8000000 in
theorem toRight_calls (w : World) (b : Nat) (k : ByteArray) (v : FV) (tb : Nat) (tk : ByteArray) (tv : FV) (tl tr : Tr FV) (th tm : Int) (r : Tr FV) (h m : Int) (hb : w.heap[b]? = some (.cells (nodeC k v (some ⟨tb, 0, none⟩) r.adr h m) 121 (0, 0))) (ht : At w (.node tb tk tv tl tr th tm)) (hr : At w r) (wt : (Tr.node tb tk tv tl tr th tm).wf) (wr : Tr.wf r) (zt : (Tr.node tb tk tv tl tr th tm).toL.length ≤ 1000) (zr : (Tr.toL r).length ≤ 1000) (hn : ((tl.ids ++ tb :: tr.ids) ++ b :: r.ids).Nodup) :
  Calls Tryz.prog 90 #[.pointer (some ⟨b, 0, none⟩)] w fun e w' => e = .returned (.pointer (some ⟨tb, 0, none⟩)) ∧ Mut (fun i => i = b ∨ i = tb) w w' ∧ At w' (Tr.toRight b k v (.node tb tk tv tl tr th tm) r) := by
 obtain ⟨n1, n2, n3, n4, n5, n6, n7⟩ := parts hn
 have NN := Aside0.mk (And.intro n1 (And.intro n2 (And.intro n3 (And.intro n4 (And.intro n5 (And.intro n6 n7))))))
 have BT := Aside0.mk (bd wt zt)
 have BR := Aside0.mk (bd wr zr)
 have BI := Aside0.mk (bd (t := tr) wt.2.2.2 (by simp only [Tr.toL, List.length_append, List.length_cons] at zt; omega))
 have BO := Aside0.mk (bd (t := tl) wt.2.2.1 (by simp only [Tr.toL, List.length_append, List.length_cons] at zt; omega))
 have hb2 : ∀ t : Tr FV, t.toL.length ≤ 1000 → t.wf → (0 ≤ t.hi ∧ t.hi ≤ 100000) ∧ (0 ≤ t.many ∧ t.many ≤ 100000) := fun t z wf => by have h1 := Tr.hi_nonneg wf; have h2 := Tr.hi_le wf; have h3 := Tr.many_eq wf; omega
 have BM := Aside0.mk (And.intro (hb2 tr (by simp only [Tr.toL, List.length_append, List.length_cons] at zt; omega) wt.2.2.2) (hb2 r zr wr))
 clear hb2 n1 n2 n3 n4 n5 n6 n7 hn zt zr wt wr
 have HK := Aside0.mk hb
 have HT := Aside0.mk ht.1
 have HI := Aside0.mk ht.2.2
 have HO := Aside0.mk ht.2.1
 have HR := Aside0.mk hr
 have d0 : w.cell? ⟨b, 3, none⟩ = some (.pointer (some ⟨tb, 0, none⟩)) := (blk_cell hb 3).trans rfl
 clear hb ht hr
 go_enter Tryz.func90, Tryz.ntmps90
 go_upto_region 2 with fail
 clear d0
 have HD := Aside0.mk ((Mut.refl (fun i => i = b ∨ i = tb) w).drew)
 have HKd := Aside0.mk (blk_drew HK.out)
 have HTd := Aside0.mk (blk_drew HT.out)
 have HId := Aside0.mk (At.keep (w' := w.drew) HI.out (fun _ _ _ => rfl))
 have HOd := Aside0.mk (At.keep (w' := w.drew) HO.out (fun _ _ _ => rfl))
 have HRd := Aside0.mk (At.keep (w' := w.drew) HR.out (fun _ _ _ => rfl))
 clear HK HT HI HO HR
 refine wp_mono (Q := fun e a w => e = .normal ∧ _) ?_ (fun e a w h => h.2)
 refine start_ (n := 14) (S := fun w' => w'.cell? ⟨tb, 4, none⟩ = some (.pointer tr.adr)) (ds := [10, 13]) #[ff,ff,ff,ff,ff,ff,ff,ff,ff,ff,ff,ff,ff,ff] (by kernel_rfl) rfl rfl (((blk_cell HTd.out 4).trans rfl)) (fun hHeld => ?_)
 refine with_tabW q90.tab2 q90.bits2 (fun HT_ HW_ => ?_)
 refine pure_ (i := 0) (N := some 8) (v := ?_) (a' := ?_) #[tt,ff,ff,ff,ff,ff,ff,ff,ff,ff,ff,ff,ff,ff] rfl rfl (any_of HT_.out (by kernel_rfl)) (fun _ _ _ h => nomatch h.1) (Or.inl ⟨by rfl, ?_⟩) ?_ ?_
 rotate_left
 ·intro w'
  go_simp
  with_reducible rfl
 rotate_left
 ·simp only [Act.put, sA, sB, sC, i64_w, i32_w]
  rfl
 refine pure_ (i := 1) (N := some 9) (v := ?_) (a' := ?_) #[tt,tt,ff,ff,ff,ff,ff,ff,ff,ff,ff,ff,ff,ff] rfl rfl (any_of HT_.out (by kernel_rfl)) (fun _ _ _ h => nomatch h.1) (Or.inl ⟨by rfl, ?_⟩) ?_ ?_
 rotate_left
 ·intro w'
  go_simp
  with_reducible rfl
 rotate_left
 ·simp only [Act.put, sA, sB, sC, i64_w, i32_w]
  rfl
 refine pure_ (i := 2) (N := some 10) (v := ?_) (a' := ?_) #[tt,tt,tt,ff,ff,ff,ff,ff,ff,ff,ff,ff,ff,ff] rfl rfl (any_of HT_.out (by kernel_rfl)) (fun _ _ _ h => nomatch h.1) (Or.inl ⟨by rfl, ?_⟩) ?_ ?_
 rotate_left
 ·intro w'
  go_simp
  with_reducible rfl
 rotate_left
 ·simp only [Act.put, sA, sB, sC, i64_w, i32_w]
  rfl
 refine pure_ (i := 3) (N := some 11) (v := ?_) (a' := ?_) #[tt,tt,tt,tt,ff,ff,ff,ff,ff,ff,ff,ff,ff,ff] rfl rfl (any_of HT_.out (by kernel_rfl)) (fun _ _ _ h => nomatch h.1) (Or.inl ⟨by rfl, ?_⟩) ?_ ?_
 rotate_left
 ·intro w'
  go_simp
  with_reducible rfl
 rotate_left
 ·simp only [Act.put, sA, sB, sC, i64_w, i32_w]
  rfl
 refine pure_ (i := 4) (N := some 12) (v := ?_) (a' := ?_) #[tt,tt,tt,tt,tt,ff,ff,ff,ff,ff,ff,ff,ff,ff] rfl rfl (any_of HT_.out (by kernel_rfl)) (fun _ _ _ h => nomatch h.1) (Or.inl ⟨by rfl, ?_⟩) ?_ ?_
 rotate_left
 ·intro w'
  go_simp
  with_reducible rfl
 rotate_left
 ·simp only [Act.put, sA, sB, sC, i64_w, i32_w]
  rfl
 refine pure_ (i := 6) (N := some 14) (v := ?_) (a' := ?_) #[tt,tt,tt,tt,tt,ff,tt,ff,ff,ff,ff,ff,ff,ff] rfl rfl (any_of HT_.out (by kernel_rfl)) (fun _ _ _ h => nomatch h.1) (Or.inl ⟨by rfl, ?_⟩) ?_ ?_
 rotate_left
 ·intro w'
  go_simp
  with_reducible rfl
 rotate_left
 ·simp only [Act.put, sA, sB, sC, i64_w, i32_w]
  rfl
 refine take_ (i := 5) (N := some 13) (v := ?_) (a' := ?_) #[tt,tt,tt,tt,tt,tt,tt,ff,ff,ff,ff,ff,ff,ff] rfl rfl (take_ofW HT_.out HW_.out (by kernel_rfl)) (fun _ _ _ h => nomatch h.1) (Or.inl ⟨by rfl, ?_⟩) hHeld ?_ ?_
 rotate_left
 ·intro w' s0
  go_simp
  with_reducible rfl
 rotate_left
 ·simp only [Act.put, sA, sB, sC, i64_w, i32_w]
  rfl
 refine one_ (i := 7) (N := some 15) #[tt,tt,tt,tt,tt,tt,tt,tt,ff,ff,ff,ff,ff,ff] rfl rfl (one_of HT_.out (by kernel_rfl)) (by decide) (fun K hK => ?_)
 refine goes_ Tryz.func77 (by kernel_rfl) rfl #[.pointer (some ⟨b, 0, none⟩)] (by rfl) rfl rfl (by simp only [List.map_toArray, List.map_cons, List.map_nil]; rfl) ?_
 with_reducible refine (count_calls _ b k v (.node tb tk tv tl tr th tm) r _ _ HKd.out (At.mk HTd.out HOd.out HId.out) HRd.out BT.out.1 BR.out.1 BT.out.2 BR.out.2 (by simp only [Tr.ids, List.mem_append, List.mem_cons, not_or]; exact ⟨NN.out.2.1, NN.out.1, NN.out.2.2.1⟩) NN.out.2.2.2.1).mono ?_
 rintro e w1 ⟨rfl, hM, hK⟩
 refine ⟨_, rfl, ?_⟩
 have n_K := Aside0.mk hK
 have n_T := Aside0.mk (hM.blk HTd.out (Ne.symm NN.out.1))
 have n_I := Aside0.mk (HId.out.mut hM (fun i hi e => NN.out.2.2.1 (e ▸ hi)))
 have n_O := Aside0.mk (HOd.out.mut hM (fun i hi e => NN.out.2.1 (e ▸ hi)))
 have n_R := Aside0.mk (HRd.out.mut hM (fun i hi e => NN.out.2.2.2.1 (e ▸ hi)))
 have n_D := Aside0.mk (HD.out.trans hM (fun _ e => e) (fun _ e _ => .inl e))
 clear hM hK HKd HTd HId HOd HRd HD
 refine hK.out _ _ (((blk_cell n_T.out 4).trans rfl)) (fun hHeld => ?_)
 clear hK K
 refine norm_ (a' := ?_) ?_ ?_
 rotate_left
 ·show Act.put _ (some 15) _ = _
  simp only [Act.put, sA, sB, sC, i64_w, i32_w]
  rfl
 refine pure_ (i := 8) (N := some 16) (v := ?_) (a' := ?_) #[tt,tt,tt,tt,tt,tt,tt,tt,tt,ff,ff,ff,ff,ff] rfl rfl (any_of HT_.out (by kernel_rfl)) (fun _ _ _ h => nomatch h.1) (Or.inl ⟨by rfl, ?_⟩) ?_ ?_
 rotate_left
 ·intro w'
  go_simp
  with_reducible rfl
 rotate_left
 ·simp only [Act.put, sA, sB, sC, i64_w, i32_w]
  rfl
 refine pure_ (i := 9) (N := some 17) (v := ?_) (a' := ?_) #[tt,tt,tt,tt,tt,tt,tt,tt,tt,tt,ff,ff,ff,ff] rfl rfl (any_of HT_.out (by kernel_rfl)) (fun _ _ _ h => nomatch h.1) (Or.inl ⟨by rfl, ?_⟩) ?_ ?_
 rotate_left
 ·intro w'
  go_simp
  with_reducible rfl
 rotate_left
 ·simp only [Act.put, sA, sB, sC, i64_w, i32_w]
  rfl
 refine last_ (i := 10) (N := none) #[tt,tt,tt,tt,tt,tt,tt,tt,tt,tt,tt,ff,ff,ff] rfl rfl (one_of HT_.out (by kernel_rfl)) (by decide) (fun K hK => ?_)
 have d3 := (blk_cell n_K.out 3).trans rfl
 have f3 := blk_frozen n_K.out 3
 refine skip_ (w1 := ?_) (by rfl) rfl ?_ ?_
 rotate_left
 ·go_simp
  rfl
 refine hK.out _ _ ?_
 clear hK K
 refine pure_ (i := 11) (N := some 18) (v := ?_) (a' := ?_) #[tt,tt,tt,tt,tt,tt,tt,tt,tt,tt,tt,tt,ff,ff] rfl rfl (any_of HT_.out (by kernel_rfl)) (fun _ _ _ h => nomatch h.1) (Or.inl ⟨by rfl, ?_⟩) ?_ ?_
 rotate_left
 ·intro w'
  go_simp
  with_reducible rfl
 rotate_left
 ·simp only [Act.put, sA, sB, sC, i64_w, i32_w]
  rfl
 refine pure_ (i := 12) (N := some 19) (v := ?_) (a' := ?_) #[tt,tt,tt,tt,tt,tt,tt,tt,tt,tt,tt,tt,tt,ff] rfl rfl (any_of HT_.out (by kernel_rfl)) (fun _ _ _ h => nomatch h.1) (Or.inl ⟨by rfl, ?_⟩) ?_ ?_
 rotate_left
 ·intro w'
  go_simp
  with_reducible rfl
 rotate_left
 ·simp only [Act.put, sA, sB, sC, i64_w, i32_w]
  rfl
 refine last_ (i := 13) (N := none) #[tt,tt,tt,tt,tt,tt,tt,tt,tt,tt,tt,tt,tt,tt] rfl rfl (one_of HT_.out (by kernel_rfl)) (by decide) (fun K hK => ?_)
 have d4 : (w1.setCell ⟨b, 3, none⟩ (.pointer tr.adr)).cell? ⟨tb, 4, none⟩ = some (.pointer tr.adr) := (blk_cell (blk_far (p := ⟨b, 3, none⟩) n_T.out (Ne.symm NN.out.1) (.pointer tr.adr)) 4).trans rfl
 have f4 := blk_frozen (blk_far (p := ⟨b, 3, none⟩) n_T.out (Ne.symm NN.out.1) (.pointer tr.adr)) 4
 refine skip_ (w1 := ?_) (by rfl) rfl ?_ ?_
 rotate_left
 ·go_simp
  rfl
 refine hK.out _ _ ?_
 clear hK K
 refine done_ (done_of HT_.out (by kernel_rfl)) ?_
 refine ⟨rfl, ?_⟩
 clear hHeld HT_ HW_
 have hM3 : Mut (fun i => i = b ∨ i = tb) w1 ((w1.setCell ⟨b, 3, none⟩ (.pointer tr.adr)).setCell ⟨tb, 4, none⟩ (.pointer (some ⟨b, 0, none⟩))) := ((Mut.refl _ w1).set (.inl (.inl rfl)) 3 _).set (.inl (.inr rfl)) 4 _
 have k3 : ((w1.setCell ⟨b, 3, none⟩ (.pointer tr.adr)).setCell ⟨tb, 4, none⟩ (.pointer (some ⟨b, 0, none⟩))).heap[b]? = some (.cells (nodeC k v tr.adr r.adr (1 + max th r.hi) (1 + tm + r.many)) 121 (0, 0)) := blk_far (p := ⟨tb, 4, none⟩) (blk_put n_K.out 3 (.pointer tr.adr) rfl) NN.out.1 _
 have t3 : ((w1.setCell ⟨b, 3, none⟩ (.pointer tr.adr)).setCell ⟨tb, 4, none⟩ (.pointer (some ⟨b, 0, none⟩))).heap[tb]? = some (.cells (nodeC tk tv tl.adr (some ⟨b, 0, none⟩) th tm) 121 (0, 0)) := blk_put (blk_far (p := ⟨b, 3, none⟩) n_T.out (Ne.symm NN.out.1) _) 4 _ rfl
 have HK := Aside0.mk k3
 have HT := Aside0.mk t3
 have HI := Aside0.mk (n_I.out.mut hM3 (fun i hi e => e.elim (fun e => NN.out.2.2.1 (e ▸ hi)) (fun e => NN.out.2.2.2.2.2.1 (e ▸ hi))))
 have HO := Aside0.mk (n_O.out.mut hM3 (fun i hi e => e.elim (fun e => NN.out.2.1 (e ▸ hi)) (fun e => NN.out.2.2.2.2.1 (e ▸ hi))))
 have HR := Aside0.mk (n_R.out.mut hM3 (fun i hi e => e.elim (fun e => NN.out.2.2.2.1 (e ▸ hi)) (fun e => NN.out.2.2.2.2.2.2 (e ▸ hi))))
 have HD := Aside0.mk (n_D.out.trans hM3 (fun _ e => e) (fun _ e _ => e))
 clear n_K n_T n_I n_O n_R n_D k3 t3 hM3
 generalize (w1.setCell ⟨b, 3, none⟩ (.pointer tr.adr)).setCell ⟨tb, 4, none⟩ (.pointer (some ⟨b, 0, none⟩)) = W2 at HK HT HI HO HR HD ⊢
 go_upto_region 4 with (go_at_call 77; refine (show Calls _ _ _ _ _ from count_calls W2 b k v tr r _ _ HK.out HI.out HR.out BI.out.1 BR.out.1 BI.out.2 BR.out.2 NN.out.2.2.1 NN.out.2.2.2.1).mono ?_; rintro e w5 ⟨rfl, hM, hK⟩; have n_K := Aside0.mk hK; have n_T := Aside0.mk (hM.blk HT.out (Ne.symm NN.out.1)); have n_I := Aside0.mk (HI.out.mut hM (fun i hi e => NN.out.2.2.1 (e ▸ hi))); have n_O := Aside0.mk (HO.out.mut hM (fun i hi e => NN.out.2.1 (e ▸ hi))); have n_R := Aside0.mk (HR.out.mut hM (fun i hi e => NN.out.2.2.2.1 (e ▸ hi))); have n_D := Aside0.mk (HD.out.trans hM (fun _ e => e) (fun _ e _ => .inl e)); clear hM hK HK HT HI HO HR HD)
 go_wp2_with (go_at_call 77; refine (show Calls _ _ _ _ _ from count_calls w5 tb tk tv tl (Tr.mk b k v tr r) _ _ n_T.out n_O.out (show At w5 (Tr.mk b k v tr r) from At.mk n_K.out n_I.out n_R.out) BO.out.1 (bd_mk BM.out.1.1 BM.out.2.1 BM.out.1.2 BM.out.2.2).1 BO.out.2 (bd_mk BM.out.1.1 BM.out.2.1 BM.out.1.2 BM.out.2.2).2 NN.out.2.2.2.2.1 (show tb ∉ (Tr.mk b k v tr r).ids from by simp only [Tr.mk, Tr.ids, List.mem_append, List.mem_cons, not_or]; exact ⟨NN.out.2.2.2.2.2.1, Ne.symm NN.out.1, NN.out.2.2.2.2.2.2⟩)).mono ?_; rintro e w6 ⟨rfl, hM, hK⟩; have HK6 := Aside0.mk hK; have HM6 := Aside0.mk hM; clear hM hK)
 have hN6 : At w6 (Tr.mk b k v tr r) := ((show At w5 (Tr.mk b k v tr r) from At.mk n_K.out n_I.out n_R.out)).mut HM6.out (fun i hi e => (show tb ∉ (Tr.mk b k v tr r).ids from by simp only [Tr.mk, Tr.ids, List.mem_append, List.mem_cons, not_or]; exact ⟨NN.out.2.2.2.2.2.1, Ne.symm NN.out.1, NN.out.2.2.2.2.2.2⟩) (e ▸ hi))
 have hO6 := n_O.out.mut HM6.out (fun i hi e => NN.out.2.2.2.2.1 (e ▸ hi))
 exact bodyPost_ret (v := .pointer (some ⟨tb, 0, none⟩)) (by simp [results, Tryz.results90, go_sem]) rfl ⟨rfl, n_D.out.trans HM6.out (fun _ e => e) (fun _ e _ => .inr e), At.mk HK6.out hO6 hN6⟩
set_option maxRecDepth 100000 in
set_option maxHeartbeats 8000000 in
theorem toLeft_calls (w : World) (b : Nat) (k : ByteArray) (v : FV) (tb : Nat) (tk : ByteArray) (tv : FV) (tl tr : Tr FV) (th tm : Int) (l : Tr FV) (h m : Int) (hb : w.heap[b]? = some (.cells (nodeC k v l.adr (some ⟨tb, 0, none⟩) h m) 121 (0, 0))) (ht : At w (.node tb tk tv tl tr th tm)) (hr : At w l) (wt : (Tr.node tb tk tv tl tr th tm).wf) (wr : Tr.wf l) (zt : (Tr.node tb tk tv tl tr th tm).toL.length ≤ 1000) (zr : (Tr.toL l).length ≤ 1000) (hn : (l.ids ++ b :: (tl.ids ++ tb :: tr.ids)).Nodup) :
  Calls Tryz.prog 89 #[.pointer (some ⟨b, 0, none⟩)] w fun e w' => e = .returned (.pointer (some ⟨tb, 0, none⟩)) ∧ Mut (fun i => i = b ∨ i = tb) w w' ∧ At w' (Tr.toLeft b k v l (.node tb tk tv tl tr th tm)) := by
 obtain ⟨n1, n2, n3, n4, n5, n6, n7⟩ := parts2 hn
 have NN := Aside0.mk (And.intro n1 (And.intro n2 (And.intro n3 (And.intro n4 (And.intro n5 (And.intro n6 n7))))))
 have BT := Aside0.mk (bd wt zt)
 have BR := Aside0.mk (bd wr zr)
 have BI := Aside0.mk (bd (t := tl) wt.2.2.1 (by simp only [Tr.toL, List.length_append, List.length_cons] at zt; omega))
 have BO := Aside0.mk (bd (t := tr) wt.2.2.2 (by simp only [Tr.toL, List.length_append, List.length_cons] at zt; omega))
 have hb2 : ∀ t : Tr FV, t.toL.length ≤ 1000 → t.wf → (0 ≤ t.hi ∧ t.hi ≤ 100000) ∧ (0 ≤ t.many ∧ t.many ≤ 100000) := fun t z wf => by have h1 := Tr.hi_nonneg wf; have h2 := Tr.hi_le wf; have h3 := Tr.many_eq wf; omega
 have BM := Aside0.mk (And.intro (hb2 tl (by simp only [Tr.toL, List.length_append, List.length_cons] at zt; omega) wt.2.2.1) (hb2 l zr wr))
 clear hb2 n1 n2 n3 n4 n5 n6 n7 hn zt zr wt wr
 have HK := Aside0.mk hb
 have HT := Aside0.mk ht.1
 have HI := Aside0.mk ht.2.1
 have HO := Aside0.mk ht.2.2
 have HR := Aside0.mk hr
 have d0 : w.cell? ⟨b, 4, none⟩ = some (.pointer (some ⟨tb, 0, none⟩)) := (blk_cell hb 4).trans rfl
 clear hb ht hr
 go_enter Tryz.func89, Tryz.ntmps89
 go_upto_region 2 with fail
 clear d0
 have HD := Aside0.mk ((Mut.refl (fun i => i = b ∨ i = tb) w).drew)
 have HKd := Aside0.mk (blk_drew HK.out)
 have HTd := Aside0.mk (blk_drew HT.out)
 have HId := Aside0.mk (At.keep (w' := w.drew) HI.out (fun _ _ _ => rfl))
 have HOd := Aside0.mk (At.keep (w' := w.drew) HO.out (fun _ _ _ => rfl))
 have HRd := Aside0.mk (At.keep (w' := w.drew) HR.out (fun _ _ _ => rfl))
 clear HK HT HI HO HR
 refine wp_mono (Q := fun e a w => e = .normal ∧ _) ?_ (fun e a w h => h.2)
 refine start_ (n := 14) (S := fun w' => w'.cell? ⟨tb, 3, none⟩ = some (.pointer tl.adr)) (ds := [10, 13]) #[ff,ff,ff,ff,ff,ff,ff,ff,ff,ff,ff,ff,ff,ff] (by kernel_rfl) rfl rfl (((blk_cell HTd.out 3).trans rfl)) (fun hHeld => ?_)
 refine with_tabW q89.tab2 q89.bits2 (fun HT_ HW_ => ?_)
 refine pure_ (i := 0) (N := some 8) (v := ?_) (a' := ?_) #[tt,ff,ff,ff,ff,ff,ff,ff,ff,ff,ff,ff,ff,ff] rfl rfl (any_of HT_.out (by kernel_rfl)) (fun _ _ _ h => nomatch h.1) (Or.inl ⟨by rfl, ?_⟩) ?_ ?_
 rotate_left
 ·intro w'
  go_simp
  with_reducible rfl
 rotate_left
 ·simp only [Act.put, sA, sB, sC, i64_w, i32_w]
  rfl
 refine pure_ (i := 1) (N := some 9) (v := ?_) (a' := ?_) #[tt,tt,ff,ff,ff,ff,ff,ff,ff,ff,ff,ff,ff,ff] rfl rfl (any_of HT_.out (by kernel_rfl)) (fun _ _ _ h => nomatch h.1) (Or.inl ⟨by rfl, ?_⟩) ?_ ?_
 rotate_left
 ·intro w'
  go_simp
  with_reducible rfl
 rotate_left
 ·simp only [Act.put, sA, sB, sC, i64_w, i32_w]
  rfl
 refine pure_ (i := 2) (N := some 10) (v := ?_) (a' := ?_) #[tt,tt,tt,ff,ff,ff,ff,ff,ff,ff,ff,ff,ff,ff] rfl rfl (any_of HT_.out (by kernel_rfl)) (fun _ _ _ h => nomatch h.1) (Or.inl ⟨by rfl, ?_⟩) ?_ ?_
 rotate_left
 ·intro w'
  go_simp
  with_reducible rfl
 rotate_left
 ·simp only [Act.put, sA, sB, sC, i64_w, i32_w]
  rfl
 refine pure_ (i := 3) (N := some 11) (v := ?_) (a' := ?_) #[tt,tt,tt,tt,ff,ff,ff,ff,ff,ff,ff,ff,ff,ff] rfl rfl (any_of HT_.out (by kernel_rfl)) (fun _ _ _ h => nomatch h.1) (Or.inl ⟨by rfl, ?_⟩) ?_ ?_
 rotate_left
 ·intro w'
  go_simp
  with_reducible rfl
 rotate_left
 ·simp only [Act.put, sA, sB, sC, i64_w, i32_w]
  rfl
 refine pure_ (i := 4) (N := some 12) (v := ?_) (a' := ?_) #[tt,tt,tt,tt,tt,ff,ff,ff,ff,ff,ff,ff,ff,ff] rfl rfl (any_of HT_.out (by kernel_rfl)) (fun _ _ _ h => nomatch h.1) (Or.inl ⟨by rfl, ?_⟩) ?_ ?_
 rotate_left
 ·intro w'
  go_simp
  with_reducible rfl
 rotate_left
 ·simp only [Act.put, sA, sB, sC, i64_w, i32_w]
  rfl
 refine pure_ (i := 6) (N := some 14) (v := ?_) (a' := ?_) #[tt,tt,tt,tt,tt,ff,tt,ff,ff,ff,ff,ff,ff,ff] rfl rfl (any_of HT_.out (by kernel_rfl)) (fun _ _ _ h => nomatch h.1) (Or.inl ⟨by rfl, ?_⟩) ?_ ?_
 rotate_left
 ·intro w'
  go_simp
  with_reducible rfl
 rotate_left
 ·simp only [Act.put, sA, sB, sC, i64_w, i32_w]
  rfl
 refine take_ (i := 5) (N := some 13) (v := ?_) (a' := ?_) #[tt,tt,tt,tt,tt,tt,tt,ff,ff,ff,ff,ff,ff,ff] rfl rfl (take_ofW HT_.out HW_.out (by kernel_rfl)) (fun _ _ _ h => nomatch h.1) (Or.inl ⟨by rfl, ?_⟩) hHeld ?_ ?_
 rotate_left
 ·intro w' s0
  go_simp
  with_reducible rfl
 rotate_left
 ·simp only [Act.put, sA, sB, sC, i64_w, i32_w]
  rfl
 refine one_ (i := 7) (N := some 15) #[tt,tt,tt,tt,tt,tt,tt,tt,ff,ff,ff,ff,ff,ff] rfl rfl (one_of HT_.out (by kernel_rfl)) (by decide) (fun K hK => ?_)
 refine goes_ Tryz.func77 (by kernel_rfl) rfl #[.pointer (some ⟨b, 0, none⟩)] (by rfl) rfl rfl (by simp only [List.map_toArray, List.map_cons, List.map_nil]; rfl) ?_
 with_reducible refine (count_calls _ b k v l (.node tb tk tv tl tr th tm) _ _ HKd.out HRd.out (At.mk HTd.out HId.out HOd.out) BR.out.1 BT.out.1 BR.out.2 BT.out.2 NN.out.2.2.2.1 (by simp only [Tr.ids, List.mem_append, List.mem_cons, not_or]; exact ⟨NN.out.2.1, NN.out.1, NN.out.2.2.1⟩)).mono ?_
 rintro e w1 ⟨rfl, hM, hK⟩
 refine ⟨_, rfl, ?_⟩
 have n_K := Aside0.mk hK
 have n_T := Aside0.mk (hM.blk HTd.out (Ne.symm NN.out.1))
 have n_I := Aside0.mk (HId.out.mut hM (fun i hi e => NN.out.2.1 (e ▸ hi)))
 have n_O := Aside0.mk (HOd.out.mut hM (fun i hi e => NN.out.2.2.1 (e ▸ hi)))
 have n_R := Aside0.mk (HRd.out.mut hM (fun i hi e => NN.out.2.2.2.1 (e ▸ hi)))
 have n_D := Aside0.mk (HD.out.trans hM (fun _ e => e) (fun _ e _ => .inl e))
 clear hM hK HKd HTd HId HOd HRd HD
 refine hK.out _ _ (((blk_cell n_T.out 3).trans rfl)) (fun hHeld => ?_)
 clear hK K
 refine norm_ (a' := ?_) ?_ ?_
 rotate_left
 ·show Act.put _ (some 15) _ = _
  simp only [Act.put, sA, sB, sC, i64_w, i32_w]
  rfl
 refine pure_ (i := 8) (N := some 16) (v := ?_) (a' := ?_) #[tt,tt,tt,tt,tt,tt,tt,tt,tt,ff,ff,ff,ff,ff] rfl rfl (any_of HT_.out (by kernel_rfl)) (fun _ _ _ h => nomatch h.1) (Or.inl ⟨by rfl, ?_⟩) ?_ ?_
 rotate_left
 ·intro w'
  go_simp
  with_reducible rfl
 rotate_left
 ·simp only [Act.put, sA, sB, sC, i64_w, i32_w]
  rfl
 refine pure_ (i := 9) (N := some 17) (v := ?_) (a' := ?_) #[tt,tt,tt,tt,tt,tt,tt,tt,tt,tt,ff,ff,ff,ff] rfl rfl (any_of HT_.out (by kernel_rfl)) (fun _ _ _ h => nomatch h.1) (Or.inl ⟨by rfl, ?_⟩) ?_ ?_
 rotate_left
 ·intro w'
  go_simp
  with_reducible rfl
 rotate_left
 ·simp only [Act.put, sA, sB, sC, i64_w, i32_w]
  rfl
 refine last_ (i := 10) (N := none) #[tt,tt,tt,tt,tt,tt,tt,tt,tt,tt,tt,ff,ff,ff] rfl rfl (one_of HT_.out (by kernel_rfl)) (by decide) (fun K hK => ?_)
 have d3 := (blk_cell n_K.out 4).trans rfl
 have f3 := blk_frozen n_K.out 4
 refine skip_ (w1 := ?_) (by rfl) rfl ?_ ?_
 rotate_left
 ·go_simp
  rfl
 refine hK.out _ _ ?_
 clear hK K
 refine pure_ (i := 11) (N := some 18) (v := ?_) (a' := ?_) #[tt,tt,tt,tt,tt,tt,tt,tt,tt,tt,tt,tt,ff,ff] rfl rfl (any_of HT_.out (by kernel_rfl)) (fun _ _ _ h => nomatch h.1) (Or.inl ⟨by rfl, ?_⟩) ?_ ?_
 rotate_left
 ·intro w'
  go_simp
  with_reducible rfl
 rotate_left
 ·simp only [Act.put, sA, sB, sC, i64_w, i32_w]
  rfl
 refine pure_ (i := 12) (N := some 19) (v := ?_) (a' := ?_) #[tt,tt,tt,tt,tt,tt,tt,tt,tt,tt,tt,tt,tt,ff] rfl rfl (any_of HT_.out (by kernel_rfl)) (fun _ _ _ h => nomatch h.1) (Or.inl ⟨by rfl, ?_⟩) ?_ ?_
 rotate_left
 ·intro w'
  go_simp
  with_reducible rfl
 rotate_left
 ·simp only [Act.put, sA, sB, sC, i64_w, i32_w]
  rfl
 refine last_ (i := 13) (N := none) #[tt,tt,tt,tt,tt,tt,tt,tt,tt,tt,tt,tt,tt,tt] rfl rfl (one_of HT_.out (by kernel_rfl)) (by decide) (fun K hK => ?_)
 have d4 : (w1.setCell ⟨b, 4, none⟩ (.pointer tl.adr)).cell? ⟨tb, 3, none⟩ = some (.pointer tl.adr) := (blk_cell (blk_far (p := ⟨b, 4, none⟩) n_T.out (Ne.symm NN.out.1) (.pointer tl.adr)) 3).trans rfl
 have f4 := blk_frozen (blk_far (p := ⟨b, 4, none⟩) n_T.out (Ne.symm NN.out.1) (.pointer tl.adr)) 3
 refine skip_ (w1 := ?_) (by rfl) rfl ?_ ?_
 rotate_left
 ·go_simp
  rfl
 refine hK.out _ _ ?_
 clear hK K
 refine done_ (done_of HT_.out (by kernel_rfl)) ?_
 refine ⟨rfl, ?_⟩
 clear hHeld HT_ HW_
 have hM3 : Mut (fun i => i = b ∨ i = tb) w1 ((w1.setCell ⟨b, 4, none⟩ (.pointer tl.adr)).setCell ⟨tb, 3, none⟩ (.pointer (some ⟨b, 0, none⟩))) := ((Mut.refl _ w1).set (.inl (.inl rfl)) 4 _).set (.inl (.inr rfl)) 3 _
 have k3 : ((w1.setCell ⟨b, 4, none⟩ (.pointer tl.adr)).setCell ⟨tb, 3, none⟩ (.pointer (some ⟨b, 0, none⟩))).heap[b]? = some (.cells (nodeC k v l.adr tl.adr (1 + max l.hi th) (1 + l.many + tm)) 121 (0, 0)) := blk_far (p := ⟨tb, 3, none⟩) (blk_put n_K.out 4 (.pointer tl.adr) rfl) NN.out.1 _
 have t3 : ((w1.setCell ⟨b, 4, none⟩ (.pointer tl.adr)).setCell ⟨tb, 3, none⟩ (.pointer (some ⟨b, 0, none⟩))).heap[tb]? = some (.cells (nodeC tk tv (some ⟨b, 0, none⟩) tr.adr th tm) 121 (0, 0)) := blk_put (blk_far (p := ⟨b, 4, none⟩) n_T.out (Ne.symm NN.out.1) _) 3 _ rfl
 have HK := Aside0.mk k3
 have HT := Aside0.mk t3
 have HI := Aside0.mk (n_I.out.mut hM3 (fun i hi e => e.elim (fun e => NN.out.2.1 (e ▸ hi)) (fun e => NN.out.2.2.2.2.1 (e ▸ hi))))
 have HO := Aside0.mk (n_O.out.mut hM3 (fun i hi e => e.elim (fun e => NN.out.2.2.1 (e ▸ hi)) (fun e => NN.out.2.2.2.2.2.1 (e ▸ hi))))
 have HR := Aside0.mk (n_R.out.mut hM3 (fun i hi e => e.elim (fun e => NN.out.2.2.2.1 (e ▸ hi)) (fun e => NN.out.2.2.2.2.2.2 (e ▸ hi))))
 have HD := Aside0.mk (n_D.out.trans hM3 (fun _ e => e) (fun _ e _ => e))
 clear n_K n_T n_I n_O n_R n_D k3 t3 hM3
 generalize (w1.setCell ⟨b, 4, none⟩ (.pointer tl.adr)).setCell ⟨tb, 3, none⟩ (.pointer (some ⟨b, 0, none⟩)) = W2 at HK HT HI HO HR HD ⊢
 go_upto_region 4 with (go_at_call 77; refine (show Calls _ _ _ _ _ from count_calls W2 b k v l tl _ _ HK.out HR.out HI.out BR.out.1 BI.out.1 BR.out.2 BI.out.2 NN.out.2.2.2.1 NN.out.2.1).mono ?_; rintro e w5 ⟨rfl, hM, hK⟩; have n_K := Aside0.mk hK; have n_T := Aside0.mk (hM.blk HT.out (Ne.symm NN.out.1)); have n_I := Aside0.mk (HI.out.mut hM (fun i hi e => NN.out.2.1 (e ▸ hi))); have n_O := Aside0.mk (HO.out.mut hM (fun i hi e => NN.out.2.2.1 (e ▸ hi))); have n_R := Aside0.mk (HR.out.mut hM (fun i hi e => NN.out.2.2.2.1 (e ▸ hi))); have n_D := Aside0.mk (HD.out.trans hM (fun _ e => e) (fun _ e _ => .inl e)); clear hM hK HK HT HI HO HR HD)
 go_wp2_with (go_at_call 77; refine (show Calls _ _ _ _ _ from count_calls w5 tb tk tv (Tr.mk b k v l tl) tr _ _ n_T.out (show At w5 (Tr.mk b k v l tl) from At.mk n_K.out n_R.out n_I.out) n_O.out (bd_mk BM.out.2.1 BM.out.1.1 BM.out.2.2 BM.out.1.2).1 BO.out.1 (bd_mk BM.out.2.1 BM.out.1.1 BM.out.2.2 BM.out.1.2).2 BO.out.2 (show tb ∉ (Tr.mk b k v l tl).ids from by simp only [Tr.mk, Tr.ids, List.mem_append, List.mem_cons, not_or]; exact ⟨NN.out.2.2.2.2.2.2, Ne.symm NN.out.1, NN.out.2.2.2.2.1⟩) NN.out.2.2.2.2.2.1).mono ?_; rintro e w6 ⟨rfl, hM, hK⟩; have HK6 := Aside0.mk hK; have HM6 := Aside0.mk hM; clear hM hK)
 have hN6 : At w6 (Tr.mk b k v l tl) := ((show At w5 (Tr.mk b k v l tl) from At.mk n_K.out n_R.out n_I.out)).mut HM6.out (fun i hi e => (show tb ∉ (Tr.mk b k v l tl).ids from by simp only [Tr.mk, Tr.ids, List.mem_append, List.mem_cons, not_or]; exact ⟨NN.out.2.2.2.2.2.2, Ne.symm NN.out.1, NN.out.2.2.2.2.1⟩) (e ▸ hi))
 have hO6 := n_O.out.mut HM6.out (fun i hi e => NN.out.2.2.2.2.2.1 (e ▸ hi))
 exact bodyPost_ret (v := .pointer (some ⟨tb, 0, none⟩)) (by simp [results, Tryz.results89, go_sem]) rfl ⟨rfl, n_D.out.trans HM6.out (fun _ e => e) (fun _ e _ => .inr e), At.mk HK6.out hN6 hO6⟩
set_option maxRecDepth 100000 in
set_option maxHeartbeats 8000000 in
theorem even_calls (w0 : World) (b : Nat) (k : ByteArray) (v : FV) (l r : Tr FV) (h m : Int) (hb : w0.heap[b]? = some (.cells (nodeC k v l.adr r.adr h m) 121 (0, 0))) (hl : At w0 l) (hr : At w0 r) (wl : l.wf) (wr : r.wf) (zz : l.toL.length + r.toL.length ≤ 1000) (hn : (l.ids ++ b :: r.ids).Nodup) :
  Calls Tryz.prog 78 #[.pointer (some ⟨b, 0, none⟩)] w0 fun e w' => e = .returned (.pointer (Tr.even b k v l r).adr) ∧ Mut (fun i => i = b ∨ i ∈ l.ids ∨ i ∈ r.ids) w0 w' ∧ At w' (Tr.even b k v l r) := by
 have zl : l.toL.length ≤ 1000 := by omega
 have zr : r.toL.length ≤ 1000 := by omega
 have BL := bd wl zl
 have BR := bd wr zr
 have hwd : wrap64 (l.hi - r.hi) = l.hi - r.hi := wrap_inR (by omega) (by omega)
 have NN := Aside0.mk hn
 have WL := Aside0.mk (And.intro wl zl)
 have WR := Aside0.mk (And.intro wr zr)
 have BB := Aside0.mk (And.intro BL BR)
 have HKd := Aside0.mk (blk_drew hb)
 have HLd := Aside0.mk (At.keep (w' := w0.drew) hl (fun _ _ _ => rfl))
 have HRd := Aside0.mk (At.keep (w' := w0.drew) hr (fun _ _ _ => rfl))
 clear hb hl hr wl wr zz zl zr hn
 go_enter Tryz.func78, Tryz.ntmps78
 go_upto_region 1 with fail
 refine wp_mono (Q := fun e a w => e = .normal ∧ _) ?_ (fun e a w h => h.2)
 refine start_ (n := 12) (S := fun w' => w'.cell? ⟨b, 3, none⟩ = some (.pointer l.adr) ∧ w'.cell? ⟨b, 4, none⟩ = some (.pointer r.adr)) (ds := []) #[ff,ff,ff,ff,ff,ff,ff,ff,ff,ff,ff,ff] (by kernel_rfl) rfl rfl ⟨((blk_cell HKd.out 3).trans rfl), ((blk_cell HKd.out 4).trans rfl)⟩ (fun hHeld => ?_)
 refine with_tabW q78.tab1 q78.bits1 (fun HT_ HW_ => ?_)
 refine pure_ (i := 0) (N := some 4) (v := ?_) (a' := ?_) #[tt,ff,ff,ff,ff,ff,ff,ff,ff,ff,ff,ff] rfl rfl (any_of HT_.out (by kernel_rfl)) (fun _ _ _ h => nomatch h.1) (Or.inl ⟨by rfl, ?_⟩) ?_ ?_
 rotate_left
 ·intro w'
  go_simp
  with_reducible rfl
 rotate_left
 ·simp only [Act.put, sA, sB, sC, i64_w, i32_w]
  rfl
 refine pure_ (i := 1) (N := some 5) (v := ?_) (a' := ?_) #[tt,tt,ff,ff,ff,ff,ff,ff,ff,ff,ff,ff] rfl rfl (any_of HT_.out (by kernel_rfl)) (fun _ _ _ h => nomatch h.1) (Or.inl ⟨by rfl, ?_⟩) ?_ ?_
 rotate_left
 ·intro w'
  go_simp
  with_reducible rfl
 rotate_left
 ·simp only [Act.put, sA, sB, sC, i64_w, i32_w]
  rfl
 refine pure_ (i := 2) (N := some 6) (v := ?_) (a' := ?_) #[tt,tt,tt,ff,ff,ff,ff,ff,ff,ff,ff,ff] rfl rfl (any_of HT_.out (by kernel_rfl)) (fun _ _ _ h => nomatch h.1) (Or.inl ⟨by rfl, ?_⟩) ?_ ?_
 rotate_left
 ·intro w'
  go_simp
  with_reducible rfl
 rotate_left
 ·simp only [Act.put, sA, sB, sC, i64_w, i32_w]
  rfl
 refine pure_ (i := 5) (N := some 9) (v := ?_) (a' := ?_) #[tt,tt,tt,ff,ff,tt,ff,ff,ff,ff,ff,ff] rfl rfl (any_of HT_.out (by kernel_rfl)) (fun _ _ _ h => nomatch h.1) (Or.inl ⟨by rfl, ?_⟩) ?_ ?_
 rotate_left
 ·intro w'
  go_simp
  with_reducible rfl
 rotate_left
 ·simp only [Act.put, sA, sB, sC, i64_w, i32_w]
  rfl
 refine pure_ (i := 6) (N := some 10) (v := ?_) (a' := ?_) #[tt,tt,tt,ff,ff,tt,tt,ff,ff,ff,ff,ff] rfl rfl (any_of HT_.out (by kernel_rfl)) (fun _ _ _ h => nomatch h.1) (Or.inl ⟨by rfl, ?_⟩) ?_ ?_
 rotate_left
 ·intro w'
  go_simp
  with_reducible rfl
 rotate_left
 ·simp only [Act.put, sA, sB, sC, i64_w, i32_w]
  rfl
 refine pure_ (i := 7) (N := some 11) (v := ?_) (a' := ?_) #[tt,tt,tt,ff,ff,tt,tt,tt,ff,ff,ff,ff] rfl rfl (any_of HT_.out (by kernel_rfl)) (fun _ _ _ h => nomatch h.1) (Or.inl ⟨by rfl, ?_⟩) ?_ ?_
 rotate_left
 ·intro w'
  go_simp
  with_reducible rfl
 rotate_left
 ·simp only [Act.put, sA, sB, sC, i64_w, i32_w]
  rfl
 refine take_ (i := 3) (N := some 7) (v := ?_) (a' := ?_) #[tt,tt,tt,tt,ff,tt,tt,tt,ff,ff,ff,ff] rfl rfl (take_ofW HT_.out HW_.out (by kernel_rfl)) (fun _ _ _ h => nomatch h.1) (Or.inl ⟨by rfl, ?_⟩) hHeld ?_ ?_
 rotate_left
 ·rintro w' ⟨s0, s1⟩
  go_simp
  with_reducible rfl
 rotate_left
 ·simp only [Act.put, sA, sB, sC, i64_w, i32_w]
  rfl
 refine take_ (i := 8) (N := some 12) (v := ?_) (a' := ?_) #[tt,tt,tt,tt,ff,tt,tt,tt,tt,ff,ff,ff] rfl rfl (take_ofW HT_.out HW_.out (by kernel_rfl)) (fun _ _ _ h => nomatch h.1) (Or.inl ⟨by rfl, ?_⟩) hHeld ?_ ?_
 rotate_left
 ·rintro w' ⟨s0, s1⟩
  go_simp
  with_reducible rfl
 rotate_left
 ·simp only [Act.put, sA, sB, sC, i64_w, i32_w]
  rfl
 refine one_ (i := 4) (N := some 8) #[tt,tt,tt,tt,tt,tt,tt,tt,tt,ff,ff,ff] rfl rfl (one_of HT_.out (by kernel_rfl)) (by decide) (fun K hK => ?_)
 refine goes_ Tryz.func88 (by kernel_rfl) rfl #[.pointer l.adr] (by rfl) rfl rfl (by simp only [List.map_toArray, List.map_cons, List.map_nil]; rfl) ?_
 with_reducible refine (height_calls l _ HLd.out).mono ?_
 rintro e w1 ⟨rfl, rfl⟩
 refine ⟨_, rfl, ?_⟩
 refine hK.out _ _ ⟨((blk_cell HKd.out 3).trans rfl), ((blk_cell HKd.out 4).trans rfl)⟩ (fun hHeld => ?_)
 clear hK K
 refine norm_ (a' := ?_) ?_ ?_
 rotate_left
 ·show Act.put _ (some 8) _ = _
  simp only [Act.put, sA, sB, sC, i64_w, i32_w]
  rfl
 refine one_ (i := 9) (N := some 13) #[tt,tt,tt,tt,tt,tt,tt,tt,tt,tt,ff,ff] rfl rfl (one_of HT_.out (by kernel_rfl)) (by decide) (fun K hK => ?_)
 refine goes_ Tryz.func88 (by kernel_rfl) rfl #[.pointer r.adr] (by rfl) rfl rfl (by simp only [List.map_toArray, List.map_cons, List.map_nil]; rfl) ?_
 with_reducible refine (height_calls r _ HRd.out).mono ?_
 rintro e w1 ⟨rfl, rfl⟩
 refine ⟨_, rfl, ?_⟩
 refine hK.out _ _ ⟨((blk_cell HKd.out 3).trans rfl), ((blk_cell HKd.out 4).trans rfl)⟩ (fun hHeld => ?_)
 clear hK K
 refine norm_ (a' := ?_) ?_ ?_
 rotate_left
 ·show Act.put _ (some 13) _ = _
  simp only [Act.put, sA, sB, sC, i64_w, i32_w]
  rfl
 refine pure_ (i := 10) (N := some 14) (v := ?_) (a' := ?_) #[tt,tt,tt,tt,tt,tt,tt,tt,tt,tt,tt,ff] rfl rfl (any_of HT_.out (by kernel_rfl)) (fun _ _ _ h => nomatch h.1) (Or.inl ⟨by rfl, ?_⟩) ?_ ?_
 rotate_left
 ·intro w'
  go_simp
  with_reducible rfl
 rotate_left
 ·simp only [Act.put, sA, sB, sC, i64_w, i32_w]
  rfl
 refine pure_ (i := 11) (N := some 3) (v := ?_) (a' := ?_) #[tt,tt,tt,tt,tt,tt,tt,tt,tt,tt,tt,tt] rfl rfl (any_of HT_.out (by kernel_rfl)) (fun _ _ _ h => nomatch h.1) (Or.inl ⟨by rfl, ?_⟩) ?_ ?_
 rotate_left
 ·intro w'
  go_simp
  with_reducible rfl
 rotate_left
 ·simp only [Act.put, sA, sB, sC, i64_w, i32_w]
  rfl
 refine done_ (done_of HT_.out (by kernel_rfl)) ?_
 refine ⟨rfl, ?_⟩
 clear hHeld HT_ HW_
 (try rw [hwd])
 have HD := Aside0.mk ((Mut.refl (fun i => i = b ∨ i ∈ l.ids ∨ i ∈ r.ids) w0).drew)
 have HK := HKd
 have HL := HLd
 have HR := HRd
 clear HKd HLd HRd hwd
 generalize w0.drew = w at HD HK HL HR ⊢
 by_cases h1 : l.hi - r.hi > 1
 ·have hb1 : decide (l.hi - r.hi > 1) = true := decide_eq_true h1
  cases l with
  | nil => exact absurd h1 (by have := BB.out.2.1.1; show ¬ ((0 : Int) - r.hi > 1); omega)
  | node lb lk lv ll lr lh lm =>
   go_upto_region 3 with fail
   have HD2 := Aside0.mk HD.out.drew
   have HKd := Aside0.mk (blk_drew HK.out)
   have HXd := Aside0.mk (At.keep (w' := w.drew) HL.out (fun _ _ _ => rfl))
   have HYd := Aside0.mk (At.keep (w' := w.drew) HR.out (fun _ _ _ => rfl))
   clear HK HL HR HD
   refine wp_mono (Q := fun e a w => e = .normal ∧ _) ?_ (fun e a w h => h.2)
   refine start_ (n := 17) (S := fun w' => w'.cell? ⟨b, 3, none⟩ = some (.pointer (some ⟨lb, 0, none⟩)) ∧ w'.cell? ⟨lb, 3, none⟩ = some (.pointer ll.adr) ∧ w'.cell? ⟨lb, 4, none⟩ = some (.pointer lr.adr)) (ds := []) #[ff,ff,ff,ff,ff,ff,ff,ff,ff,ff,ff,ff,ff,ff,ff,ff,ff] (by kernel_rfl) rfl rfl ⟨((blk_cell HKd.out 3).trans rfl), ((blk_cell HXd.out.node 3).trans rfl), ((blk_cell HXd.out.node 4).trans rfl)⟩ (fun hHeld => ?_)
   refine with_tabW q78.tab3 q78.bits3 (fun HT_ HW_ => ?_)
   refine pure_ (i := 0) (N := some 18) (v := ?_) (a' := ?_) #[tt,ff,ff,ff,ff,ff,ff,ff,ff,ff,ff,ff,ff,ff,ff,ff,ff] rfl rfl (any_of HT_.out (by kernel_rfl)) (fun _ _ _ h => nomatch h.1) (Or.inl ⟨by rfl, ?_⟩) ?_ ?_
   rotate_left
   ·intro w'
    go_simp
    with_reducible rfl
   rotate_left
   ·simp only [Act.put, sA, sB, sC, i64_w, i32_w]
    rfl
   refine pure_ (i := 1) (N := some 19) (v := ?_) (a' := ?_) #[tt,tt,ff,ff,ff,ff,ff,ff,ff,ff,ff,ff,ff,ff,ff,ff,ff] rfl rfl (any_of HT_.out (by kernel_rfl)) (fun _ _ _ h => nomatch h.1) (Or.inl ⟨by rfl, ?_⟩) ?_ ?_
   rotate_left
   ·intro w'
    go_simp
    with_reducible rfl
   rotate_left
   ·simp only [Act.put, sA, sB, sC, i64_w, i32_w]
    rfl
   refine pure_ (i := 2) (N := some 20) (v := ?_) (a' := ?_) #[tt,tt,tt,ff,ff,ff,ff,ff,ff,ff,ff,ff,ff,ff,ff,ff,ff] rfl rfl (any_of HT_.out (by kernel_rfl)) (fun _ _ _ h => nomatch h.1) (Or.inl ⟨by rfl, ?_⟩) ?_ ?_
   rotate_left
   ·intro w'
    go_simp
    with_reducible rfl
   rotate_left
   ·simp only [Act.put, sA, sB, sC, i64_w, i32_w]
    rfl
   refine pure_ (i := 8) (N := some 26) (v := ?_) (a' := ?_) #[tt,tt,tt,ff,ff,ff,ff,ff,tt,ff,ff,ff,ff,ff,ff,ff,ff] rfl rfl (any_of HT_.out (by kernel_rfl)) (fun _ _ _ h => nomatch h.1) (Or.inl ⟨by rfl, ?_⟩) ?_ ?_
   rotate_left
   ·intro w'
    go_simp
    with_reducible rfl
   rotate_left
   ·simp only [Act.put, sA, sB, sC, i64_w, i32_w]
    rfl
   refine pure_ (i := 9) (N := some 27) (v := ?_) (a' := ?_) #[tt,tt,tt,ff,ff,ff,ff,ff,tt,tt,ff,ff,ff,ff,ff,ff,ff] rfl rfl (any_of HT_.out (by kernel_rfl)) (fun _ _ _ h => nomatch h.1) (Or.inl ⟨by rfl, ?_⟩) ?_ ?_
   rotate_left
   ·intro w'
    go_simp
    with_reducible rfl
   rotate_left
   ·simp only [Act.put, sA, sB, sC, i64_w, i32_w]
    rfl
   refine pure_ (i := 10) (N := some 28) (v := ?_) (a' := ?_) #[tt,tt,tt,ff,ff,ff,ff,ff,tt,tt,tt,ff,ff,ff,ff,ff,ff] rfl rfl (any_of HT_.out (by kernel_rfl)) (fun _ _ _ h => nomatch h.1) (Or.inl ⟨by rfl, ?_⟩) ?_ ?_
   rotate_left
   ·intro w'
    go_simp
    with_reducible rfl
   rotate_left
   ·simp only [Act.put, sA, sB, sC, i64_w, i32_w]
    rfl
   refine take_ (i := 3) (N := some 21) (v := ?_) (a' := ?_) #[tt,tt,tt,tt,ff,ff,ff,ff,tt,tt,tt,ff,ff,ff,ff,ff,ff] rfl rfl (take_ofW HT_.out HW_.out (by kernel_rfl)) (fun _ _ _ h => nomatch h.1) (Or.inl ⟨by rfl, ?_⟩) hHeld ?_ ?_
   rotate_left
   ·rintro w' ⟨s0, s1, s2⟩
    go_simp
    with_reducible rfl
   rotate_left
   ·simp only [Act.put, sA, sB, sC, i64_w, i32_w]
    rfl
   refine pure_ (i := 4) (N := some 22) (v := ?_) (a' := ?_) #[tt,tt,tt,tt,tt,ff,ff,ff,tt,tt,tt,ff,ff,ff,ff,ff,ff] rfl rfl (any_of HT_.out (by kernel_rfl)) (fun _ _ _ h => nomatch h.1) (Or.inl ⟨by rfl, ?_⟩) ?_ ?_
   rotate_left
   ·intro w'
    go_simp
    with_reducible rfl
   rotate_left
   ·simp only [Act.put, sA, sB, sC, i64_w, i32_w]
    rfl
   refine pure_ (i := 5) (N := some 23) (v := ?_) (a' := ?_) #[tt,tt,tt,tt,tt,tt,ff,ff,tt,tt,tt,ff,ff,ff,ff,ff,ff] rfl rfl (any_of HT_.out (by kernel_rfl)) (fun _ _ _ h => nomatch h.1) (Or.inl ⟨by rfl, ?_⟩) ?_ ?_
   rotate_left
   ·intro w'
    go_simp
    with_reducible rfl
   rotate_left
   ·simp only [Act.put, sA, sB, sC, i64_w, i32_w]
    rfl
   refine take_ (i := 6) (N := some 24) (v := ?_) (a' := ?_) #[tt,tt,tt,tt,tt,tt,tt,ff,tt,tt,tt,ff,ff,ff,ff,ff,ff] rfl rfl (take_ofW HT_.out HW_.out (by kernel_rfl)) (fun _ _ _ h => nomatch h.1) (Or.inl ⟨by rfl, ?_⟩) hHeld ?_ ?_
   rotate_left
   ·rintro w' ⟨s0, s1, s2⟩
    go_simp
    with_reducible rfl
   rotate_left
   ·simp only [Act.put, sA, sB, sC, i64_w, i32_w]
    rfl
   refine take_ (i := 11) (N := some 29) (v := ?_) (a' := ?_) #[tt,tt,tt,tt,tt,tt,tt,ff,tt,tt,tt,tt,ff,ff,ff,ff,ff] rfl rfl (take_ofW HT_.out HW_.out (by kernel_rfl)) (fun _ _ _ h => nomatch h.1) (Or.inl ⟨by rfl, ?_⟩) hHeld ?_ ?_
   rotate_left
   ·rintro w' ⟨s0, s1, s2⟩
    go_simp
    with_reducible rfl
   rotate_left
   ·simp only [Act.put, sA, sB, sC, i64_w, i32_w]
    rfl
   refine pure_ (i := 12) (N := some 30) (v := ?_) (a' := ?_) #[tt,tt,tt,tt,tt,tt,tt,ff,tt,tt,tt,tt,tt,ff,ff,ff,ff] rfl rfl (any_of HT_.out (by kernel_rfl)) (fun _ _ _ h => nomatch h.1) (Or.inl ⟨by rfl, ?_⟩) ?_ ?_
   rotate_left
   ·intro w'
    go_simp
    with_reducible rfl
   rotate_left
   ·simp only [Act.put, sA, sB, sC, i64_w, i32_w]
    rfl
   refine pure_ (i := 13) (N := some 31) (v := ?_) (a' := ?_) #[tt,tt,tt,tt,tt,tt,tt,ff,tt,tt,tt,tt,tt,tt,ff,ff,ff] rfl rfl (any_of HT_.out (by kernel_rfl)) (fun _ _ _ h => nomatch h.1) (Or.inl ⟨by rfl, ?_⟩) ?_ ?_
   rotate_left
   ·intro w'
    go_simp
    with_reducible rfl
   rotate_left
   ·simp only [Act.put, sA, sB, sC, i64_w, i32_w]
    rfl
   refine take_ (i := 14) (N := some 32) (v := ?_) (a' := ?_) #[tt,tt,tt,tt,tt,tt,tt,ff,tt,tt,tt,tt,tt,tt,tt,ff,ff] rfl rfl (take_ofW HT_.out HW_.out (by kernel_rfl)) (fun _ _ _ h => nomatch h.1) (Or.inl ⟨by rfl, ?_⟩) hHeld ?_ ?_
   rotate_left
   ·rintro w' ⟨s0, s1, s2⟩
    go_simp
    with_reducible rfl
   rotate_left
   ·simp only [Act.put, sA, sB, sC, i64_w, i32_w]
    rfl
   refine one_ (i := 7) (N := some 25) #[tt,tt,tt,tt,tt,tt,tt,tt,tt,tt,tt,tt,tt,tt,tt,ff,ff] rfl rfl (one_of HT_.out (by kernel_rfl)) (by decide) (fun K hK => ?_)
   refine goes_ Tryz.func88 (by kernel_rfl) rfl #[.pointer ll.adr] (by rfl) rfl rfl (by simp only [List.map_toArray, List.map_cons, List.map_nil]; rfl) ?_
   with_reducible refine (height_calls ll _ HXd.out.left).mono ?_
   rintro e w1 ⟨rfl, rfl⟩
   refine ⟨_, rfl, ?_⟩
   refine hK.out _ _ ⟨((blk_cell HKd.out 3).trans rfl), ((blk_cell HXd.out.node 3).trans rfl), ((blk_cell HXd.out.node 4).trans rfl)⟩ (fun hHeld => ?_)
   clear hK K
   refine norm_ (a' := ?_) ?_ ?_
   rotate_left
   ·show Act.put _ (some 25) _ = _
    simp only [Act.put, sA, sB, sC, i64_w, i32_w]
    rfl
   refine one_ (i := 15) (N := some 33) #[tt,tt,tt,tt,tt,tt,tt,tt,tt,tt,tt,tt,tt,tt,tt,tt,ff] rfl rfl (one_of HT_.out (by kernel_rfl)) (by decide) (fun K hK => ?_)
   refine goes_ Tryz.func88 (by kernel_rfl) rfl #[.pointer lr.adr] (by rfl) rfl rfl (by simp only [List.map_toArray, List.map_cons, List.map_nil]; rfl) ?_
   with_reducible refine (height_calls lr _ HXd.out.right).mono ?_
   rintro e w1 ⟨rfl, rfl⟩
   refine ⟨_, rfl, ?_⟩
   refine hK.out _ _ ⟨((blk_cell HKd.out 3).trans rfl), ((blk_cell HXd.out.node 3).trans rfl), ((blk_cell HXd.out.node 4).trans rfl)⟩ (fun hHeld => ?_)
   clear hK K
   refine norm_ (a' := ?_) ?_ ?_
   rotate_left
   ·show Act.put _ (some 33) _ = _
    simp only [Act.put, sA, sB, sC, i64_w, i32_w]
    rfl
   refine pure_ (i := 16) (N := some 34) (v := ?_) (a' := ?_) #[tt,tt,tt,tt,tt,tt,tt,tt,tt,tt,tt,tt,tt,tt,tt,tt,tt] rfl rfl (any_of HT_.out (by kernel_rfl)) (fun _ _ _ h => nomatch h.1) (Or.inl ⟨by rfl, ?_⟩) ?_ ?_
   rotate_left
   ·intro w'
    go_simp
    with_reducible rfl
   rotate_left
   ·simp only [Act.put, sA, sB, sC, i64_w, i32_w]
    rfl
   refine done_ (done_of HT_.out (by kernel_rfl)) ?_
   refine ⟨rfl, ?_⟩
   clear hHeld HT_ HW_
   generalize w.drew = w2 at HD2 HKd HXd HYd ⊢
   obtain ⟨m1, m2, m3, m4, m5⟩ := nd3 NN.out
   have MM := Aside0.mk (And.intro m1 (And.intro m2 (And.intro m3 (And.intro m4 m5))))
   clear m1 m2 m3 m4 m5
   have he : Tr.even b k v (.node lb lk lv ll lr lh lm) r = Tr.toRight b k v (Tr.leanL (.node lb lk lv ll lr lh lm)) r := by unfold Tr.even; rw [if_pos h1]
   by_cases h2 : ll.hi < lr.hi
   ·have hb2 : decide (ll.hi < lr.hi) = true := decide_eq_true h2
    cases lr with
    | nil => exact absurd h2 (by have := Tr.hi_nonneg WL.out.1.2.2.1; show ¬ (ll.hi < (0 : Int)); omega)
    | node ib ik iv il ir ih im =>
     have hl : Tr.leanL (.node lb lk lv ll (.node ib ik iv il ir ih im) lh lm) = (Tr.toLeft lb lk lv ll (.node ib ik iv il ir ih im)) := by simp only [Tr.leanL]; rw [if_pos h2]
     rw [hl] at he
     have HE := Aside0.mk he
     have d3 : w2.cell? ⟨b, 3, none⟩ = some (.pointer (some ⟨lb, 0, none⟩)) := (blk_cell HKd.out 3).trans rfl
     have hc := toLeft_calls w2 lb lk lv ib ik iv il ir ih im ll lh lm HXd.out.node HXd.out.right HXd.out.left WL.out.1.2.2.2 WL.out.1.2.2.1 (by have := WL.out.2; simp only [Tr.toL, List.length_append, List.length_cons] at this ⊢; omega) (by have := WL.out.2; simp only [Tr.toL, List.length_append, List.length_cons] at this ⊢; omega) (by have := MM.out.2.2.2.1; simpa [Tr.ids] using this)
     clear he hl
     have nbX : b ≠ lb ∧ b ≠ ib := ⟨fun e => MM.out.1 (by simp [Tr.ids, e]), fun e => MM.out.1 (by simp [Tr.ids, e])⟩
     have NB := Aside0.mk nbX
     clear nbX
     go_upto_region 5 with (go_at_call 89; refine (show Calls _ _ _ _ _ from hc).mono ?_; rintro e w3 ⟨rfl, hM, hA⟩; have n_M := Aside0.mk hM; have n_A := Aside0.mk hA; have n_K := Aside0.mk (hM.blk HKd.out (fun e => e.elim NB.out.1 NB.out.2)); have c3 := blk_cell n_K.out 3; have f3 := blk_frozen n_K.out 3; clear d3 hM hA hc)
     clear c3 f3
     have hS : Mut (fun i => i = b) w3 (w3.setCell ⟨b, 3, none⟩ (.pointer (some ⟨ib, 0, none⟩))) := (Mut.refl (fun i => i = b) w3).set (.inl rfl) 3 _
     have n_Y := Aside0.mk ((HYd.out.mut n_M.out (fun i hi e => e.elim (fun e => MM.out.2.2.1 i hi (by simp [Tr.ids, e])) (fun e => MM.out.2.2.1 i hi (by simp [Tr.ids, e])))).mut hS (fun i hi e => MM.out.2.1 (e ▸ hi)))
     have n_X := Aside0.mk (n_A.out.mut hS (fun i hi e => MM.out.1 (by rw [e] at hi; simpa [Tr.toLeft, Tr.mk, Tr.ids] using hi)))
     have n_B : (w3.setCell ⟨b, 3, none⟩ (.pointer (some ⟨ib, 0, none⟩))).heap[b]? = some (.cells (nodeC k v (some ⟨ib, 0, none⟩) r.adr h m) 121 (0, 0)) := blk_put n_K.out 3 _ rfl
     have n_B2 := Aside0.mk n_B
     have n_D := Aside0.mk ((HD2.out.trans n_M.out (fun _ e => e) (fun i e _ => .inr (.inl (e.elim (fun e => by simp [Tr.ids, e]) (fun e => by simp [Tr.ids, e]))))).trans hS (fun _ e => e) (fun _ e _ => .inl e))
     clear hS n_B n_M n_A n_K
     generalize w3.setCell ⟨b, 3, none⟩ (.pointer (some ⟨ib, 0, none⟩)) = W4 at n_Y n_X n_B2 n_D ⊢
     have hw : Tr.wf (Tr.toLeft lb lk lv ll (.node ib ik iv il ir ih im)) := Tr.toLeft_wf WL.out.1.2.2.1 WL.out.1.2.2.2
     have hz : (Tr.toL (Tr.toLeft lb lk lv ll (.node ib ik iv il ir ih im))).length ≤ 1000 := by rw [Tr.toLeft_toL]; have := WL.out.2; simpa [Tr.toL] using this
     have hc := toRight_calls W4 b k v ib ik iv (Tr.mk lb lk lv ll il) ir _ _ r h m n_B2.out n_X.out n_Y.out hw WR.out.1 hz WR.out.2 (by have := NN.out; simpa [Tr.mk, Tr.ids] using this)
     clear hw hz
     go_wp2_with (go_at_call 90; refine (show Calls _ _ _ _ _ from hc).mono ?_; rintro e w5 ⟨rfl, hM, hA⟩; have m_M := Aside0.mk hM; have m_A := Aside0.mk hA; clear hM hA hc)
     exact bodyPost_ret (v := .pointer (some ⟨ib, 0, none⟩)) (by simp [results, Tryz.results78, go_sem]) rfl ⟨by rw [HE.out]; rfl, n_D.out.trans m_M.out (fun _ e => e) (fun i e _ => e.elim (fun e => .inl e) (fun e => .inr (.inl (by simp [Tr.ids, e])))), by rw [HE.out]; exact m_A.out⟩
   ·have hb2 : decide (ll.hi < lr.hi) = false := decide_eq_false h2
    have hl : Tr.leanL (.node lb lk lv ll lr lh lm) = (.node lb lk lv ll lr lh lm) := by simp only [Tr.leanL]; rw [if_neg h2]
    rw [hl] at he
    have HE := Aside0.mk he
    clear he hl
    have hc := toRight_calls w2 b k v lb lk lv ll lr lh lm r h m HKd.out HXd.out HYd.out WL.out.1 WR.out.1 WL.out.2 WR.out.2 NN.out
    go_wp2_with (go_at_call 90; refine (show Calls _ _ _ _ _ from hc).mono ?_; rintro e w5 ⟨rfl, hM, hA⟩; have m_M := Aside0.mk hM; have m_A := Aside0.mk hA; clear hM hA hc)
    exact bodyPost_ret (v := .pointer (some ⟨lb, 0, none⟩)) (by simp [results, Tryz.results78, go_sem]) rfl ⟨by rw [HE.out]; rfl, HD2.out.trans m_M.out (fun _ e => e) (fun i e _ => e.elim (fun e => .inl e) (fun e => .inr (.inl (by simp [Tr.ids, e])))), by rw [HE.out]; exact m_A.out⟩
 ·by_cases h3 : l.hi - r.hi < -1
  ·have hb0 : decide (l.hi - r.hi > 1) = false := decide_eq_false h1
   have hb1 : decide (l.hi - r.hi < -1) = true := decide_eq_true h3
   cases r with
   | nil => exact absurd h3 (by have := BB.out.1.1.1; show ¬ (l.hi - (0 : Int) < -1); omega)
   | node rb rk rv rl rr rh rm =>
    go_upto_region 7 with fail
    have HD2 := Aside0.mk HD.out.drew
    have HKd := Aside0.mk (blk_drew HK.out)
    have HXd := Aside0.mk (At.keep (w' := w.drew) HR.out (fun _ _ _ => rfl))
    have HYd := Aside0.mk (At.keep (w' := w.drew) HL.out (fun _ _ _ => rfl))
    clear HK HL HR HD
    refine wp_mono (Q := fun e a w => e = .normal ∧ _) ?_ (fun e a w h => h.2)
    refine start_ (n := 17) (S := fun w' => w'.cell? ⟨b, 4, none⟩ = some (.pointer (some ⟨rb, 0, none⟩)) ∧ w'.cell? ⟨rb, 4, none⟩ = some (.pointer rr.adr) ∧ w'.cell? ⟨rb, 3, none⟩ = some (.pointer rl.adr)) (ds := []) #[ff,ff,ff,ff,ff,ff,ff,ff,ff,ff,ff,ff,ff,ff,ff,ff,ff] (by kernel_rfl) rfl rfl ⟨((blk_cell HKd.out 4).trans rfl), ((blk_cell HXd.out.node 4).trans rfl), ((blk_cell HXd.out.node 3).trans rfl)⟩ (fun hHeld => ?_)
    refine with_tabW q78.tab7 q78.bits7 (fun HT_ HW_ => ?_)
    refine pure_ (i := 0) (N := some 48) (v := ?_) (a' := ?_) #[tt,ff,ff,ff,ff,ff,ff,ff,ff,ff,ff,ff,ff,ff,ff,ff,ff] rfl rfl (any_of HT_.out (by kernel_rfl)) (fun _ _ _ h => nomatch h.1) (Or.inl ⟨by rfl, ?_⟩) ?_ ?_
    rotate_left
    ·intro w'
     go_simp
     with_reducible rfl
    rotate_left
    ·simp only [Act.put, sA, sB, sC, i64_w, i32_w]
     rfl
    refine pure_ (i := 1) (N := some 49) (v := ?_) (a' := ?_) #[tt,tt,ff,ff,ff,ff,ff,ff,ff,ff,ff,ff,ff,ff,ff,ff,ff] rfl rfl (any_of HT_.out (by kernel_rfl)) (fun _ _ _ h => nomatch h.1) (Or.inl ⟨by rfl, ?_⟩) ?_ ?_
    rotate_left
    ·intro w'
     go_simp
     with_reducible rfl
    rotate_left
    ·simp only [Act.put, sA, sB, sC, i64_w, i32_w]
     rfl
    refine pure_ (i := 2) (N := some 50) (v := ?_) (a' := ?_) #[tt,tt,tt,ff,ff,ff,ff,ff,ff,ff,ff,ff,ff,ff,ff,ff,ff] rfl rfl (any_of HT_.out (by kernel_rfl)) (fun _ _ _ h => nomatch h.1) (Or.inl ⟨by rfl, ?_⟩) ?_ ?_
    rotate_left
    ·intro w'
     go_simp
     with_reducible rfl
    rotate_left
    ·simp only [Act.put, sA, sB, sC, i64_w, i32_w]
     rfl
    refine pure_ (i := 8) (N := some 56) (v := ?_) (a' := ?_) #[tt,tt,tt,ff,ff,ff,ff,ff,tt,ff,ff,ff,ff,ff,ff,ff,ff] rfl rfl (any_of HT_.out (by kernel_rfl)) (fun _ _ _ h => nomatch h.1) (Or.inl ⟨by rfl, ?_⟩) ?_ ?_
    rotate_left
    ·intro w'
     go_simp
     with_reducible rfl
    rotate_left
    ·simp only [Act.put, sA, sB, sC, i64_w, i32_w]
     rfl
    refine pure_ (i := 9) (N := some 57) (v := ?_) (a' := ?_) #[tt,tt,tt,ff,ff,ff,ff,ff,tt,tt,ff,ff,ff,ff,ff,ff,ff] rfl rfl (any_of HT_.out (by kernel_rfl)) (fun _ _ _ h => nomatch h.1) (Or.inl ⟨by rfl, ?_⟩) ?_ ?_
    rotate_left
    ·intro w'
     go_simp
     with_reducible rfl
    rotate_left
    ·simp only [Act.put, sA, sB, sC, i64_w, i32_w]
     rfl
    refine pure_ (i := 10) (N := some 58) (v := ?_) (a' := ?_) #[tt,tt,tt,ff,ff,ff,ff,ff,tt,tt,tt,ff,ff,ff,ff,ff,ff] rfl rfl (any_of HT_.out (by kernel_rfl)) (fun _ _ _ h => nomatch h.1) (Or.inl ⟨by rfl, ?_⟩) ?_ ?_
    rotate_left
    ·intro w'
     go_simp
     with_reducible rfl
    rotate_left
    ·simp only [Act.put, sA, sB, sC, i64_w, i32_w]
     rfl
    refine take_ (i := 3) (N := some 51) (v := ?_) (a' := ?_) #[tt,tt,tt,tt,ff,ff,ff,ff,tt,tt,tt,ff,ff,ff,ff,ff,ff] rfl rfl (take_ofW HT_.out HW_.out (by kernel_rfl)) (fun _ _ _ h => nomatch h.1) (Or.inl ⟨by rfl, ?_⟩) hHeld ?_ ?_
    rotate_left
    ·rintro w' ⟨s0, s1, s2⟩
     go_simp
     with_reducible rfl
    rotate_left
    ·simp only [Act.put, sA, sB, sC, i64_w, i32_w]
     rfl
    refine pure_ (i := 4) (N := some 52) (v := ?_) (a' := ?_) #[tt,tt,tt,tt,tt,ff,ff,ff,tt,tt,tt,ff,ff,ff,ff,ff,ff] rfl rfl (any_of HT_.out (by kernel_rfl)) (fun _ _ _ h => nomatch h.1) (Or.inl ⟨by rfl, ?_⟩) ?_ ?_
    rotate_left
    ·intro w'
     go_simp
     with_reducible rfl
    rotate_left
    ·simp only [Act.put, sA, sB, sC, i64_w, i32_w]
     rfl
    refine pure_ (i := 5) (N := some 53) (v := ?_) (a' := ?_) #[tt,tt,tt,tt,tt,tt,ff,ff,tt,tt,tt,ff,ff,ff,ff,ff,ff] rfl rfl (any_of HT_.out (by kernel_rfl)) (fun _ _ _ h => nomatch h.1) (Or.inl ⟨by rfl, ?_⟩) ?_ ?_
    rotate_left
    ·intro w'
     go_simp
     with_reducible rfl
    rotate_left
    ·simp only [Act.put, sA, sB, sC, i64_w, i32_w]
     rfl
    refine take_ (i := 6) (N := some 54) (v := ?_) (a' := ?_) #[tt,tt,tt,tt,tt,tt,tt,ff,tt,tt,tt,ff,ff,ff,ff,ff,ff] rfl rfl (take_ofW HT_.out HW_.out (by kernel_rfl)) (fun _ _ _ h => nomatch h.1) (Or.inl ⟨by rfl, ?_⟩) hHeld ?_ ?_
    rotate_left
    ·rintro w' ⟨s0, s1, s2⟩
     go_simp
     with_reducible rfl
    rotate_left
    ·simp only [Act.put, sA, sB, sC, i64_w, i32_w]
     rfl
    refine take_ (i := 11) (N := some 59) (v := ?_) (a' := ?_) #[tt,tt,tt,tt,tt,tt,tt,ff,tt,tt,tt,tt,ff,ff,ff,ff,ff] rfl rfl (take_ofW HT_.out HW_.out (by kernel_rfl)) (fun _ _ _ h => nomatch h.1) (Or.inl ⟨by rfl, ?_⟩) hHeld ?_ ?_
    rotate_left
    ·rintro w' ⟨s0, s1, s2⟩
     go_simp
     with_reducible rfl
    rotate_left
    ·simp only [Act.put, sA, sB, sC, i64_w, i32_w]
     rfl
    refine pure_ (i := 12) (N := some 60) (v := ?_) (a' := ?_) #[tt,tt,tt,tt,tt,tt,tt,ff,tt,tt,tt,tt,tt,ff,ff,ff,ff] rfl rfl (any_of HT_.out (by kernel_rfl)) (fun _ _ _ h => nomatch h.1) (Or.inl ⟨by rfl, ?_⟩) ?_ ?_
    rotate_left
    ·intro w'
     go_simp
     with_reducible rfl
    rotate_left
    ·simp only [Act.put, sA, sB, sC, i64_w, i32_w]
     rfl
    refine pure_ (i := 13) (N := some 61) (v := ?_) (a' := ?_) #[tt,tt,tt,tt,tt,tt,tt,ff,tt,tt,tt,tt,tt,tt,ff,ff,ff] rfl rfl (any_of HT_.out (by kernel_rfl)) (fun _ _ _ h => nomatch h.1) (Or.inl ⟨by rfl, ?_⟩) ?_ ?_
    rotate_left
    ·intro w'
     go_simp
     with_reducible rfl
    rotate_left
    ·simp only [Act.put, sA, sB, sC, i64_w, i32_w]
     rfl
    refine take_ (i := 14) (N := some 62) (v := ?_) (a' := ?_) #[tt,tt,tt,tt,tt,tt,tt,ff,tt,tt,tt,tt,tt,tt,tt,ff,ff] rfl rfl (take_ofW HT_.out HW_.out (by kernel_rfl)) (fun _ _ _ h => nomatch h.1) (Or.inl ⟨by rfl, ?_⟩) hHeld ?_ ?_
    rotate_left
    ·rintro w' ⟨s0, s1, s2⟩
     go_simp
     with_reducible rfl
    rotate_left
    ·simp only [Act.put, sA, sB, sC, i64_w, i32_w]
     rfl
    refine one_ (i := 7) (N := some 55) #[tt,tt,tt,tt,tt,tt,tt,tt,tt,tt,tt,tt,tt,tt,tt,ff,ff] rfl rfl (one_of HT_.out (by kernel_rfl)) (by decide) (fun K hK => ?_)
    refine goes_ Tryz.func88 (by kernel_rfl) rfl #[.pointer rr.adr] (by rfl) rfl rfl (by simp only [List.map_toArray, List.map_cons, List.map_nil]; rfl) ?_
    with_reducible refine (height_calls rr _ HXd.out.right).mono ?_
    rintro e w1 ⟨rfl, rfl⟩
    refine ⟨_, rfl, ?_⟩
    refine hK.out _ _ ⟨((blk_cell HKd.out 4).trans rfl), ((blk_cell HXd.out.node 4).trans rfl), ((blk_cell HXd.out.node 3).trans rfl)⟩ (fun hHeld => ?_)
    clear hK K
    refine norm_ (a' := ?_) ?_ ?_
    rotate_left
    ·show Act.put _ (some 55) _ = _
     simp only [Act.put, sA, sB, sC, i64_w, i32_w]
     rfl
    refine one_ (i := 15) (N := some 63) #[tt,tt,tt,tt,tt,tt,tt,tt,tt,tt,tt,tt,tt,tt,tt,tt,ff] rfl rfl (one_of HT_.out (by kernel_rfl)) (by decide) (fun K hK => ?_)
    refine goes_ Tryz.func88 (by kernel_rfl) rfl #[.pointer rl.adr] (by rfl) rfl rfl (by simp only [List.map_toArray, List.map_cons, List.map_nil]; rfl) ?_
    with_reducible refine (height_calls rl _ HXd.out.left).mono ?_
    rintro e w1 ⟨rfl, rfl⟩
    refine ⟨_, rfl, ?_⟩
    refine hK.out _ _ ⟨((blk_cell HKd.out 4).trans rfl), ((blk_cell HXd.out.node 4).trans rfl), ((blk_cell HXd.out.node 3).trans rfl)⟩ (fun hHeld => ?_)
    clear hK K
    refine norm_ (a' := ?_) ?_ ?_
    rotate_left
    ·show Act.put _ (some 63) _ = _
     simp only [Act.put, sA, sB, sC, i64_w, i32_w]
     rfl
    refine pure_ (i := 16) (N := some 64) (v := ?_) (a' := ?_) #[tt,tt,tt,tt,tt,tt,tt,tt,tt,tt,tt,tt,tt,tt,tt,tt,tt] rfl rfl (any_of HT_.out (by kernel_rfl)) (fun _ _ _ h => nomatch h.1) (Or.inl ⟨by rfl, ?_⟩) ?_ ?_
    rotate_left
    ·intro w'
     go_simp
     with_reducible rfl
    rotate_left
    ·simp only [Act.put, sA, sB, sC, i64_w, i32_w]
     rfl
    refine done_ (done_of HT_.out (by kernel_rfl)) ?_
    refine ⟨rfl, ?_⟩
    clear hHeld HT_ HW_
    generalize w.drew = w2 at HD2 HKd HXd HYd ⊢
    obtain ⟨m1, m2, m3, m4, m5⟩ := nd3 NN.out
    have MM := Aside0.mk (And.intro m1 (And.intro m2 (And.intro m3 (And.intro m4 m5))))
    clear m1 m2 m3 m4 m5
    have he : Tr.even b k v l (.node rb rk rv rl rr rh rm) = Tr.toLeft b k v l (Tr.leanR (.node rb rk rv rl rr rh rm)) := by unfold Tr.even; rw [if_neg h1, if_pos h3]
    by_cases h2 : rr.hi < rl.hi
    ·have hb2 : decide (rr.hi < rl.hi) = true := decide_eq_true h2
     cases rl with
     | nil => exact absurd h2 (by have := Tr.hi_nonneg WR.out.1.2.2.2; show ¬ (rr.hi < (0 : Int)); omega)
     | node ib ik iv il ir ih im =>
      have hl : Tr.leanR (.node rb rk rv (.node ib ik iv il ir ih im) rr rh rm) = (Tr.toRight rb rk rv (.node ib ik iv il ir ih im) rr) := by simp only [Tr.leanR]; rw [if_pos h2]
      rw [hl] at he
      have HE := Aside0.mk he
      have d3 : w2.cell? ⟨b, 4, none⟩ = some (.pointer (some ⟨rb, 0, none⟩)) := (blk_cell HKd.out 4).trans rfl
      have hc := toRight_calls w2 rb rk rv ib ik iv il ir ih im rr rh rm HXd.out.node HXd.out.left HXd.out.right WR.out.1.2.2.1 WR.out.1.2.2.2 (by have := WR.out.2; simp only [Tr.toL, List.length_append, List.length_cons] at this ⊢; omega) (by have := WR.out.2; simp only [Tr.toL, List.length_append, List.length_cons] at this ⊢; omega) (by have := MM.out.2.2.2.2; simpa [Tr.ids] using this)
      clear he hl
      have nbX : b ≠ rb ∧ b ≠ ib := ⟨fun e => MM.out.2.1 (by simp [Tr.ids, e]), fun e => MM.out.2.1 (by simp [Tr.ids, e])⟩
      have NB := Aside0.mk nbX
      clear nbX
      go_upto_region 9 with (go_at_call 90; refine (show Calls _ _ _ _ _ from hc).mono ?_; rintro e w3 ⟨rfl, hM, hA⟩; have n_M := Aside0.mk hM; have n_A := Aside0.mk hA; have n_K := Aside0.mk (hM.blk HKd.out (fun e => e.elim NB.out.1 NB.out.2)); have c3 := blk_cell n_K.out 4; have f3 := blk_frozen n_K.out 4; clear d3 hM hA hc)
      clear c3 f3
      have hS : Mut (fun i => i = b) w3 (w3.setCell ⟨b, 4, none⟩ (.pointer (some ⟨ib, 0, none⟩))) := (Mut.refl (fun i => i = b) w3).set (.inl rfl) 4 _
      have n_Y := Aside0.mk ((HYd.out.mut n_M.out (fun i hi e => e.elim (fun e => MM.out.2.2.1 i (by simp [Tr.ids, e]) hi) (fun e => MM.out.2.2.1 i (by simp [Tr.ids, e]) hi))).mut hS (fun i hi e => MM.out.1 (e ▸ hi)))
      have n_X := Aside0.mk (n_A.out.mut hS (fun i hi e => MM.out.2.1 (by rw [e] at hi; simpa [Tr.toRight, Tr.mk, Tr.ids] using hi)))
      have n_B : (w3.setCell ⟨b, 4, none⟩ (.pointer (some ⟨ib, 0, none⟩))).heap[b]? = some (.cells (nodeC k v l.adr (some ⟨ib, 0, none⟩) h m) 121 (0, 0)) := blk_put n_K.out 4 _ rfl
      have n_B2 := Aside0.mk n_B
      have n_D := Aside0.mk ((HD2.out.trans n_M.out (fun _ e => e) (fun i e _ => .inr (.inr (e.elim (fun e => by simp [Tr.ids, e]) (fun e => by simp [Tr.ids, e]))))).trans hS (fun _ e => e) (fun _ e _ => .inl e))
      clear hS n_B n_M n_A n_K
      generalize w3.setCell ⟨b, 4, none⟩ (.pointer (some ⟨ib, 0, none⟩)) = W4 at n_Y n_X n_B2 n_D ⊢
      have hw : Tr.wf (Tr.toRight rb rk rv (.node ib ik iv il ir ih im) rr) := Tr.toRight_wf WR.out.1.2.2.1 WR.out.1.2.2.2
      have hz : (Tr.toL (Tr.toRight rb rk rv (.node ib ik iv il ir ih im) rr)).length ≤ 1000 := by rw [Tr.toRight_toL]; have := WR.out.2; simpa [Tr.toL] using this
      have hc := toLeft_calls W4 b k v ib ik iv il (Tr.mk rb rk rv ir rr) _ _ l h m n_B2.out n_X.out n_Y.out hw WL.out.1 hz WL.out.2 (by have := NN.out; simpa [Tr.mk, Tr.ids] using this)
      clear hw hz
      go_wp2_with (go_at_call 89; refine (show Calls _ _ _ _ _ from hc).mono ?_; rintro e w5 ⟨rfl, hM, hA⟩; have m_M := Aside0.mk hM; have m_A := Aside0.mk hA; clear hM hA hc)
      exact bodyPost_ret (v := .pointer (some ⟨ib, 0, none⟩)) (by simp [results, Tryz.results78, go_sem]) rfl ⟨by rw [HE.out]; rfl, n_D.out.trans m_M.out (fun _ e => e) (fun i e _ => e.elim (fun e => .inl e) (fun e => .inr (.inr (by simp [Tr.ids, e])))), by rw [HE.out]; exact m_A.out⟩
    ·have hb2 : decide (rr.hi < rl.hi) = false := decide_eq_false h2
     have hl : Tr.leanR (.node rb rk rv rl rr rh rm) = (.node rb rk rv rl rr rh rm) := by simp only [Tr.leanR]; rw [if_neg h2]
     rw [hl] at he
     have HE := Aside0.mk he
     clear he hl
     have hc := toLeft_calls w2 b k v rb rk rv rl rr rh rm l h m HKd.out HXd.out HYd.out WR.out.1 WL.out.1 WR.out.2 WL.out.2 NN.out
     go_wp2_with (go_at_call 89; refine (show Calls _ _ _ _ _ from hc).mono ?_; rintro e w5 ⟨rfl, hM, hA⟩; have m_M := Aside0.mk hM; have m_A := Aside0.mk hA; clear hM hA hc)
     exact bodyPost_ret (v := .pointer (some ⟨rb, 0, none⟩)) (by simp [results, Tryz.results78, go_sem]) rfl ⟨by rw [HE.out]; rfl, HD2.out.trans m_M.out (fun _ e => e) (fun i e _ => e.elim (fun e => .inl e) (fun e => .inr (.inr (by simp [Tr.ids, e])))), by rw [HE.out]; exact m_A.out⟩
  ·have hb0 : decide (l.hi - r.hi > 1) = false := decide_eq_false h1
   have hb1 : decide (l.hi - r.hi < -1) = false := decide_eq_false h3
   have he : Tr.even b k v l r = Tr.mk b k v l r := by unfold Tr.even; rw [if_neg h1, if_neg h3]
   have HE := Aside0.mk he
   obtain ⟨m1, m2, _⟩ := nd3 NN.out
   have hc := count_calls w b k v l r h m HK.out HL.out HR.out BB.out.1.1 BB.out.2.1 BB.out.1.2 BB.out.2.2 m1 m2
   clear he m1 m2
   go_wp2_with (go_at_call 77; refine (show Calls _ _ _ _ _ from hc).mono ?_; rintro e w1 ⟨rfl, hM, hK⟩; have n_M := Aside0.mk hM; have n_K := Aside0.mk hK; clear hM hK hc)
   obtain ⟨m1, m2, _⟩ := nd3 NN.out
   exact bodyPost_ret (v := .pointer (some ⟨b, 0, none⟩)) (by simp [results, Tryz.results78, go_sem]) rfl ⟨by rw [HE.out]; rfl, HD.out.trans n_M.out (fun _ e => e) (fun _ e _ => .inl e), by rw [HE.out]; exact At.mk n_K.out (HL.out.mut n_M.out (fun i hi e => m1 (e ▸ hi))) (HR.out.mut n_M.out (fun i hi e => m2 (e ▸ hi)))⟩
end Go.Proofs.YtdooajmgfoobfaaGreatDoor.H
