/- A disk: Sync, Cut. Laid by wip/su2_bl.py. -/
import Derived.Test.YtdooajmgfoobfaaGreatDoorZz
import Derived.Test.YtdooajmgfoobfaaGreatDoorSuT
namespace Go.Proofs.YtdooajmgfoobfaaGreatDoor.H
attribute [local go_sem] Oper.semAt_some
open Go.RowKit Go.Shelf Go.Proofs.YtdooajmgfoobfaaGreatDoor.PA Go.Proofs.YtdooajmgfoobfaaGreatDoorW.PrintWords Go.Proofs.YtdooajmgfoobfaaGreatDoorW.PrintLast Go.Proofs.YtdooajmgfoobfaaGreatDoorW.PrintMore
set_option linter.unusedVariables false
set_option linter.unusedSimpArgs false
def q69.T3 : Bool × List (List Nat × List Nat) := (true, [([], []), ([0], [0]), ([], []), ([1, 2], [1, 2]), ([3], [3]), ([], []), ([5], [5]), ([], []), ([6, 7], [6, 7]), ([4, 8], [4, 8]), ([9, 4, 0, 1, 2, 3, 4, 5, 6, 7, 8, 9], [9]), ([10, 0, 1, 2, 3, 4, 5, 6, 7, 8, 9, 10], [])])
def q69.B3 : List Nat := [0, 1, 0, 7, 15, 0, 32, 0, 224, 511, 1023, 2047]
theorem q69.tab3 : rtab .any (opsOf Tryz.f69 3) = q69.T3 := by kernel_rfl
theorem q69.bits3 : waitsOk q69.T3.2 q69.B3 = true := by kernel_rfl
set_option maxRecDepth 100000 in
set_option maxHeartbeats 8000000 in
theorem sync1_calls (W : World) (v : FV) (f : Fl) (hv : FvAt W v f) :
    Calls Tryz.prog 53 #[v.val] W fun e w' => ∃ u : FV, e = .returned (.tuple #[u.val, .int .i64 (syncG f).2]) ∧ Below W.heap.size W w' ∧ FvAt w' u (syncG f).1 := by
  have HV := Aside0.mk hv
  obtain ⟨A, n, c, sf⟩ := v
  have hn := hv.n
  simp only at hn
  simp only [FV.val]
  have a0 := heap_alloc2_old W (.cells #[.slice A n c, .int .i64 sf] 51) (.cells #[.slice none 0 0, .int .i64 0] 51)
  have a1 := heap_alloc2_new W (.cells #[.slice A n c, .int .i64 sf] 51) (.cells #[.slice none 0 0, .int .i64 0] 51)
  have hB : Below W.heap.size W ((W.alloc (.cells #[.slice A n c, .int .i64 sf] 51)).alloc (.cells #[.slice none 0 0, .int .i64 0] 51)) := ((Below.refl _ W).alloc (Nat.le_refl _) _).alloc (by simp) _
  have d0 := blk_cell a0 0
  have d1 := blk_cell a0 1
  have d2 := blk_cell a1 0
  have d3 := blk_cell a1 1
  have f2 := blk_frozen a1 0
  have f3 := blk_frozen a1 1
  have HB := Aside0.mk hB
  have HA := Aside0.mk a1
  have HN := Aside0.mk hn
  clear hv a0 a1 hB hn
  go_enter Tryz.func53, Tryz.ntmps53
  go_wp2
  have hC := heap_alloc2_new W (.cells #[.slice A n c, .int .i64 sf] 51) (.cells #[.slice A n c, .int .i64 n] 51)
  have hBf : Below W.heap.size W ((W.alloc (.cells #[.slice A n c, .int .i64 sf] 51)).alloc (.cells #[.slice A n c, .int .i64 n] 51)) := ((Below.refl _ W).alloc (Nat.le_refl _) _).alloc (by simp) _
  generalize (W.alloc (.cells #[.slice A n c, .int .i64 sf] 51)).alloc (.cells #[.slice A n c, .int .i64 n] 51) = W5 at hC hBf ⊢
  clear d0 d1 d2 d3 f2 f3
  have q0 := blk_cell hC 0
  have q1 := blk_cell hC 1
  refine bodyPost_ret (v := .tuple #[.agg #[.slice A n c, .int .i64 n], .int .i64 0]) ?_ rfl ⟨⟨A, n, c, n⟩, rfl, hBf, ?_⟩
  · simp [results, Tryz.results53, go_sem, q0, q1]
  · have h := HV.out.keep (w' := W5) (fun i cs hc => hBf.block i (blk_lt hc))
    exact ⟨HN.out, by simp only [syncG, HN.out], h.c, h.rd, h.nil, h.blk⟩
set_option maxRecDepth 100000 in
set_option maxHeartbeats 8000000 in
theorem Sync_disk (w : World) (s : Nat) (F : Nat → Prop) (D : Dk) (k : ByteArray) (h : SumpAt w s F D) :
    Calls Tryz.prog 26 #[.pointer (some ⟨s, 0, none⟩), .string k] w (SumpOut s F (D.sync k) w) := by
  have hc := Sync_change w s F D k h (fun f ok _ => ⟨⟨ok.u8, by simp [syncG], by simp [syncG]⟩, by simp [syncG]⟩) (fun W v f _ hv _ => by simpa using sync1_calls W v f hv)
  rw [sync_change]
  clear h
  go_enter Tryz.func26, Tryz.ntmps26
  go_wp2_with (go_at_call 52; refine (show Calls _ _ _ _ _ from hc).mono ?_; rintro e w1 hO; obtain ⟨hret, hmu, hdk⟩ := hO; subst hret; have HO := Aside0.mk (And.intro hmu hdk); clear hmu hdk hc)
  exact bodyPost_ret (v := .int .i64 (D.change k syncG).2) (by simp [results, Tryz.results26, go_sem]) rfl ⟨rfl, HO.out.1, HO.out.2⟩
set_option maxRecDepth 100000 in
set_option maxHeartbeats 8000000 in
theorem cut1_calls (W : World) (bn : Nat) (m : Int) (v : FV) (f : Fl) (hb : W.heap[bn]? = some (.cells #[.int .i64 m] 3 (0, 0))) (hv : FvAt W v f) (ok : FlOk f) (hl : f.b.length ≤ 1048576) :
    Calls Tryz.prog 69 #[v.val, .pointer (some ⟨bn, 0, none⟩)] W fun e w' => ∃ u : FV, e = .returned (.tuple #[u.val, .int .i64 (cutG m f).2]) ∧ Below W.heap.size W w' ∧ FvAt w' u (cutG m f).1 := by
  have HV := Aside0.mk hv
  obtain ⟨A, n, c, sf⟩ := v
  obtain hn : n = f.b.length := hv.n
  obtain hsf : sf = f.s := hv.s
  have hc : f.b.length ≤ c := hv.c
  simp only [FV.val]
  have a0 := heap_alloc2_old W (.cells #[.slice A n c, .int .i64 sf] 51) (.cells #[.slice none 0 0, .int .i64 0] 51)
  have a1 := heap_alloc2_new W (.cells #[.slice A n c, .int .i64 sf] 51) (.cells #[.slice none 0 0, .int .i64 0] 51)
  have hB : Below W.heap.size W ((W.alloc (.cells #[.slice A n c, .int .i64 sf] 51)).alloc (.cells #[.slice none 0 0, .int .i64 0] 51)) := ((Below.refl _ W).alloc (Nat.le_refl _) _).alloc (by simp) _
  have hN := blk_below hb hB
  have HB := Aside0.mk hB
  have HA0 := Aside0.mk a0
  have HA := Aside0.mk a1
  have HN := Aside0.mk hN
  have HL := Aside0.mk hl
  have HOK := Aside0.mk ok
  have HE := Aside0.mk (And.intro hn hsf)
  have d0 := blk_cell a0 0
  have d1 := blk_cell a0 1
  have d2 := blk_cell a1 0
  have d3 := blk_cell a1 1
  have f2 := blk_frozen a1 0
  have f3 := blk_frozen a1 1
  have d4 := blk_cell hN 0
  by_cases hm : m < 0 ∨ m > n
  · have HG := Aside0.mk (show cutG m f = (f, 1) by unfold cutG; rw [if_pos (by omega)])
    have hC := heap_alloc2_new W (.cells #[.slice A n c, .int .i64 sf] 51) (.cells #[.slice A n c, .int .i64 sf] 51)
    have hBf : Below W.heap.size W ((W.alloc (.cells #[.slice A n c, .int .i64 sf] 51)).alloc (.cells #[.slice A n c, .int .i64 sf] 51)) := ((Below.refl _ W).alloc (Nat.le_refl _) _).alloc (by simp) _
    have FIN := Aside0.mk (And.intro hC hBf)
    have FINV := Aside0.mk (HV.out.keep (fun i cs hc => hBf.block i (blk_lt hc)))
    have q0 := blk_cell hC 0
    have q1 := blk_cell hC 1
    clear hv ok hl hb a0 a1 hB hN hC hBf hn hsf hc
    have fin : ∀ a : Act, (results Tryz.f69 a.tmps).run Tryz.prog ((W.alloc (.cells #[.slice A n c, .int .i64 sf] 51)).alloc (.cells #[.slice A n c, .int .i64 sf] 51)) = .ok (.tuple #[.agg #[.slice A n c, .int .i64 sf], .int .i64 1]) ((W.alloc (.cells #[.slice A n c, .int .i64 sf] 51)).alloc (.cells #[.slice A n c, .int .i64 sf] 51)) → a.defers = [] → bodyPost Tryz.prog Tryz.f69 (fun e w' => ∃ u : FV, e = .returned (.tuple #[u.val, .int .i64 (cutG m f).2]) ∧ Below W.heap.size W w' ∧ FvAt w' u (cutG m f).1) .ret a ((W.alloc (.cells #[.slice A n c, .int .i64 sf] 51)).alloc (.cells #[.slice A n c, .int .i64 sf] 51)) := fun a h1 h2 =>
      bodyPost_ret h1 h2 (by rw [HG.out]; exact ⟨⟨A, n, c, sf⟩, rfl, FIN.out.2, FINV.out⟩)
    have FINN := Aside0.mk fin
    clear fin
    by_cases h0 : m < 0
    · have hb0 : decide (m < 0) = true := decide_eq_true h0
      clear hm h0
      go_enter Tryz.func69, Tryz.ntmps69
      go_wp2
      refine FINN.out _ ?_ rfl
      simp [results, Tryz.results69, go_sem, q0, q1]
    · have hb0 : decide (m < 0) = false := decide_eq_false h0
      have hb1 : decide (m > n) = true := decide_eq_true (by omega)
      clear hm h0
      go_enter Tryz.func69, Tryz.ntmps69
      go_wp2
      refine FINN.out _ ?_ rfl
      simp [results, Tryz.results69, go_sem, q0, q1]
  · have hb0 : decide (m < 0) = false := decide_eq_false (by omega)
    have hb1 : decide (m > n) = false := decide_eq_false (by omega)
    have HG := Aside0.mk (show cutG m f = (⟨f.b.take m.toNat, min f.s m⟩, 0) by unfold cutG; rw [if_neg (by omega)])
    have HM := Aside0.mk (show 0 ≤ m ∧ m ≤ n by omega)
    obtain ⟨i, hi, hz⟩ := infoB
    have hcut := (print_take_int (k := .u8) (P := Tryz.prog) 22 5 Tryz.underlying22 hi hz A c f.b m (by omega) (by omega) hc).1
    rw [← hn] at hcut
    have HCT := Aside0.mk (Kd.C_take (m := m.toNat) HV.out.rd (by omega))
    have HNIL := Aside0.mk (show A = none → f.b.take m.toNat = [] from fun h => by rw [HV.out.nil h]; simp)
    have hcl := fun W5 (hW : Below W.heap.size W W5) => cloneO_calls A c (f.b.take m.toNat) W5 (Kd.C_below HCT.out hW) HNIL.out (by have := HL.out; rw [List.length_take]; omega)
    generalize hq : (f.b.take m.toNat).length = q at hcut hcl
    have HQ := Aside0.mk hq
    clear hq hv ok hl hb a0 a1 hB hN hn hsf hc hi hz hm
    go_enter Tryz.func69, Tryz.ntmps69
    go_upto_region 3 with fail
    clear d0 d1 d2 d3 f2 f3 d4
    have n_A0 := Aside0.mk (blk_drew HA0.out)
    have n_A := Aside0.mk (blk_drew HA.out)
    have n_N := Aside0.mk (blk_drew HN.out)
    have n_B := Aside0.mk (below_drew1 HB.out)
    clear HA0 HA HN HB
    refine wp_mono (Q := fun e a w => e = .normal ∧ _) ?_ (fun e a w h => h.2)
    refine start_ (n := 12) (S := fun w' => w'.cell? ⟨W.heap.size, 0, none⟩ = some (.slice A n c) ∧ w'.cell? ⟨W.heap.size, 1, none⟩ = some (.int .i64 sf) ∧ w'.cell? ⟨bn, 0, none⟩ = some (.int .i64 m)) (ds := [10]) #[ff,ff,ff,ff,ff,ff,ff,ff,ff,ff,ff,ff] (by kernel_rfl) rfl rfl ⟨((blk_cell n_A0.out 0).trans rfl), ((blk_cell n_A0.out 1).trans rfl), ((blk_cell n_N.out 0).trans rfl)⟩ (fun hHeld => ?_)
    refine with_tabW q69.tab3 q69.bits3 (fun HT_ HW_ => ?_)
    refine pure_ (i := 0) (N := some 15) (v := ?_) (a' := ?_) #[tt,ff,ff,ff,ff,ff,ff,ff,ff,ff,ff,ff] rfl rfl (any_of HT_.out (by kernel_rfl)) (fun _ _ _ h => nomatch h.1) (Or.inl ⟨by rfl, ?_⟩) ?_ ?_
    rotate_left
    · intro w'
      go_simp
      with_reducible rfl
    rotate_left
    · simp only [Act.put, sA, sB, sC, i64_w, i32_w]
      rfl
    refine pure_ (i := 5) (N := some 20) (v := ?_) (a' := ?_) #[tt,ff,ff,ff,ff,tt,ff,ff,ff,ff,ff,ff] rfl rfl (any_of HT_.out (by kernel_rfl)) (fun _ _ _ h => nomatch h.1) (Or.inl ⟨by rfl, ?_⟩) ?_ ?_
    rotate_left
    · intro w'
      go_simp
      with_reducible rfl
    rotate_left
    · simp only [Act.put, sA, sB, sC, i64_w, i32_w]
      rfl
    refine take_ (i := 1) (N := some 16) (v := ?_) (a' := ?_) #[tt,tt,ff,ff,ff,tt,ff,ff,ff,ff,ff,ff] rfl rfl (take_ofW HT_.out HW_.out (by kernel_rfl)) (fun _ _ _ h => nomatch h.1) (Or.inl ⟨by rfl, ?_⟩) hHeld ?_ ?_
    rotate_left
    · rintro w' ⟨s0, s1, s2⟩
      go_simp
      with_reducible rfl
    rotate_left
    · simp only [Act.put, sA, sB, sC, i64_w, i32_w]
      rfl
    refine take_ (i := 2) (N := some 17) (v := ?_) (a' := ?_) #[tt,tt,tt,ff,ff,tt,ff,ff,ff,ff,ff,ff] rfl rfl (take_ofW HT_.out HW_.out (by kernel_rfl)) (fun _ _ _ h => nomatch h.1) (Or.inl ⟨by rfl, ?_⟩) hHeld ?_ ?_
    rotate_left
    · rintro w' ⟨s0, s1, s2⟩
      go_simp
      with_reducible rfl
    rotate_left
    · simp only [Act.put, sA, sB, sC, i64_w, i32_w]
      rfl
    refine pure_ (i := 3) (N := some 18) (v := ?_) (a' := ?_) #[tt,tt,tt,tt,ff,tt,ff,ff,ff,ff,ff,ff] rfl rfl (any_of HT_.out (by kernel_rfl)) (fun _ _ _ h => nomatch h.1) (Or.inl ⟨by rfl, ?_⟩) ?_ ?_
    rotate_left
    · intro w'
      go_simp
      with_reducible rfl
    rotate_left
    · simp only [Act.put, sA, sB, sC, i64_w, i32_w]
      rfl
    refine take_ (i := 6) (N := some 21) (v := ?_) (a' := ?_) #[tt,tt,tt,tt,ff,tt,tt,ff,ff,ff,ff,ff] rfl rfl (take_ofW HT_.out HW_.out (by kernel_rfl)) (fun _ _ _ h => nomatch h.1) (Or.inl ⟨by rfl, ?_⟩) hHeld ?_ ?_
    rotate_left
    · rintro w' ⟨s0, s1, s2⟩
      go_simp
      with_reducible rfl
    rotate_left
    · simp only [Act.put, sA, sB, sC, i64_w, i32_w]
      rfl
    refine take_ (i := 7) (N := some 22) (v := ?_) (a' := ?_) #[tt,tt,tt,tt,ff,tt,tt,tt,ff,ff,ff,ff] rfl rfl (take_ofW HT_.out HW_.out (by kernel_rfl)) (fun _ _ _ h => nomatch h.1) (Or.inl ⟨by rfl, ?_⟩) hHeld ?_ ?_
    rotate_left
    · rintro w' ⟨s0, s1, s2⟩
      go_simp
      with_reducible rfl
    rotate_left
    · simp only [Act.put, sA, sB, sC, i64_w, i32_w]
      rfl
    refine pure_ (i := 8) (N := some 23) (v := ?_) (a' := ?_) #[tt,tt,tt,tt,ff,tt,tt,tt,tt,ff,ff,ff] rfl rfl (any_of HT_.out (by kernel_rfl)) (fun _ _ _ h => nomatch h.1) (Or.inl ⟨by rfl, ?_⟩) ?_ ?_
    rotate_left
    · intro w'
      go_simp
      with_reducible rfl
    rotate_left
    · simp only [Act.put, sA, sB, sC, i64_w, i32_w]
      rfl
    refine one_ (i := 4) (N := some 19) #[tt,tt,tt,tt,tt,tt,tt,tt,tt,ff,ff,ff] rfl rfl (one_of HT_.out (by kernel_rfl)) (by decide) (fun K hK => ?_)
    refine goes_ Tryz.func21 (by kernel_rfl) rfl #[.slice A q c] (by rfl) rfl rfl (by simp only [List.map_toArray, List.map_cons, List.map_nil]; rfl) ?_
    with_reducible refine (hcl _ n_B.out).mono ?_
    rintro e w2 ⟨⟨v2, rfl, hR⟩, hb2⟩
    refine ⟨_, rfl, ?_⟩
    have p_A0 := Aside0.mk (blk_below n_A0.out hb2)
    have p_A := Aside0.mk (blk_below n_A.out hb2)
    have p_N := Aside0.mk (blk_below n_N.out hb2)
    have p_B := Aside0.mk (n_B.out.trans (hb2.mono n_B.out.size))
    obtain ⟨u, hu1, hu2, hu3⟩ := FvAt.of_own (f := ⟨f.b.take m.toNat, min f.s m⟩) hR
    subst hu1
    have HU3 := Aside0.mk hu3
    have HU2 := Aside0.mk hu2
    clear hR hb2 hu2 hu3 n_A0 n_A n_N n_B hcl hcut
    refine hK.out _ _ ⟨((blk_cell p_A0.out 0).trans rfl), ((blk_cell p_A0.out 1).trans rfl), ((blk_cell p_N.out 0).trans rfl)⟩ (fun hHeld => ?_)
    clear hK K
    refine norm_ (a' := ?_) ?_ ?_
    rotate_left
    · show Act.put _ (some 19) _ = _
      simp only [Act.put, sA, sB, sC, i64_w, i32_w]
      rfl
    refine pure_ (i := 9) (N := some 24) (v := ?_) (a' := ?_) #[tt,tt,tt,tt,tt,tt,tt,tt,tt,tt,ff,ff] rfl rfl (any_of HT_.out (by kernel_rfl)) (fun _ _ _ h => nomatch h.1) (Or.inl ⟨by rfl, ?_⟩) ?_ ?_
    rotate_left
    · intro w'
      go_simp
      with_reducible rfl
    rotate_left
    · simp only [Act.put, sA, sB, sC, i64_w, i32_w]
      rfl
    refine last_ (i := 10) (N := none) #[tt,tt,tt,tt,tt,tt,tt,tt,tt,tt,tt,ff] rfl rfl (one_of HT_.out (by kernel_rfl)) (by decide) (fun K hK => ?_)
    have d2 := (blk_cell p_A.out 0)
    have d3 := (blk_cell p_A.out 1)
    have f2 := blk_frozen p_A.out 0
    have f3 := blk_frozen p_A.out 1
    refine skip_ (w1 := ?_) (by rfl) rfl ?_ ?_
    rotate_left
    · go_simp
      rfl
    refine hK.out _ _ ?_
    clear hK K
    refine pure_ (i := 11) (N := some 4) (v := ?_) (a' := ?_) #[tt,tt,tt,tt,tt,tt,tt,tt,tt,tt,tt,tt] rfl rfl (any_of HT_.out (by kernel_rfl)) (fun _ _ _ h => nomatch h.1) (Or.inl ⟨by rfl, ?_⟩) ?_ ?_
    rotate_left
    · intro w'
      go_simp
      with_reducible rfl
    rotate_left
    · simp only [Act.put, sA, sB, sC, i64_w, i32_w]
      rfl
    refine done_ (done_of HT_.out (by kernel_rfl)) ?_
    refine ⟨rfl, ?_⟩
    clear hHeld HT_ HW_
    have hmin : (if m < sf then m else sf) = u.s := by have := HU2.out; have := HE.out.2; simp only at *; split <;> omega
    rw [hmin]
    clear hmin d2 d3 f2 f3
    have hC := blk_put (blk_put p_A.out 0 (.slice u.A u.n u.c) rfl) 1 (.int .i64 u.s) (cs' := #[.slice u.A u.n u.c, .int .i64 u.s]) rfl
    have hBf := (p_B.out.setCell (p := ⟨W.heap.size + 1, 0, none⟩) (by simp) (.slice u.A u.n u.c)).setCell (p := ⟨W.heap.size + 1, 1, none⟩) (by simp) (.int .i64 u.s)
    have hU := HU3.out.keep (w' := (w2.setCell ⟨W.heap.size + 1, 0, none⟩ (.slice u.A u.n u.c)).setCell ⟨W.heap.size + 1, 1, none⟩ (.int .i64 u.s)) (fun i cs hc => by
      have hne : i ≠ W.heap.size + 1 := fun e => by rw [e, p_A.out] at hc; exact absurd (Obj.cells.inj (Option.some.inj hc)).2.1 (by decide)
      exact (Below.heap_setCell _ ⟨W.heap.size + 1, 1, none⟩ _ i hne).trans (Below.heap_setCell _ ⟨W.heap.size + 1, 0, none⟩ _ i hne))
    have HBF := Aside0.mk hBf
    have HUF := Aside0.mk hU
    clear hBf hU
    generalize (w2.setCell ⟨W.heap.size + 1, 0, none⟩ (.slice u.A u.n u.c)).setCell ⟨W.heap.size + 1, 1, none⟩ (.int .i64 u.s) = W6 at hC HBF HUF ⊢
    have q0 := blk_cell hC 0
    have q1 := blk_cell hC 1
    go_wp2
    refine bodyPost_ret (v := .tuple #[.agg #[.slice u.A u.n u.c, .int .i64 u.s], .int .i64 0]) ?_ rfl ?_
    · simp [results, Tryz.results69, go_sem, q0, q1]
    · rw [HG.out]
      exact ⟨u, rfl, HBF.out, HUF.out⟩
set_option maxRecDepth 100000 in
set_option maxHeartbeats 8000000 in
theorem Cut_disk (w : World) (s : Nat) (F : Nat → Prop) (D : Dk) (k : ByteArray) (n : Int) (h : SumpAt w s F D) :
    Calls Tryz.prog 43 #[.pointer (some ⟨s, 0, none⟩), .string k, .int .i64 n] w (SumpOut s F (D.cut k n) w) := by
  have hB : Below w.heap.size w (w.alloc (.cells #[.int .i64 n] 3)) := (Below.refl _ w).alloc (Nat.le_refl _) _
  have hb := heap_alloc_new w (.cells #[.int .i64 n] 3)
  have hc := Cut_change (w.alloc (.cells #[.int .i64 n] 3)) s F D k w.heap.size n (h.below hB) (fun f ok hz => by
    unfold cutG at hz ⊢
    split at hz
    · cases hz
    · next hn =>
      rw [if_neg hn]
      have h0 := ok.s0
      have h1 := ok.s1
      refine ⟨⟨fun x hx => ok.u8 x (List.mem_of_mem_take hx), ?_, ?_⟩, ?_⟩
      · show 0 ≤ min f.s n; omega
      · show min f.s n ≤ ((f.b.take n.toNat).length : Int)
        rw [List.length_take]
        omega
      · show (f.b.take n.toNat).length ≤ f.b.length
        rw [List.length_take]
        omega) (fun W v f hW hv ok => by simpa using cut1_calls W w.heap.size n v f (blk_below hb hW) hv ok.1 ok.2)
  rw [cut_change]
  have HB := Aside0.mk hB
  clear h hb hB
  go_enter Tryz.func43, Tryz.ntmps43
  go_wp2_with (go_at_call 52; refine (show Calls _ _ _ _ _ from hc).mono ?_; rintro e w1 hO; obtain ⟨hret, hmu, hdk⟩ := hO; subst hret; have HO := Aside0.mk (And.intro hmu hdk); clear hmu hdk hc)
  exact bodyPost_ret (v := .int .i64 (D.change k (cutG n)).2) (by simp [results, Tryz.results43, go_sem]) rfl (SumpOut.of (Mut.of_below HB.out) ⟨rfl, HO.out.1, HO.out.2⟩)
end Go.Proofs.YtdooajmgfoobfaaGreatDoor.H
