/- link: Scan. Laid by wip/lk_bl.py. -/
import Derived.Test.YtdooajmgfoobfaaGreatDoorZz
import Derived.Test.YtdooajmgfoobfaaGreatDoorLkI
import Derived.Test.YtdooajmgfoobfaaGreatDoorRkR
namespace Go.Proofs.YtdooajmgfoobfaaGreatDoor.H
attribute [local go_sem] Oper.semAt_some
open Go.RowKit Go.Shelf Go.Proofs.YtdooajmgfoobfaaGreatDoor.PA Go.Proofs.YtdooajmgfoobfaaGreatDoorW.PrintWords Go.Proofs.YtdooajmgfoobfaaGreatDoorW.PrintLast Go.Proofs.YtdooajmgfoobfaaGreatDoorW.PrintMore
set_option linter.unusedVariables false
set_option linter.unusedSimpArgs false
abbrev KBs := Kd.slice 5 (Kd.int .u8)
theorem infoBs : (Tryz.prog.info? 22).map (fun i => (i.zero, i.size, i.bytes)) = some (some (.slice none 0 0), 1, 24) := by kernel_rfl
theorem Frames_calls (v : Value) (w : World) (hv : ∃ A n c, v = .slice A n c) : Calls Tryz.prog 62 #[v] w fun e w' => e = .returned (.func (.func 79) #[] #[.pointer (some ⟨w.heap.size, 0, none⟩)]) ∧ w' = w.alloc (.cells #[v] 22) := by
 obtain ⟨A, n, c, rfl⟩ := hv
 go_enter Tryz.func62, Tryz.ntmps62
 go_wp2
 go_ret
 exact ⟨rfl, rfl⟩
/-- A list of texts in memory, made. -/
def BsAt (W : World) (base : Nat) (v : Value) (ps : List (List Int)) : Prop := Kd.R KBs 22 W base (fun _ => True) v ps
theorem cell_isCells {W : World} {ad : Addr} {v : Value} (h : W.cell? ad = some v) : ∃ o : Obj, W.heap[ad.block]? = some o ∧ o.isCells = true := by
 unfold World.cell? at h
 cases hk : W.heap[ad.block]? with
 | none => rw [hk] at h; simp at h
 | some o =>
  cases o with
  | cells => exact ⟨_, rfl, rfl⟩
  | _ => rw [hk] at h; simp at h
theorem C_grownF {W W' : World} {A : Option Addr} {n : Nat} {xs : List Int} {row : Option Nat} {B : Nat} (h : Kd.C (Kd.int .u8) W A n xs) (hg : W.grownBy W' row) (hr : ∀ r, row = some r → B ≤ r ∧ ∃ o : Obj, W.heap[r]? = some o ∧ o.isCells = false) : Kd.C (Kd.int .u8) W' A n xs := by
 have h := reads_of_C h
 refine C_of_reads ⟨h.1, h.2.1, fun hn => ?_⟩
 obtain ⟨ad, e, hc⟩ := h.2.2 hn
 refine ⟨ad, e, fun j hj => ?_⟩
 obtain ⟨o, ho, hic⟩ := cell_isCells (hc j hj)
 refine (cell_congr (hg.block _ (blk_lt ho) (fun e2 => ?_))).trans (hc j hj)
 obtain ⟨_, o2, ho2, hi2⟩ := hr _ e2.symm
 rw [ho] at ho2
 cases ho2
 rw [hic] at hi2
 cases hi2
theorem R_putObjD {W : World} {base D : Nat} {v : Value} {ps : List (List Int)} {o o' : Obj} (h : BsAt W base v ps) (hD : W.heap[D]? = some o) (ho : o.isCells = false) : BsAt (W.putObj D o') base v ps :=
 Kd.R_mono (Kd.R_step (Kd.R_bound h) (fun k hk hlt => World.putObj_heap_other (by
  rintro rfl
  obtain ⟨_, _, _, q, _, cells, hc⟩ := hk
  rw [hD] at hc
  cases hc
  cases ho))) (fun _ _ => trivial)
/-- Where Scan's loop stands. -/
structure ScanSt (w : World) (ob : Nat) (ps : List (List Int)) (pre : List FrX) (W : World) : Prop where
 hb : Below w.heap.size w W
 ge : w.heap.size ≤ ob
 pf : frPs pre <+: ps
 o_ : ∃ v, W.heap[ob]? = some (.cells #[v] 29 (0, 0)) ∧ BsAt W (ob + 3) v (frPs pre)
 sz : ob + 3 ≤ W.heap.size
 i_ : W.heap[ob + 1]? = some (.cells #[.int .i64 (framesB (frPs pre)).length] 3 (0, 0))
theorem ScanSt.own {w : World} {ob : Nat} {ps : List (List Int)} {B : Nat} (hB : w.heap.size ≤ B) : OwnFrom B (ScanSt w ob ps) := fun pre W W' row hs hg hr => by
 obtain ⟨v, h1, h2⟩ := hs.o_
 exact ⟨hs.hb.grown hg hs.hb.size (fun k hk => Nat.le_trans hB (hr k hk).1), hs.ge, hs.pf, ⟨v, (hg.block _ (blk_lt h1) (cells_ne_row (B := B) hr h1)).trans h1, R_ownFrom h2 hg hr⟩, Nat.le_trans hs.sz hg.size, (hg.block _ (blk_lt hs.i_) (cells_ne_row (B := B) hr hs.i_)).trans hs.i_⟩
structure ScanOut (ps : List (List Int)) (w : World) (e : Ending) (w' : World) : Prop where
 out : ∃ v, e = .returned (.tuple #[v, .int .i64 (framesB ps).length, .int .i64 0]) ∧ BsAt w' w.heap.size v ps
 hb : Below w.heap.size w w'
theorem frames_hands (n bs : Nat) (hn : 1 ≤ n) (A : Option Addr) (c : Nat) (ps : List (List Int)) (t : List Int) (w0 W : World) (hw : Below w0.heap.size w0 W) (hb : W.heap[bs]? = some (.cells #[.slice A (framesB ps ++ t).length c] 22 (0, 0))) (hC : Kd.C (Kd.int .u8) w0 A (framesB ps ++ t).length (framesB ps ++ t)) (hc : (framesB ps ++ t).length ≤ c) (hl : (framesB ps ++ t).length ≤ 1000000000)
  (hu : ∀ x ∈ framesB ps ++ t, 0 ≤ x ∧ x ≤ 255) (hps : ∀ p ∈ ps, p.length ≤ 200000) (hT : Torn t) (hN : Nib w0) (hg : 1 < w0.heap.size) :
  HandsP Fence.wide n Tryz.prog 79 #[.pointer (some ⟨bs, 0, none⟩)] frA (FrRel ps) (KpF w0.heap.size bs) (fun _ _ => False) (fun xs => frPs xs = ps) (fun pre => frPs pre <+: ps) ps.length W := fun lp J Jx V hV hJ _ _ _ hY h0 =>
 frames1_in n lp bs hn A c ps t w0 V J Jx hJ
  (fun pre x W1 hj hp hlen => by
   obtain ⟨fn, tm, asg, bd, hy, hR⟩ := hY pre x W1 hj hp hlen
   refine ⟨fn, tm, asg, bd, hy, hR.mono ?_⟩
   rintro e W' (⟨h1, h2, h3, _⟩ | ⟨h1, h2, _⟩)
   ·exact .inl ⟨h1, h2, h3⟩
   ·exact .inr ⟨h1, h2⟩) (hw.trans (hV.mono hw.size)) (blk_below hb hV) hC hc hl hu hps hT hN hg h0
def q35.T10 : Bool × List (List Nat × List Nat) := (true, [([], []), ([], []), ([0, 0], [0]), ([1, 2, 0, 1, 2], [1]), ([3, 0, 1, 2, 3], [])])
def q35.B10 : List Nat := [0, 0, 1, 7, 15]
theorem q35.tab10 : rtab .any (opsOf Tryz.f35 10) = q35.T10 := by kernel_rfl
theorem q35.bits10 : waitsOk q35.T10.2 q35.B10 = true := by kernel_rfl
set_option maxRecDepth 100000 in
set_option maxHeartbeats 8000000 in
theorem Scan_calls (A : Option Addr) (c : Nat) (ps : List (List Int)) (t : List Int) (w : World) (hC : Kd.C (Kd.int .u8) w A (framesB ps ++ t).length (framesB ps ++ t)) (hc : (framesB ps ++ t).length ≤ c) (hl : (framesB ps ++ t).length ≤ 1000000)
  (hu : ∀ x ∈ framesB ps ++ t, 0 ≤ x ∧ x ≤ 255) (hps : ∀ p ∈ ps, p.length ≤ 200000) (hT : Torn t) (hN : Nib w) (hg : 1 < w.heap.size) :
  Calls Tryz.prog 35 #[.slice A (framesB ps ++ t).length c] w (ScanOut ps w) := by
 have HC := Aside0.mk hC
 have HLC := Aside0.mk (And.intro hc hl)
 have HU := Aside0.mk hu
 have HP := Aside0.mk hps
 have HT := Aside0.mk hT
 have HN := Aside0.mk (And.intro hN hg)
 have HPL := Aside0.mk (show ps.length ≤ 1000000 from Nat.le_trans (framesB_len ps) (by rw [List.length_append] at hl; omega))
 obtain ⟨n, hn⟩ : ∃ n, (framesB ps ++ t).length = n := ⟨_, rfl⟩
 have HNN := Aside0.mk hn
 rw [hn]
 clear hC hc hl hu hps hT hN hg hn
 refine (callsIn_wide (n := 8)).1 ?_
 refine callsIn_of_wp_marks Tryz.func35 rfl trivial ?_ rfl
 simp only [Tryz.ntmps35, List.size_toArray, List.length_cons, List.length_nil, Nat.reduceAdd, Nat.reduceSub, Array.replicate_succ, Array.replicate_zero, List.push_toArray, List.append_toArray, List.nil_append, List.cons_append]
 gi_wp2_with fail
 refine ⟨trivial, ?_⟩
 gi_at_call 62
 refine (callsIn_wide.2 (Frames_calls _ _ ⟨_, _, _, rfl⟩)).mono ?_
 rintro e w4 ⟨rfl, rfl⟩
 gi_wp2_with fail
 have hP0 : ScanSt w w.heap.size ps [] (((w.alloc (.cells #[.slice none 0 0] 29)).alloc (.cells #[.int .i64 0] 3)).alloc (.cells #[.slice A n c] 22)) := by
  have hbA : Below (w.heap.size + 2) ((w.alloc (.cells #[.slice none 0 0] 29)).alloc (.cells #[.int .i64 0] 3)) (((w.alloc (.cells #[.slice none 0 0] 29)).alloc (.cells #[.int .i64 0] 3)).alloc (.cells #[.slice A n c] 22)) := (Below.refl _ _).alloc (by simp) _
  have e0 := heap_alloc2_old w (.cells #[.slice none 0 0] 29) (.cells #[.int .i64 0] 3)
  have e1 := heap_alloc2_new w (.cells #[.slice none 0 0] 29) (.cells #[.int .i64 0] 3)
  exact ⟨(((Below.refl _ w).alloc (Nat.le_refl _) _).alloc (by simp) _).alloc (by simp; omega) _, Nat.le_refl _, List.nil_prefix, ⟨_, (hbA.block _ (by omega)).trans e0, Kd.R_nil _ _ _ _ _⟩, by simp, (hbA.block _ (by omega)).trans e1⟩
 have hbx : (((w.alloc (.cells #[.slice none 0 0] 29)).alloc (.cells #[.int .i64 0] 3)).alloc (.cells #[.slice A n c] 22)).heap[w.heap.size + 2]? = some (.cells #[.slice A n c] 22 (0, 0)) := by
  have := heap_alloc_new ((w.alloc (.cells #[.slice none 0 0] 29)).alloc (.cells #[.int .i64 0] 3)) (.cells #[.slice A n c] 22)
  rwa [World.size_alloc, World.size_alloc] at this
 have hsz5 : w.heap.size + 3 ≤ (((w.alloc (.cells #[.slice none 0 0] 29)).alloc (.cells #[.int .i64 0] 3)).alloc (.cells #[.slice A n c] 22)).heap.size := by simp
 obtain ⟨ob, hob⟩ : ∃ ob, ob = w.heap.size := ⟨_, rfl⟩
 generalize ((w.alloc (.cells #[.slice none 0 0] 29)).alloc (.cells #[.int .i64 0] 3)).alloc (.cells #[.slice A n c] 22) = w5 at hP0 hbx hsz5 ⊢
 have hhands := frames_hands (8 - 1) (w.heap.size + 2) (by omega) A c ps t w w5 hP0.hb (by rw [HNN.out]; exact hbx) HC.out HLC.out.1 (Nat.le_trans HLC.out.2 (by omega)) HU.out HP.out HT.out HN.out.1 HN.out.2
 refine range_handsP (F := Fence.wide) (n := 8) rfl (by omega) (gf := 79) (lb := #[.pointer (some ⟨w.heap.size + 2, 0, none⟩)]) rfl trivial (enters_of Tryz.func79 (by kernel_rfl) rfl)
  hhands (fun A B hst => hst.elim) (fun _ => rfl) (fun h k => ⟨h.1.trans (k.1.mono (Nat.le_refl _)), k.2.trans h.2⟩) (fun W l o o' hl ho hc hw => ⟨below_putObj (Below.refl _ W) (by have := hP0.hb.size; omega) _, World.putObj_heap_other (by rintro rfl; omega)⟩)
  (ScanSt w w.heap.size ps) (fun _ _ => False) (ScanSt.own hP0.hb.size) (fun s W W' row hs hg hr => hs.elim) (fun pre x s W W' row hs hg hr => ⟨hs.pf, hs.at_, hs.le, C_grownF hs.rd hg hr⟩) hP0 (fun s A B hs hst => hst.elim) (fun s A B hs _ => hs.elim)
  (fun x a' W => a' = { tmps := #[.slice A n c, undef, .slice none 0 0, .int .i64 0, .int .i64 0, .pointer (some ⟨w.heap.size, 0, none⟩), .pointer (some ⟨w.heap.size + 1, 0, none⟩), .int .i64 x.at_, .slice (some x.ad) x.p.length x.c, undef, undef, undef, .slice A n c, .func (.func 79) #[] #[.pointer (some ⟨w.heap.size + 1 + 1, 0, none⟩)], .int .i64 x.at_, .slice (some x.ad) x.p.length x.c, undef, undef, undef, undef, undef, undef, undef, undef, undef, undef, undef, undef, undef, undef, undef, undef, undef, undef, undef], defers := [] })
  (fun x a' s W W' row hs hg hr => hs) ?assign ?body ?done ?stop
 case assign =>
  rintro lp2 pre x W K hI hx hK
  have HKK := Aside0.mk (hK _ W (KeepsOthers.refl W) ⟨Below.refl _ W, rfl⟩ hI hx rfl)
  simp only [frA]
  clear hK hI hx hhands hP0 hbx
  gi_wp2
  exact HKK.out
 case body =>
  rintro lp2 pre ⟨at_, ad, cp, p⟩ a' W hI hx rfl hln
  have HI := Aside0.mk hI
  have HX := Aside0.mk hx
  obtain ⟨v, ho, hr⟩ := hI.o_
  have HO := Aside0.mk ho
  have HR := Aside0.mk hr
  have hpl : p.length ≤ 200000 := HP.out p (hx.pf.subset (by simp))
  have hat : at_ = ((framesB (frPs pre ++ [p])).length : Int) := hx.at_
  have HAT := Aside0.mk hat
  have hcl := cloneO_calls (some ad) cp p W.drew (Kd.C_below hx.rd (below_drew1 (Below.refl _ W))) nofun (by omega)
  have HPX := Aside0.mk hpl
  have HLL := Aside0.mk (show ((frPs pre).length + 1) * 24 ≤ 140737488355328 by have := HPL.out; simp only [frPs, List.length_map]; omega)
  have HSB := Aside0.mk hI.sz
  clear hI hx ho hr hpl hat hln hhands hP0 hbx
  generalize hq : p.length = q at hcl
  have HQ := Aside0.mk hq
  clear hq
  gi_upto_region 6 with fail
  refine wpIn_mono (Q := fun e a w => e = .normal ∧ _) ?_ (fun e a w h => h.2)
  refine startR_ (m := 8) (S := fun w' => w'.cell? ⟨w.heap.size, 0, none⟩ = some v) (ds := [6, 7]) #[ff,ff,ff,ff,ff,ff,ff,ff] (by kernel_rfl) (fun _ _ h => nomatch h.1) (by kernel_rfl) rfl rfl (((blk_cell (blk_drew HO.out) 0).trans rfl)) (fun hHeld => ?_)
  refine pure_ (i := 1) (N := some 17) (v := ?_) (a' := ?_) #[ff,tt,ff,ff,ff,ff,ff,ff] rfl rfl (by kernel_rfl) (fun _ _ _ h => nomatch h.1) (Or.inl ⟨by rfl, ?_⟩) ?_ ?_
  rotate_left
  ·intro w'
   go_simp
   with_reducible rfl
  rotate_left
  ·simp only [Act.put, sA, sB, sC, i64_w, i32_w]
   rfl
  refine pure_ (i := 5) (N := some 21) (v := ?_) (a' := ?_) #[ff,tt,ff,ff,ff,tt,ff,ff] rfl rfl (by kernel_rfl) (fun _ _ _ h => nomatch h.1) (Or.inl ⟨by rfl, ?_⟩) ?_ ?_
  rotate_left
  ·intro w'
   go_simp
   with_reducible rfl
  rotate_left
  ·simp only [Act.put, sA, sB, sC, i64_w, i32_w]
   rfl
  refine take_ (i := 0) (N := some 16) (v := ?_) (a' := ?_) #[tt,tt,ff,ff,ff,tt,ff,ff] rfl rfl (by kernel_rfl) (fun _ _ _ h => nomatch h.1) (Or.inl ⟨by rfl, ?_⟩) hHeld ?_ ?_
  rotate_left
  ·intro w' s0
   go_simp
   with_reducible rfl
  rotate_left
  ·simp only [Act.put, sA, sB, sC, i64_w, i32_w]
   rfl
  refine one_ (i := 2) (N := some 18) #[tt,tt,tt,ff,ff,tt,ff,ff] rfl rfl (by kernel_rfl) (by decide) (fun K hK => ?_)
  refine goes_ Tryz.func21 (by kernel_rfl) rfl #[.slice (some ad) q cp] (by rfl) rfl rfl (by simp only [List.map_toArray, List.map_cons, List.map_nil]; rfl) ?_
  with_reducible refine ((show Calls _ _ _ _ _ from hcl)).mono ?_
  rintro e w3 ⟨⟨v2, rfl, hR⟩, hb3⟩
  refine ⟨_, rfl, ?_⟩
  have p_O := Aside0.mk (blk_below (blk_drew HO.out) hb3)
  have p_R := Aside0.mk (Kd.R_below (Kd.R_below HR.out (below_drew1 (Below.refl _ W))) hb3)
  have p_B := Aside0.mk (HI.out.hb.trans ((below_drew1 (Below.refl _ W)).trans (hb3.mono HI.out.hb.size)))
  have p_I := Aside0.mk (blk_below (blk_drew HI.out.i_) hb3)
  have p_2 := Aside0.mk hR
  have p_S := Aside0.mk hb3.size
  have p_D := Aside0.mk hb3
  obtain ⟨A2, c2, e2⟩ := Kd.R_slice hR
  rw [HQ.out] at e2
  subst e2
  clear hR hb3 hcl
  refine hK.out _ _ (((blk_cell p_O.out 0).trans rfl)) (fun hHeld => ?_)
  clear hK K
  refine norm_ (a' := ?_) ?_ ?_
  rotate_left
  ·show Act.put _ (some 18) _ = _
   simp only [Act.put, sA, sB, sC, i64_w, i32_w]
   rfl
  refine one_ (i := 3) (N := some 19) #[tt,tt,tt,tt,ff,tt,ff,ff] rfl rfl (by kernel_rfl) (by decide) (fun K hK => ?_)
  refine value_ (w1 := ?_) (v := ?_) (by rfl) rfl ?_ ?_
  rotate_left 2
  ·go_simp
   constructor
   ·rfl
   ·rfl
  refine hK.out _ _ (((blk_cell (blk_below p_O.out ((Below.refl _ w3).alloc (Nat.le_refl _) (.cells #[.slice A2 q c2] 22))) 0).trans rfl)) (fun hHeld => ?_)
  clear hK K
  refine norm_ (a' := ?_) ?_ ?_
  rotate_left
  ·show Act.put _ (some 19) _ = _
   simp only [Act.put, sA, sB, sC, i64_w, i32_w]
   rfl
  refine one_ (i := 4) (N := some 20) #[tt,tt,tt,tt,tt,tt,ff,ff] rfl rfl (by kernel_rfl) (by decide) (fun K hK => ?_)
  refine Kd.R_append_step KBs (w0 := w3) (w.heap.size + 3) (by rfl) (.tmp 16) (.tmp 19) 29 22 (.slice none 0 0) 24 rfl Tryz.underlying29 infoBs rfl (by decide) (by omega) v (frPs pre) p [.slice A2 q c2] (fun _ => True) (fun k => W.drew.heap.size ≤ k) rfl rfl ⟨_, rfl, Kd.R_lower (Kd.R_mono (Kd.R_bound p_2.out) (fun k hk => hk.2.1)) HI.out.sz⟩ (fun k hk => ⟨trivial, fun e => by have := Kd.R_lt HR.out k e.symm; simp at hk; omega⟩) (fun _ _ => trivial) p_R.out (Below.refl _ w3) (Nat.le_trans HI.out.sz p_S.out) HLL.out ?_
  intro v1 w5x hr hb hg hat
  obtain ⟨A1, c1, e1⟩ := Kd.R_slice hr
  rw [List.length_append, List.length_singleton] at e1
  subst e1
  have q_O := Aside0.mk ((hb.block _ (by omega)).trans p_O.out)
  have q_I := Aside0.mk ((hb.block _ (by omega)).trans p_I.out)
  have q_R := Aside0.mk hr
  have q_B := Aside0.mk hb
  have q_K := Aside0.mk (keeps_grown hg (Kd.R_own p_R.out).choose_spec)
  clear hr hb hg hat
  refine hK.out _ _ (((blk_cell q_O.out 0).trans rfl)) (fun hHeld => ?_)
  clear hK K
  refine norm_ (a' := ?_) ?_ ?_
  rotate_left
  ·show Act.put _ (some 20) _ = _
   simp only [Act.put, sA, sB, sC, i64_w, i32_w]
   rfl
  refine last_ (i := 6) (N := none) #[tt,tt,tt,tt,tt,tt,tt,ff] rfl rfl (by kernel_rfl) (by decide) (fun K hK => ?_)
  have d6 := blk_cell q_O.out 0
  have f6 := blk_frozen q_O.out 0
  refine skip_ (w1 := ?_) (by rfl) rfl ?_ ?_
  rotate_left
  ·go_simp
   rfl
  refine hK.out _ _ ?_
  clear hK K
  refine last_ (i := 7) (N := none) #[tt,tt,tt,tt,tt,tt,tt,tt] rfl rfl (by kernel_rfl) (by decide) (fun K hK => ?_)
  clear d6 f6
  have d7 := blk_cell (blk_far (p := ⟨w.heap.size, 0, none⟩) q_I.out (show w.heap.size + 1 ≠ w.heap.size by omega) (.slice A1 ((frPs pre).length + 1) c1)) 0
  have f7 := blk_frozen (blk_far (p := ⟨w.heap.size, 0, none⟩) q_I.out (show w.heap.size + 1 ≠ w.heap.size by omega) (.slice A1 ((frPs pre).length + 1) c1)) 0
  refine skip_ (w1 := ?_) (by rfl) rfl ?_ ?_
  rotate_left
  ·go_simp
   rfl
  refine hK.out _ _ ?_
  clear hK K
  refine done_ (by kernel_rfl) ?_
  refine ⟨rfl, ?_⟩
  clear hHeld
  have hp6 := ((show Below w.heap.size W W.drew from below_drew1 (Below.refl _ W)).trans (p_D.out.mono HI.out.hb.size)).trans (q_B.out.mono (by omega))
  have hB6 := (hp6.setCell (p := ⟨w.heap.size, 0, none⟩) (Nat.le_refl _) (.slice A1 ((frPs pre).length + 1) c1)).setCell (p := ⟨w.heap.size + 1, 0, none⟩) (by simp) (.int .i64 at_)
  have hx6 : ((w5x.setCell ⟨w.heap.size, 0, none⟩ (.slice A1 ((frPs pre).length + 1) c1)).setCell ⟨w.heap.size + 1, 0, none⟩ (.int .i64 at_)).heap[w.heap.size + 2]? = W.heap[w.heap.size + 2]? :=
   (((Below.heap_setCell _ ⟨w.heap.size + 1, 0, none⟩ _ _ (show w.heap.size + 2 ≠ w.heap.size + 1 by omega)).trans (Below.heap_setCell _ ⟨w.heap.size, 0, none⟩ _ _ (show w.heap.size + 2 ≠ w.heap.size by omega))).trans (q_B.out.block _ (by omega))).trans (p_D.out.block _ (by have := HSB.out; show w.heap.size + 2 < W.heap.size; omega))
  have FIN := Aside0.mk (show ScanSt w w.heap.size ps (pre ++ [⟨at_, ad, cp, p⟩]) ((w5x.setCell ⟨w.heap.size, 0, none⟩ (.slice A1 ((frPs pre).length + 1) c1)).setCell ⟨w.heap.size + 1, 0, none⟩ (.int .i64 at_)) from ⟨HI.out.hb.trans hB6, Nat.le_refl _, by rw [frPs_snoc]; exact HX.out.pf, ⟨_, blk_far (p := ⟨w.heap.size + 1, 0, none⟩) (blk_put q_O.out 0 _ rfl) (show w.heap.size ≠ w.heap.size + 1 by omega) _, by
   rw [frPs_snoc]
   exact Kd.R_set (Kd.R_set q_R.out q_O.out (by decide) 0 _) (blk_far (p := ⟨w.heap.size, 0, none⟩) q_I.out (show w.heap.size + 1 ≠ w.heap.size by omega) _) (by decide) 0 _⟩, by rw [World.size_setCell, World.size_setCell]; have := HSB.out; have := hp6.size; omega, by
   rw [frPs_snoc, ← HAT.out]
   exact blk_put (blk_far (p := ⟨w.heap.size, 0, none⟩) q_I.out (show w.heap.size + 1 ≠ w.heap.size by omega) _) 0 _ rfl⟩)
  have FIN2 := Aside0.mk (show KpF w.heap.size (w.heap.size + 2) W _ from ⟨hB6, hx6⟩)
  have FIN3 := Aside0.mk ((((KeepsOthers.drew W).trans (keeps_below p_D.out)).trans q_K.out).trans ((KeepsOthers.setCell w5x ⟨w.heap.size, 0, none⟩ (.slice A1 ((frPs pre).length + 1) c1)).trans (KeepsOthers.setCell _ ⟨w.heap.size + 1, 0, none⟩ (.int .i64 at_))))
  clear hp6 hB6 hx6 d7 f7
  gi_wp2
  exact .inl ⟨rfl, FIN3.out.from _, FIN2.out, FIN.out⟩
 case done =>
  rintro D' xs W hD hps2 hI hK
  have HI := Aside0.mk hI
  have hn' := HNN.out
  have htl : n = (framesB ps).length + t.length := by rw [← hn', List.length_append]
  have hCW := Kd.C_below HC.out hI.hb
  rw [hn'] at hCW
  have hlc := HLC.out
  rw [hn'] at hlc
  obtain ⟨A1, hcut, hA1⟩ := cut_from A n c (framesB ps).length (framesB ps).length rfl (by omega)
  have hC1 := hA1 W _ hlc.1 hCW
  rw [List.drop_left, show n - (framesB ps).length = t.length by omega] at hC1
  rw [show n - (framesB ps).length = t.length by omega] at hcut
  have hone := one_torn A1 (c - (framesB ps).length) t W hC1 (by omega) (by omega) (fun x hx => HU.out x (List.mem_append_right _ hx)) HT.out
  have hi0 := hI.i_
  rw [hps2] at hi0
  obtain ⟨v, ho, hr⟩ := hI.o_
  rw [hps2] at hr
  obtain ⟨vA, vc, hv⟩ := Kd.R_slice hr
  subst hv
  have d1 := blk_cell hi0 0
  have d0 := blk_cell ho 0
  generalize t.length = tl at hcut hone
  have hP0s : w.heap.size ≤ w5.heap.size := hP0.hb.size
  clear hI hhands hP0 hbx hn' htl hCW hlc hA1 hC1
  generalize hfl : (framesB ps).length = fl at d1 hcut hone
  gi_wp2_with fail
  refine ⟨trivial, ?_⟩
  gi_at_call 63
  refine (callsIn_wide.2 hone).mono ?_
  rintro e w6 ⟨rfl, hb6⟩
  have HO6 := Aside0.mk (blk_below ho hb6)
  have HI6 := Aside0.mk (blk_below hi0 hb6)
  have HR6 := Aside0.mk (Kd.R_below hr hb6)
  have HB6 := Aside0.mk (HI.out.hb.trans (hb6.mono HI.out.hb.size))
  have HK6 := Aside0.mk ((hb6.block _ (blk_lt hK)).trans hK)
  have HSS := Aside0.mk (And.intro hP0s hfl)
  clear ho hi0 hr d0 d1 hb6 hK hone hcut hfl
  gi_upto_region 10 with fail
  refine wpIn_wide.2 ?_
  refine wp_mono (Q := fun e a w => e = .normal ∧ _) ?_ (fun e a w h => h.2)
  refine start_ (n := 5) (S := fun w' => w'.cell? ⟨w.heap.size, 0, none⟩ = some (.slice vA ps.length vc) ∧ w'.cell? ⟨w.heap.size + 1, 0, none⟩ = some (.int .i64 fl)) (ds := []) #[ff,ff,ff,ff,ff] (by kernel_rfl) rfl rfl ⟨((blk_cell (blk_drew HO6.out) 0).trans rfl), ((blk_cell (blk_drew HI6.out) 0).trans (by rw [HSS.out.2]; rfl))⟩ (fun hHeld => ?_)
  refine with_tabW q35.tab10 q35.bits10 (fun HT_ HW_ => ?_)
  refine take_ (i := 0) (N := some 33) (v := ?_) (a' := ?_) #[tt,ff,ff,ff,ff] rfl rfl (take_ofW HT_.out HW_.out (by kernel_rfl)) (fun _ _ _ h => nomatch h.1) (Or.inl ⟨by rfl, ?_⟩) hHeld ?_ ?_
  rotate_left
  ·rintro w' ⟨s0, s1⟩
   go_simp
   with_reducible rfl
  rotate_left
  ·simp only [Act.put, sA, sB, sC, i64_w, i32_w]
   rfl
  refine pure_ (i := 2) (N := some 2) (v := ?_) (a' := ?_) #[tt,ff,tt,ff,ff] rfl rfl (any_of HT_.out (by kernel_rfl)) (fun _ _ _ h => nomatch h.1) (Or.inl ⟨by rfl, ?_⟩) ?_ ?_
  rotate_left
  ·intro w'
   go_simp
   with_reducible rfl
  rotate_left
  ·simp only [Act.put, sA, sB, sC, i64_w, i32_w]
   rfl
  refine take_ (i := 1) (N := some 34) (v := ?_) (a' := ?_) #[tt,tt,tt,ff,ff] rfl rfl (take_ofW HT_.out HW_.out (by kernel_rfl)) (fun _ _ _ h => nomatch h.1) (Or.inl ⟨by rfl, ?_⟩) hHeld ?_ ?_
  rotate_left
  ·rintro w' ⟨s0, s1⟩
   go_simp
   with_reducible rfl
  rotate_left
  ·simp only [Act.put, sA, sB, sC, i64_w, i32_w]
   rfl
  refine pure_ (i := 3) (N := some 3) (v := ?_) (a' := ?_) #[tt,tt,tt,tt,ff] rfl rfl (any_of HT_.out (by kernel_rfl)) (fun _ _ _ h => nomatch h.1) (Or.inl ⟨by rfl, ?_⟩) ?_ ?_
  rotate_left
  ·intro w'
   go_simp
   with_reducible rfl
  rotate_left
  ·simp only [Act.put, sA, sB, sC, i64_w, i32_w]
   rfl
  refine pure_ (i := 4) (N := some 4) (v := ?_) (a' := ?_) #[tt,tt,tt,tt,tt] rfl rfl (any_of HT_.out (by kernel_rfl)) (fun _ _ _ h => nomatch h.1) (Or.inl ⟨by rfl, ?_⟩) ?_ ?_
  rotate_left
  ·intro w'
   go_simp
   with_reducible rfl
  rotate_left
  ·simp only [Act.put, sA, sB, sC, i64_w, i32_w]
   rfl
  refine done_ (done_of HT_.out (by kernel_rfl)) ?_
  refine ⟨rfl, ?_⟩
  clear hHeld HT_ HW_
  gi_wp2_with fail
  refine ⟨by simp, .inl ⟨_, _, rfl, run_takeDeferred (show w6.drew.heap[D']? = _ from HK6.out), ?_⟩⟩
  exact ⟨.tuple #[.slice vA ps.length vc, .int .i64 fl, .int .i64 0], by simp [results, Tryz.results35, go_sem], ⟨⟨_, by rw [HSS.out.2], R_putObjD (Kd.R_lower (Kd.R_below HR6.out (below_drew1 (Below.refl _ w6))) (by omega)) (show w6.drew.heap[D']? = _ from HK6.out) rfl⟩, below_putObj (below_drew1 HB6.out) (Nat.le_trans HSS.out.1 hD) _⟩⟩
 case stop =>
  rintro D' pre W hD hp hI
  exact hI.elim
end Go.Proofs.YtdooajmgfoobfaaGreatDoor.H
