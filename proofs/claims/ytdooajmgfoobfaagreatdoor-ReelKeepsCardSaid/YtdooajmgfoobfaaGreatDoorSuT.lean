/- A disk: Rename, Sync, Cut. Laid by wip/su_bl.py. -/
import Derived.Test.YtdooajmgfoobfaaGreatDoorZz
import Derived.Test.YtdooajmgfoobfaaGreatDoorSuS
namespace Go.Proofs.YtdooajmgfoobfaaGreatDoor.H
attribute [local go_sem] Oper.semAt_some
open Go.RowKit Go.Shelf Go.Proofs.YtdooajmgfoobfaaGreatDoor.PA Go.Proofs.YtdooajmgfoobfaaGreatDoorW.PrintWords Go.Proofs.YtdooajmgfoobfaaGreatDoorW.PrintLast Go.Proofs.YtdooajmgfoobfaaGreatDoorW.PrintMore
set_option linter.unusedVariables false
set_option linter.unusedSimpArgs false
/-- A text that may be a file's name. -/
def Named (k : ByteArray) : Prop := ∀ W : World, Calls Tryz.prog 46 #[.string k] W fun e w' => e = .returned (.bool true) ∧ Below W.heap.size W w'
theorem rename_none {D : Dk} {a b : ByteArray} (h : lk a D.L = none) : D.rename a b = (D, 5) := by unfold Dk.rename; rw [h]
theorem rename_down {D : Dk} {a b : ByteArray} {f : Fl} (h : lk a D.L = some f) (hs : D.step = none) : D.rename a b = (D, 23) := by unfold Dk.rename; rw [h, hs]
theorem rename_ok {D D1 : Dk} {a b : ByteArray} {f : Fl} (h : lk a D.L = some f) (hs : D.step = some D1) : D.rename a b = ((D1.del a).put b f, 0) := by unfold Dk.rename; rw [h, hs]
theorem rename_put_ok {D : Dk} {a b : ByteArray} {f : Fl} (ok : DkOk D) (h : lk a D.L = some f) : DkOk ((D.del a).put b f) := by
 have hd := del_ok ok a
 refine put_ok hd (lk_ok ok h) ?_ (.inr ?_)
 ·have h1 : usedL (D.del a).L = usedL D.L - lenAt a D.L := used_del
  have h2 : lenAt a D.L = f.b.length := by unfold lenAt; rw [h]
  have h3 : 0 ≤ lenAt b (D.del a).L := by unfold lenAt; split <;> omega
  have := ok.used
  show usedL (D.del a).L - lenAt b (D.del a).L + f.b.length ≤ D.lim
  omega
 ·have h1 := del_len (k := a) ok.rise
  simp only [h, Option.isSome, if_true] at h1
  have := ok.few
  show (H.del a D.L).length < 16
  omega
def q55.T9 : Bool × List (List Nat × List Nat) := (true, [([], []), ([0], [0]), ([1], [1]), ([2], [2]), ([], []), ([], []), ([3, 4, 5], [3, 4, 5])])
def q55.B9 : List Nat := [0, 1, 3, 7, 0, 0, 63]
theorem q55.tab9 : rtab .any (opsOf Tryz.f55 9) = q55.T9 := by kernel_rfl
theorem q55.bits9 : waitsOk q55.T9.2 q55.B9 = true := by kernel_rfl
def q52.T9 : Bool × List (List Nat × List Nat) := (true, [([], []), ([0], [0]), ([1], [1]), ([2], [2]), ([], []), ([], []), ([3, 4, 5], [3, 4, 5])])
def q52.B9 : List Nat := [0, 1, 3, 7, 0, 0, 63]
theorem q52.tab9 : rtab .any (opsOf Tryz.f52 9) = q52.T9 := by kernel_rfl
theorem q52.bits9 : waitsOk q52.T9.2 q52.B9 = true := by kernel_rfl
set_option maxRecDepth 100000 in
set_option maxHeartbeats 8000000 in
theorem Rename_disk (w : World) (s : Nat) (F : Nat → Prop) (D : Dk) (a b : ByteArray) (hn : Named b) (h : SumpAt w s F D) :
  Calls Tryz.prog 55 #[.pointer (some ⟨s, 0, none⟩), .string a, .string b] w (SumpOut s F (D.rename a b) w) := by
 obtain ⟨rk, T, hb, hr, hv, hF⟩ := h.ex
 have hg := Get_calls w rk T a hr
 have d1 : w.cell? ⟨s, 1, none⟩ = some (.pointer (some ⟨rk, 0, none⟩)) := (blk_cell hb 1).trans rfl
 have HS := Aside0.mk h
 have HN := Aside0.mk hn
 have HSUB := Aside0.mk (fun i (e : i = s) => (hF i).2 (.inl e))
 rcases hv.lk a with ⟨e1, e2⟩ | ⟨u, f, e1, e2, hu⟩
 ·rw [e1] at hg
  have HE := Aside0.mk (rename_none (b := b) e2)
  clear h hb hr hv hF e1 e2 hn
  simp only [FV.orZero, Option.isSome] at hg
  go_enter Tryz.func55, Tryz.ntmps55
  go_wp2_with (go_at_call 47; refine hg.mono ?_; rintro e w1 ⟨rfl, hb1⟩; have HSZ := Aside0.mk hb1.size; have HBX := Aside0.mk (heap_alloc_new w1 (.cells #[.slice none 0 0, .int .i64 0] 51)); have hb2 := hb1.alloc hb1.size (.cells #[.slice none 0 0, .int .i64 0] 51); have HB1 := Aside0.mk hb2; clear hb1 d1 hg hb2)
  refine bodyPost_ret (v := .int .i64 5) (by simp [results, Tryz.results55, go_sem]) rfl ?_
  rw [HE.out]
  exact ⟨rfl, Mut.of_below HB1.out, F, HS.out.below HB1.out, fun _ h => .inl h⟩
 ·rw [e1] at hg
  have HE := Aside0.mk e2
  have HU := Aside0.mk hu
  clear h hb hr hv hF e1 e2 hu hn
  simp only [FV.orZero, Option.isSome] at hg
  cases hst : D.step with
  | none =>
   have HE2 := Aside0.mk (rename_down (b := b) HE.out hst)
   have HST := Aside0.mk hst
   clear hst
   go_enter Tryz.func55, Tryz.ntmps55
   go_wp2_with (first
    | (go_at_call 47; refine hg.mono ?_; rintro e w1 ⟨rfl, hb1⟩; have HSZ := Aside0.mk hb1.size; have HBX := Aside0.mk (heap_alloc_new w1 (.cells #[.slice u.A u.n u.c, .int .i64 u.s] 51)); have hb2 := hb1.alloc hb1.size (.cells #[.slice u.A u.n u.c, .int .i64 u.s] 51); have HB1 := Aside0.mk hb2; clear hb1 d1 hg hb2)
    | (go_at_call 46; refine (HN.out _).mono ?_; rintro e w2 ⟨rfl, hb⟩; have hb3 := HB1.out.trans (hb.mono HB1.out.size); have HBX2 := Aside0.mk (blk_below HBX.out hb); have HB2 := Aside0.mk hb3; have hcs := step_calls _ s F D (HS.out.below hb3); clear hb hb3)
    | (go_at_call 50; refine hcs.mono ?_; rintro e w3 ⟨hret, hmu, hdk⟩; rw [HST.out] at hret; simp only [Option.isSome] at hret; subst hret; have HMU := Aside0.mk hmu; have HDK := Aside0.mk (hdk D (.inl ⟨rfl, HST.out⟩)); clear hcs hmu hdk))
   refine bodyPost_ret (v := .int .i64 23) (by simp [results, Tryz.results55, go_sem]) rfl ?_
   rw [HE2.out]
   exact SumpOut.of (Mut.of_below HB2.out) ⟨rfl, HMU.out.mono (fun i e _ => HSUB.out i e), F, HDK.out, fun _ h => .inl h⟩
  | some D1 =>
   have HE2 := Aside0.mk (rename_ok (b := b) HE.out hst)
   have HST := Aside0.mk hst
   clear hst
   go_enter Tryz.func55, Tryz.ntmps55
   go_upto_region 8 with (first
    | (go_at_call 47; refine hg.mono ?_; rintro e w1 ⟨rfl, hb1⟩; have HSZ := Aside0.mk hb1.size; have HBX := Aside0.mk (heap_alloc_new w1 (.cells #[.slice u.A u.n u.c, .int .i64 u.s] 51)); have hb2 := hb1.alloc hb1.size (.cells #[.slice u.A u.n u.c, .int .i64 u.s] 51); have HB1 := Aside0.mk hb2; clear hb1 d1 hg hb2)
    | (go_at_call 46; refine (HN.out _).mono ?_; rintro e w2 ⟨rfl, hb⟩; have hb3 := HB1.out.trans (hb.mono HB1.out.size); have HBX2 := Aside0.mk (blk_below HBX.out hb); have HB2 := Aside0.mk hb3; have hcs := step_calls _ s F D (HS.out.below hb3); clear hb hb3)
    | (go_at_call 50; refine hcs.mono ?_; rintro e w3 ⟨hret, hmu, hdk⟩; rw [HST.out] at hret; simp only [Option.isSome] at hret; subst hret; have HMU := Aside0.mk hmu; have HDK := Aside0.mk (hdk D1 (.inr HST.out)); clear hcs hmu hdk))
   obtain ⟨bx, hbx⟩ : ∃ bx, bx = w1.heap.size := ⟨_, rfl⟩
   have HBXE := Aside0.mk hbx
   rw [← hbx] at HBX2 ⊢
   clear hbx HBX
   have hL : D1.L = D.L := (step_ok HS.out.ok HST.out).2.1
   obtain ⟨rk2, T2, hb2, hr2, hv2, hF2⟩ := HDK.out.ex
   have hfew := SumpAt.few (rk := rk2) (w := w3) (s := s) (F := F) HDK.out.ok hv2
   have hc := Drop_calls w3 rk2 T2 a hr2 (by omega)
   have d1 : w3.cell? ⟨s, 1, none⟩ = some (.pointer (some ⟨rk2, 0, none⟩)) := (blk_cell hb2 1).trans rfl
   have hlt : ∀ i, F i → i < w.heap.size := HS.out.lt
   have hnF : ¬ F bx := fun e => by have := hlt bx e; have := HSZ.out; have := HBXE.out; omega
   have HBX3 := Aside0.mk (HMU.out.blk HBX2.out (fun e => hnF (HSUB.out _ e)))
   have HU3 := Aside0.mk ((HU.out.keep (fun i cs hc => HB2.out.block i (blk_lt hc))).mut HMU.out (fun i e hi => by subst e; obtain ⟨cs, t, hc, ht⟩ := (HS.out.below HB2.out).foot i (HSUB.out _ rfl); exact ⟨cs, t, hc, ht⟩))
   have H2 := Aside0.mk (And.intro hb2 (And.intro hr2 (And.intro hv2 hF2)))
   have HNF := Aside0.mk hnF
   clear hb2 hr2 hv2 hF2 hlt hnF hfew
   go_upto_region 9 with (go_at_call 56; refine hc.mono ?_; rintro e w4 ⟨rfl, hm, ht⟩; have HM4 := Aside0.mk hm; have HT4 := Aside0.mk ht; clear hc hm ht d1)
   have hty : ∀ i, RF rk2 T2 i → i < w3.heap.size → ∃ cs t, w3.heap[i]? = some (.cells cs t (0, 0)) ∧ t ≠ 5 := fun i hi _ => by
    obtain ⟨cs, t, hc, ht⟩ := RF_typed H2.out.2.1 i hi
    exact ⟨cs, t, hc, by rcases ht with rfl | rfl <;> decide⟩
   have HBX4 := Aside0.mk (blk_drew (HM4.out.blk HBX3.out (fun e => HNF.out ((H2.out.2.2.2 _).2 (.inr e)))))
   have HU4 := Aside0.mk ((HU3.out.mut HM4.out hty).keep (w' := w4.drew) (fun _ _ _ => rfl))
   obtain ⟨F4, hd4, hsub4⟩ := disk_drop a H2.out.1 H2.out.2.1 H2.out.2.2.1 H2.out.2.2.2 HDK.out.ok HM4.out HT4.out
   have HD4 := Aside0.mk (hd4.below (w' := w4.drew) ⟨rfl, rfl, rfl, Nat.le_refl _, fun _ _ => rfl⟩)
   have HS4 := Aside0.mk hsub4
   obtain ⟨rk4, T4, hb4, hr4, hv4, hF4⟩ := HD4.out.ex
   have HK4 := Aside0.mk hb4
   have hfew4 := SumpAt.few (rk := rk4) (w := w4.drew) (s := s) (F := F4) HD4.out.ok hv4
   have hc := Put_calls w4.drew rk4 T4 b u hr4 (by omega)
   have H4 := Aside0.mk (And.intro hr4 (And.intro hv4 hF4))
   have HOK := Aside0.mk (rename_put_ok (b := b) HDK.out.ok (hL ▸ HE.out))
   clear hty hd4 hsub4 hb4 hr4 hv4 hF4 hfew4 hL HBX3 HBX2
   refine wp_mono (Q := fun e a w => e = .normal ∧ _) ?_ (fun e a w h => h.2)
   refine start_ (n := 7) (S := fun w' => w'.cell? ⟨s, 1, none⟩ = some (.pointer (some ⟨rk4, 0, none⟩)) ∧ w'.cell? ⟨bx, 0, none⟩ = some (.slice u.A u.n u.c) ∧ w'.cell? ⟨bx, 1, none⟩ = some (.int .i64 u.s)) (ds := []) #[ff,ff,ff,ff,ff,ff,ff] (by kernel_rfl) rfl rfl ⟨((blk_cell HK4.out 1).trans rfl), ((blk_cell HBX4.out 0).trans rfl), ((blk_cell HBX4.out 1).trans rfl)⟩ (fun hHeld => ?_)
   refine with_tabW q55.tab9 q55.bits9 (fun HT_ HW_ => ?_)
   refine pure_ (i := 0) (N := some 35) (v := ?_) (a' := ?_) #[tt,ff,ff,ff,ff,ff,ff] rfl rfl (any_of HT_.out (by kernel_rfl)) (fun _ _ _ h => nomatch h.1) (Or.inl ⟨by rfl, ?_⟩) ?_ ?_
   rotate_left
   ·intro w'
    go_simp
    with_reducible rfl
   rotate_left
   ·simp only [Act.put, sA, sB, sC, i64_w, i32_w]
    rfl
   refine pure_ (i := 1) (N := some 36) (v := ?_) (a' := ?_) #[tt,tt,ff,ff,ff,ff,ff] rfl rfl (any_of HT_.out (by kernel_rfl)) (fun _ _ _ h => nomatch h.1) (Or.inl ⟨by rfl, ?_⟩) ?_ ?_
   rotate_left
   ·intro w'
    go_simp
    with_reducible rfl
   rotate_left
   ·simp only [Act.put, sA, sB, sC, i64_w, i32_w]
    rfl
   refine pure_ (i := 2) (N := some 37) (v := ?_) (a' := ?_) #[tt,tt,tt,ff,ff,ff,ff] rfl rfl (any_of HT_.out (by kernel_rfl)) (fun _ _ _ h => nomatch h.1) (Or.inl ⟨by rfl, ?_⟩) ?_ ?_
   rotate_left
   ·intro w'
    go_simp
    with_reducible rfl
   rotate_left
   ·simp only [Act.put, sA, sB, sC, i64_w, i32_w]
    rfl
   refine pure_ (i := 4) (N := some 39) (v := ?_) (a' := ?_) #[tt,tt,tt,ff,tt,ff,ff] rfl rfl (any_of HT_.out (by kernel_rfl)) (fun _ _ _ h => nomatch h.1) (Or.inl ⟨by rfl, ?_⟩) ?_ ?_
   rotate_left
   ·intro w'
    go_simp
    with_reducible rfl
   rotate_left
   ·simp only [Act.put, sA, sB, sC, i64_w, i32_w]
    rfl
   refine take_ (i := 3) (N := some 38) (v := ?_) (a' := ?_) #[tt,tt,tt,tt,tt,ff,ff] rfl rfl (take_ofW HT_.out HW_.out (by kernel_rfl)) (fun _ _ _ h => nomatch h.1) (Or.inl ⟨by rfl, ?_⟩) hHeld ?_ ?_
   rotate_left
   ·rintro w' ⟨s0, s1, s2⟩
    go_simp
    with_reducible rfl
   rotate_left
   ·simp only [Act.put, sA, sB, sC, i64_w, i32_w]
    rfl
   refine take_ (i := 5) (N := some 40) (v := ?_) (a' := ?_) #[tt,tt,tt,tt,tt,tt,ff] rfl rfl (take_ofW HT_.out HW_.out (by kernel_rfl)) (fun _ _ _ h => nomatch h.1) (Or.inl ⟨by rfl, ?_⟩) hHeld ?_ ?_
   rotate_left
   ·rintro w' ⟨s0, s1, s2⟩
    go_simp
    with_reducible rfl
   rotate_left
   ·simp only [Act.put, sA, sB, sC, i64_w, i32_w]
    rfl
   refine one_ (i := 6) (N := some 41) #[tt,tt,tt,tt,tt,tt,tt] rfl rfl (one_of HT_.out (by kernel_rfl)) (by decide) (fun K hK => ?_)
   refine goes_ Tryz.func32 (by kernel_rfl) rfl #[.pointer (some ⟨rk4, 0, none⟩), .string b, u.val] (by rfl) rfl rfl (by simp only [List.map_toArray, List.map_cons, List.map_nil]; rfl) ?_
   with_reducible refine (hc).mono ?_
   rintro e w5 ⟨rfl, hm, ht⟩
   refine ⟨_, rfl, ?_⟩
   have HM5 := Aside0.mk hm
   have HT5 := Aside0.mk ht
   have hty : ∀ i, RF rk4 T4 i → i < w4.drew.heap.size → ∃ cs t, w4.drew.heap[i]? = some (.cells cs t (0, 0)) ∧ t ≠ 5 := fun i hi _ => by
    obtain ⟨cs, t, hc, ht⟩ := RF_typed H4.out.1 i hi
    exact ⟨cs, t, hc, by rcases ht with rfl | rfl <;> decide⟩
   have hns : ¬ RF rk4 T4 s := fun e => by
    obtain ⟨cs, t, hc, ht⟩ := RF_typed H4.out.1 s e
    rw [HK4.out] at hc
    cases hc
    rcases ht with ht | ht <;> exact absurd ht (by decide)
   have hnx : ¬ RF rk4 T4 bx := fun e => by
    obtain ⟨cs, t, hc, ht⟩ := RF_typed H4.out.1 bx e
    rw [HBX4.out] at hc
    cases hc
    rcases ht with ht | ht <;> exact absurd ht (by decide)
   have p_K := Aside0.mk (hm.blk HK4.out hns)
   have p_BX := Aside0.mk (hm.blk HBX4.out hnx)
   clear hm ht hc hty hns hnx
   refine hK.out _ _ ⟨((blk_cell p_K.out 1).trans rfl), ((blk_cell p_BX.out 0).trans rfl), ((blk_cell p_BX.out 1).trans rfl)⟩ (fun hHeld => ?_)
   clear hK K
   refine norm_ (a' := ?_) ?_ ?_
   rotate_left
   ·show Act.put _ (some 41) _ = _
    simp only [Act.put, sA, sB, sC, i64_w, i32_w]
    rfl
   refine done_ (done_of HT_.out (by kernel_rfl)) ?_
   refine ⟨rfl, ?_⟩
   clear hHeld HT_ HW_
   go_wp2
   refine bodyPost_ret (v := .int .i64 0) (by simp [results, Tryz.results55, go_sem]) rfl ?_
   rw [HE2.out]
   obtain ⟨F5, hd5, hsub5⟩ := disk_put HK4.out H4.out.1 H4.out.2.1 H4.out.2.2 HOK.out HU4.out HM5.out HT5.out
   refine SumpOut.of ((Mut.of_below HB2.out).trans (F := F) HMU.out (fun _ e => e) (fun i e _ => HSUB.out i e)) ⟨rfl, (HM4.out.drew.mono (F' := F) (fun i e _ => (H2.out.2.2.2 i).2 (.inr e))).trans HM5.out (fun _ e => e) (fun i e hi => ?_), F5, hd5, fun i e => ?_⟩
   ·rcases HS4.out i ((H4.out.2.2 i).2 (.inr e)) with h | h
    ·exact h
    ·omega
   ·rcases hsub5 i e with h | h
    ·exact HS4.out i h
    ·have hz := HM4.out.size; have hz2 : w4.drew.heap.size = w4.heap.size := rfl; exact .inr (by omega)
/-- What change does with a file: G. -/
def Dk.change (D : Dk) (k : ByteArray) (G : Fl → Fl × Int) : Dk × Int := match lk k D.L with
 | none => (D, 5)
 | some f => if (G f).2 ≠ 0 then (D, (G f).2) else match D.step with
  | none => (D, 23)
  | some D1 => (D1.put k (G f).1, 0)
theorem change_none {D : Dk} {k : ByteArray} {G : Fl → Fl × Int} (h : lk k D.L = none) : D.change k G = (D, 5) := by unfold Dk.change; rw [h]
theorem change_bad {D : Dk} {k : ByteArray} {G : Fl → Fl × Int} {f : Fl} (h : lk k D.L = some f) (hg : (G f).2 ≠ 0) : D.change k G = (D, (G f).2) := by unfold Dk.change; rw [h]; simp only; rw [if_pos hg]
theorem change_down {D : Dk} {k : ByteArray} {G : Fl → Fl × Int} {f : Fl} (h : lk k D.L = some f) (hg : (G f).2 = 0) (hs : D.step = none) : D.change k G = (D, 23) := by unfold Dk.change; rw [h]; simp only; rw [if_neg (by simpa using hg), hs]
theorem change_ok {D D1 : Dk} {k : ByteArray} {G : Fl → Fl × Int} {f : Fl} (h : lk k D.L = some f) (hg : (G f).2 = 0) (hs : D.step = some D1) : D.change k G = (D1.put k (G f).1, 0) := by unfold Dk.change; rw [h]; simp only; rw [if_neg (by simpa using hg), hs]
theorem change_put_ok {D : Dk} {k : ByteArray} {f g : Fl} (ok : DkOk D) (h : lk k D.L = some f) (hg : FlOk g) (hl : g.b.length ≤ f.b.length) : DkOk (D.put k g) := by
 refine put_ok ok hg ?_ (.inl (by rw [h]; rfl))
 have h2 : lenAt k D.L = f.b.length := by unfold lenAt; rw [h]
 have := ok.used
 omega
def syncG (f : Fl) : Fl × Int := (⟨f.b, f.b.length⟩, 0)
def cutG (n : Int) (f : Fl) : Fl × Int := if n < 0 ∨ n > f.b.length then (f, 1) else (⟨f.b.take n.toNat, min f.s n⟩, 0)
theorem sync_change (D : Dk) (k : ByteArray) : D.sync k = D.change k syncG := by
 unfold Dk.sync Dk.change syncG
 cases lk k D.L with
 | none => rfl
 | some f => simp only [ne_eq, not_true_eq_false, if_false]; cases D.step <;> rfl
theorem cut_change (D : Dk) (k : ByteArray) (n : Int) : D.cut k n = D.change k (cutG n) := by
 unfold Dk.cut Dk.change cutG
 cases lk k D.L with
 | none => rfl
 | some f =>
  simp only
  by_cases h : n < 0 ∨ n > f.b.length
  ·rw [if_pos h, if_pos h]; simp
  ·rw [if_neg h, if_neg h]; simp only [ne_eq, not_true_eq_false, if_false]; cases D.step <;> rfl
set_option maxRecDepth 100000 in
set_option maxHeartbeats 8000000 in
theorem Sync_change (w : World) (s : Nat) (F : Nat → Prop) (D : Dk) (k : ByteArray)  (h : SumpAt w s F D) 
  (hG : ∀ f, FlOk f → (syncG f).2 = 0 → FlOk (syncG f).1 ∧ (syncG f).1.b.length ≤ f.b.length)
  (hdo : ∀ (W : World) (v : FV) (f : Fl), Below w.heap.size w W → FvAt W v f → FlOk f ∧ f.b.length ≤ 1048576 → Calls Tryz.prog 53 (#[v.val] ++ #[]) W fun e w' => ∃ u : FV, e = .returned (.tuple #[u.val, .int .i64 (syncG f).2]) ∧ Below W.heap.size W w' ∧ FvAt w' u (syncG f).1) :
  Calls Tryz.prog 52 #[.pointer (some ⟨s, 0, none⟩), .string k, .func (.func 53) #[] #[]] w (SumpOut s F (D.change k (syncG)) w) := by
 obtain ⟨rk, T, hb, hr, hv, hF⟩ := h.ex
 have hg := Get_calls w rk T k hr
 have d1 : w.cell? ⟨s, 1, none⟩ = some (.pointer (some ⟨rk, 0, none⟩)) := (blk_cell hb 1).trans rfl
 have HS := Aside0.mk h
 have HSUB := Aside0.mk (fun i (e : i = s) => (hF i).2 (.inl e))
 have HGG := Aside0.mk hG
 rcases hv.lk k with ⟨e1, e2⟩ | ⟨u, f, e1, e2, hu⟩
 ·rw [e1] at hg
  have HE := Aside0.mk (change_none (G := syncG) e2)
  clear h hb hr hv hF e1 e2 hG hdo
  simp only [FV.orZero, Option.isSome] at hg
  go_enter Tryz.func52, Tryz.ntmps52
  go_wp2_with (go_at_call 47; refine hg.mono ?_; rintro e w1 ⟨rfl, hb1⟩; have HSZ := Aside0.mk hb1.size; have HBX := Aside0.mk (heap_alloc_new w1 (.cells #[.slice none 0 0, .int .i64 0] 51)); have hb2 := hb1.alloc hb1.size (.cells #[.slice none 0 0, .int .i64 0] 51); have HB1 := Aside0.mk hb2; clear hb1 d1 hg hb2)
  refine bodyPost_ret (v := .int .i64 5) (by simp [results, Tryz.results52, go_sem]) rfl ?_
  rw [HE.out]
  exact ⟨rfl, Mut.of_below HB1.out, F, HS.out.below HB1.out, fun _ h => .inl h⟩
 ·rw [e1] at hg
  have HE := Aside0.mk e2
  have HU := Aside0.mk hu
  have HOK := Aside0.mk (show FlOk f ∧ f.b.length ≤ 1048576 from ⟨lk_ok h.ok e2, fl_len h.ok e2⟩)
  clear h hb hr hv hF e1 e2 hu hG
  simp only [FV.orZero, Option.isSome] at hg
  simp only [List.push_toArray, List.append_toArray, List.nil_append, List.cons_append] at hdo
  by_cases hz : (syncG f).2 = 0
  ·have HZ := Aside0.mk hz
   have hz2 : ((syncG f).2 != 0) = false := by rw [hz]; rfl
   clear hz
   go_enter Tryz.func52, Tryz.ntmps52
   go_upto_region 5 with (first
    | (go_at_call 47; refine hg.mono ?_; rintro e w1 ⟨rfl, hb1⟩; have HSZ := Aside0.mk hb1.size; have HBX := Aside0.mk (heap_alloc_new w1 (.cells #[.slice u.A u.n u.c, .int .i64 u.s] 51)); have hb2 := hb1.alloc hb1.size (.cells #[.slice u.A u.n u.c, .int .i64 u.s] 51); have HB1 := Aside0.mk hb2; have HU1 := Aside0.mk (HU.out.keep (fun i cs hc => hb2.block i (blk_lt hc))); clear hb1 d1 hg hb2)
    | (go_at_call 53; refine (hdo _ u f HB1.out HU1.out HOK.out).mono ?_; rintro e w2 ⟨u2, rfl, hb, hu2⟩; have hb3 := HB1.out.trans (hb.mono HB1.out.size); have HBX2 := Aside0.mk (blk_below HBX.out hb); have d2 := blk_cell HBX2.out 0; have d3 := blk_cell HBX2.out 1; have f2 := blk_frozen HBX2.out 0; have f3 := blk_frozen HBX2.out 1; have HB2 := Aside0.mk hb3; have HU2 := Aside0.mk hu2; clear hb hb3 hu2 hdo))
   obtain ⟨bx, hbx⟩ : ∃ bx, bx = w1.heap.size := ⟨_, rfl⟩
   have HBXE := Aside0.mk (show w.heap.size ≤ bx by have := HSZ.out; omega)
   rw [← hbx] at HBX2 ⊢
   clear hbx HBX d2 d3 f2 f3
   have HB5 := Aside0.mk ((HB2.out.setCell (p := ⟨bx, 0, none⟩) HBXE.out (.slice u2.A u2.n u2.c)).setCell (p := ⟨bx, 1, none⟩) HBXE.out (.int .i64 u2.s))
   have HBX5 := Aside0.mk (blk_put (blk_put HBX2.out 0 (.slice u2.A u2.n u2.c) rfl) 1 (.int .i64 u2.s) (cs' := #[.slice u2.A u2.n u2.c, .int .i64 u2.s]) rfl)
   have HU5 := Aside0.mk (HU2.out.keep (w' := (w2.setCell ⟨bx, 0, none⟩ (.slice u2.A u2.n u2.c)).setCell ⟨bx, 1, none⟩ (.int .i64 u2.s)) (fun i cs hc => by
    have hne : i ≠ bx := fun e => by rw [e, HBX2.out] at hc; exact absurd (Obj.cells.inj (Option.some.inj hc)).2.1 (by decide)
    exact (Below.heap_setCell _ ⟨bx, 1, none⟩ _ i hne).trans (Below.heap_setCell _ ⟨bx, 0, none⟩ _ i hne)))
   clear HB2 HBX2 HU2 HU1
   generalize (w2.setCell ⟨bx, 0, none⟩ (.slice u2.A u2.n u2.c)).setCell ⟨bx, 1, none⟩ (.int .i64 u2.s) = w3 at HB5 HBX5 HU5 ⊢
   have hcs := step_calls w3 s F D (HS.out.below HB5.out)
   cases hst : D.step with
   | none =>
    have HE2 := Aside0.mk (change_down (G := syncG) HE.out HZ.out hst)
    have HST := Aside0.mk hst
    clear hst
    go_wp2_with (go_at_call 50; refine hcs.mono ?_; rintro e w4 ⟨hret, hmu, hdk⟩; rw [HST.out] at hret; simp only [Option.isSome] at hret; subst hret; have HMU := Aside0.mk hmu; have HDK := Aside0.mk (hdk D (.inl ⟨rfl, HST.out⟩)); clear hcs hmu hdk)
    refine bodyPost_ret (v := .int .i64 23) (by simp [results, Tryz.results52, go_sem]) rfl ?_
    rw [HE2.out]
    exact SumpOut.of (Mut.of_below HB5.out) ⟨rfl, HMU.out.mono (fun i e _ => HSUB.out i e), F, HDK.out, fun _ h => .inl h⟩
   | some D1 =>
    have HE2 := Aside0.mk (change_ok (G := syncG) HE.out HZ.out hst)
    have HST := Aside0.mk hst
    clear hst
    go_upto_region 9 with (go_at_call 50; refine hcs.mono ?_; rintro e w4 ⟨hret, hmu, hdk⟩; rw [HST.out] at hret; simp only [Option.isSome] at hret; subst hret; have HMU := Aside0.mk hmu; have HDK := Aside0.mk (hdk D1 (.inr HST.out)); clear hcs hmu hdk)
    have hL : D1.L = D.L := (step_ok HS.out.ok HST.out).2.1
    have hnF : ¬ F bx := fun e => by have := HS.out.lt bx e; have := HBXE.out; omega
    have HBX6 := Aside0.mk (blk_drew (HMU.out.blk HBX5.out (fun e => hnF (HSUB.out _ e))))
    have HU6 := Aside0.mk ((HU5.out.mut HMU.out (fun i e hi => by subst e; obtain ⟨cs, t, hc, ht⟩ := (HS.out.below HB5.out).foot i (HSUB.out _ rfl); exact ⟨cs, t, hc, ht⟩)).keep (w' := w4.drew) (fun _ _ _ => rfl))
    have HD6 := Aside0.mk (HDK.out.below (w' := w4.drew) ⟨rfl, rfl, rfl, Nat.le_refl _, fun _ _ => rfl⟩)
    obtain ⟨rk4, T4, hb4, hr4, hv4, hF4⟩ := HD6.out.ex
    have HK4 := Aside0.mk hb4
    have hfew4 := SumpAt.few (rk := rk4) (w := w4.drew) (s := s) (F := F) HD6.out.ok hv4
    have hc := Put_calls w4.drew rk4 T4 k u2 hr4 (by omega)
    have H4 := Aside0.mk (And.intro hr4 (And.intro hv4 hF4))
    have HOK2 := Aside0.mk (change_put_ok (g := (syncG f).1) HDK.out.ok (hL ▸ HE.out) (HGG.out f HOK.out.1 HZ.out).1 (HGG.out f HOK.out.1 HZ.out).2)
    have HMD := Aside0.mk HMU.out.drew
    clear hnF hL hb4 hr4 hv4 hF4 hfew4 HBX5 HU5 hz2
    refine wp_mono (Q := fun e a w => e = .normal ∧ _) ?_ (fun e a w h => h.2)
    refine start_ (n := 7) (S := fun w' => w'.cell? ⟨s, 1, none⟩ = some (.pointer (some ⟨rk4, 0, none⟩)) ∧ w'.cell? ⟨bx, 0, none⟩ = some (.slice u2.A u2.n u2.c) ∧ w'.cell? ⟨bx, 1, none⟩ = some (.int .i64 u2.s)) (ds := []) #[ff,ff,ff,ff,ff,ff,ff] (by kernel_rfl) rfl rfl ⟨((blk_cell HK4.out 1).trans rfl), ((blk_cell HBX6.out 0).trans rfl), ((blk_cell HBX6.out 1).trans rfl)⟩ (fun hHeld => ?_)
    refine with_tabW q52.tab9 q52.bits9 (fun HT_ HW_ => ?_)
    refine pure_ (i := 0) (N := some 35) (v := ?_) (a' := ?_) #[tt,ff,ff,ff,ff,ff,ff] rfl rfl (any_of HT_.out (by kernel_rfl)) (fun _ _ _ h => nomatch h.1) (Or.inl ⟨by rfl, ?_⟩) ?_ ?_
    rotate_left
    ·intro w'
     go_simp
     with_reducible rfl
    rotate_left
    ·simp only [Act.put, sA, sB, sC, i64_w, i32_w]
     rfl
    refine pure_ (i := 1) (N := some 36) (v := ?_) (a' := ?_) #[tt,tt,ff,ff,ff,ff,ff] rfl rfl (any_of HT_.out (by kernel_rfl)) (fun _ _ _ h => nomatch h.1) (Or.inl ⟨by rfl, ?_⟩) ?_ ?_
    rotate_left
    ·intro w'
     go_simp
     with_reducible rfl
    rotate_left
    ·simp only [Act.put, sA, sB, sC, i64_w, i32_w]
     rfl
    refine pure_ (i := 2) (N := some 37) (v := ?_) (a' := ?_) #[tt,tt,tt,ff,ff,ff,ff] rfl rfl (any_of HT_.out (by kernel_rfl)) (fun _ _ _ h => nomatch h.1) (Or.inl ⟨by rfl, ?_⟩) ?_ ?_
    rotate_left
    ·intro w'
     go_simp
     with_reducible rfl
    rotate_left
    ·simp only [Act.put, sA, sB, sC, i64_w, i32_w]
     rfl
    refine pure_ (i := 4) (N := some 39) (v := ?_) (a' := ?_) #[tt,tt,tt,ff,tt,ff,ff] rfl rfl (any_of HT_.out (by kernel_rfl)) (fun _ _ _ h => nomatch h.1) (Or.inl ⟨by rfl, ?_⟩) ?_ ?_
    rotate_left
    ·intro w'
     go_simp
     with_reducible rfl
    rotate_left
    ·simp only [Act.put, sA, sB, sC, i64_w, i32_w]
     rfl
    refine take_ (i := 3) (N := some 38) (v := ?_) (a' := ?_) #[tt,tt,tt,tt,tt,ff,ff] rfl rfl (take_ofW HT_.out HW_.out (by kernel_rfl)) (fun _ _ _ h => nomatch h.1) (Or.inl ⟨by rfl, ?_⟩) hHeld ?_ ?_
    rotate_left
    ·rintro w' ⟨s0, s1, s2⟩
     go_simp
     with_reducible rfl
    rotate_left
    ·simp only [Act.put, sA, sB, sC, i64_w, i32_w]
     rfl
    refine take_ (i := 5) (N := some 40) (v := ?_) (a' := ?_) #[tt,tt,tt,tt,tt,tt,ff] rfl rfl (take_ofW HT_.out HW_.out (by kernel_rfl)) (fun _ _ _ h => nomatch h.1) (Or.inl ⟨by rfl, ?_⟩) hHeld ?_ ?_
    rotate_left
    ·rintro w' ⟨s0, s1, s2⟩
     go_simp
     with_reducible rfl
    rotate_left
    ·simp only [Act.put, sA, sB, sC, i64_w, i32_w]
     rfl
    refine one_ (i := 6) (N := some 41) #[tt,tt,tt,tt,tt,tt,tt] rfl rfl (one_of HT_.out (by kernel_rfl)) (by decide) (fun K hK => ?_)
    refine goes_ Tryz.func32 (by kernel_rfl) rfl #[.pointer (some ⟨rk4, 0, none⟩), .string k, u2.val] (by rfl) rfl rfl (by simp only [List.map_toArray, List.map_cons, List.map_nil]; rfl) ?_
    with_reducible refine (hc).mono ?_
    rintro e w5 ⟨rfl, hm, ht⟩
    refine ⟨_, rfl, ?_⟩
    have HM5 := Aside0.mk hm
    have HT5 := Aside0.mk ht
    have hns : ¬ RF rk4 T4 s := fun e => by
     obtain ⟨cs, t, hc, ht⟩ := RF_typed H4.out.1 s e
     rw [HK4.out] at hc
     cases hc
     rcases ht with ht | ht <;> exact absurd ht (by decide)
    have hnx : ¬ RF rk4 T4 bx := fun e => by
     obtain ⟨cs, t, hc, ht⟩ := RF_typed H4.out.1 bx e
     rw [HBX6.out] at hc
     cases hc
     rcases ht with ht | ht <;> exact absurd ht (by decide)
    have p_K := Aside0.mk (hm.blk HK4.out hns)
    have p_BX := Aside0.mk (hm.blk HBX6.out hnx)
    clear hm ht hc hns hnx
    refine hK.out _ _ ⟨((blk_cell p_K.out 1).trans rfl), ((blk_cell p_BX.out 0).trans rfl), ((blk_cell p_BX.out 1).trans rfl)⟩ (fun hHeld => ?_)
    clear hK K
    refine norm_ (a' := ?_) ?_ ?_
    rotate_left
    ·show Act.put _ (some 41) _ = _
     simp only [Act.put, sA, sB, sC, i64_w, i32_w]
     rfl
    refine done_ (done_of HT_.out (by kernel_rfl)) ?_
    refine ⟨rfl, ?_⟩
    clear hHeld HT_ HW_
    go_wp2
    refine bodyPost_ret (v := .int .i64 0) (by simp [results, Tryz.results52, go_sem]) rfl ?_
    rw [HE2.out]
    obtain ⟨F5, hd5, hsub5⟩ := disk_put HK4.out H4.out.1 H4.out.2.1 H4.out.2.2 HOK2.out HU6.out HM5.out HT5.out
    refine SumpOut.of (Mut.of_below HB5.out) ⟨rfl, (HMD.out.mono (F' := F) (fun i e _ => HSUB.out i e)).trans HM5.out (fun _ e => e) (fun i e _ => (H4.out.2.2 i).2 (.inr e)), F5, hd5, fun i e => (hsub5 i e).imp id (fun h => ?_)⟩
    have hz := HMD.out.size
    omega
  ·have hz2 : ((syncG f).2 != 0) = true := by simpa using hz
   have HE2 := Aside0.mk (change_bad (G := syncG) HE.out hz)
   clear hz
   go_enter Tryz.func52, Tryz.ntmps52
   go_wp2_with (first
    | (go_at_call 47; refine hg.mono ?_; rintro e w1 ⟨rfl, hb1⟩; have HSZ := Aside0.mk hb1.size; have HBX := Aside0.mk (heap_alloc_new w1 (.cells #[.slice u.A u.n u.c, .int .i64 u.s] 51)); have hb2 := hb1.alloc hb1.size (.cells #[.slice u.A u.n u.c, .int .i64 u.s] 51); have HB1 := Aside0.mk hb2; have HU1 := Aside0.mk (HU.out.keep (fun i cs hc => hb2.block i (blk_lt hc))); clear hb1 d1 hg hb2)
    | (go_at_call 53; refine (hdo _ u f HB1.out HU1.out HOK.out).mono ?_; rintro e w2 ⟨u2, rfl, hb, hu2⟩; have hb3 := HB1.out.trans (hb.mono HB1.out.size); have HBX2 := Aside0.mk (blk_below HBX.out hb); have d2 := blk_cell HBX2.out 0; have d3 := blk_cell HBX2.out 1; have f2 := blk_frozen HBX2.out 0; have f3 := blk_frozen HBX2.out 1; have HB2 := Aside0.mk hb3; have HU2 := Aside0.mk hu2; clear hb hb3 hu2 hdo))
   refine bodyPost_ret (v := .int .i64 (syncG f).2) (by simp [results, Tryz.results52, go_sem]) rfl ?_
   rw [HE2.out]
   obtain ⟨bx, hbx⟩ : ∃ bx, bx = w1.heap.size := ⟨_, rfl⟩
   have hbxe : w.heap.size ≤ bx := by have := HSZ.out; omega
   rw [← hbx]
   have hB5 := (HB2.out.setCell (p := ⟨bx, 0, none⟩) hbxe (.slice u2.A u2.n u2.c)).setCell (p := ⟨bx, 1, none⟩) hbxe (.int .i64 u2.s)
   exact ⟨rfl, Mut.of_below hB5, F, HS.out.below hB5, fun _ h => .inl h⟩
set_option maxRecDepth 100000 in
set_option maxHeartbeats 8000000 in
theorem Cut_change (w : World) (s : Nat) (F : Nat → Prop) (D : Dk) (k : ByteArray) (bn : Nat) (n : Int) (h : SumpAt w s F D) 
  (hG : ∀ f, FlOk f → (cutG n f).2 = 0 → FlOk (cutG n f).1 ∧ (cutG n f).1.b.length ≤ f.b.length)
  (hdo : ∀ (W : World) (v : FV) (f : Fl), Below w.heap.size w W → FvAt W v f → FlOk f ∧ f.b.length ≤ 1048576 → Calls Tryz.prog 69 (#[v.val] ++ #[.pointer (some ⟨bn, 0, none⟩)]) W fun e w' => ∃ u : FV, e = .returned (.tuple #[u.val, .int .i64 (cutG n f).2]) ∧ Below W.heap.size W w' ∧ FvAt w' u (cutG n f).1) :
  Calls Tryz.prog 52 #[.pointer (some ⟨s, 0, none⟩), .string k, .func (.func 69) #[] #[.pointer (some ⟨bn, 0, none⟩)]] w (SumpOut s F (D.change k (cutG n)) w) := by
 obtain ⟨rk, T, hb, hr, hv, hF⟩ := h.ex
 have hg := Get_calls w rk T k hr
 have d1 : w.cell? ⟨s, 1, none⟩ = some (.pointer (some ⟨rk, 0, none⟩)) := (blk_cell hb 1).trans rfl
 have HS := Aside0.mk h
 have HSUB := Aside0.mk (fun i (e : i = s) => (hF i).2 (.inl e))
 have HGG := Aside0.mk hG
 rcases hv.lk k with ⟨e1, e2⟩ | ⟨u, f, e1, e2, hu⟩
 ·rw [e1] at hg
  have HE := Aside0.mk (change_none (G := cutG n) e2)
  clear h hb hr hv hF e1 e2 hG hdo
  simp only [FV.orZero, Option.isSome] at hg
  go_enter Tryz.func52, Tryz.ntmps52
  go_wp2_with (go_at_call 47; refine hg.mono ?_; rintro e w1 ⟨rfl, hb1⟩; have HSZ := Aside0.mk hb1.size; have HBX := Aside0.mk (heap_alloc_new w1 (.cells #[.slice none 0 0, .int .i64 0] 51)); have hb2 := hb1.alloc hb1.size (.cells #[.slice none 0 0, .int .i64 0] 51); have HB1 := Aside0.mk hb2; clear hb1 d1 hg hb2)
  refine bodyPost_ret (v := .int .i64 5) (by simp [results, Tryz.results52, go_sem]) rfl ?_
  rw [HE.out]
  exact ⟨rfl, Mut.of_below HB1.out, F, HS.out.below HB1.out, fun _ h => .inl h⟩
 ·rw [e1] at hg
  have HE := Aside0.mk e2
  have HU := Aside0.mk hu
  have HOK := Aside0.mk (show FlOk f ∧ f.b.length ≤ 1048576 from ⟨lk_ok h.ok e2, fl_len h.ok e2⟩)
  clear h hb hr hv hF e1 e2 hu hG
  simp only [FV.orZero, Option.isSome] at hg
  simp only [List.push_toArray, List.append_toArray, List.nil_append, List.cons_append] at hdo
  by_cases hz : (cutG n f).2 = 0
  ·have HZ := Aside0.mk hz
   have hz2 : ((cutG n f).2 != 0) = false := by rw [hz]; rfl
   clear hz
   go_enter Tryz.func52, Tryz.ntmps52
   go_upto_region 5 with (first
    | (go_at_call 47; refine hg.mono ?_; rintro e w1 ⟨rfl, hb1⟩; have HSZ := Aside0.mk hb1.size; have HBX := Aside0.mk (heap_alloc_new w1 (.cells #[.slice u.A u.n u.c, .int .i64 u.s] 51)); have hb2 := hb1.alloc hb1.size (.cells #[.slice u.A u.n u.c, .int .i64 u.s] 51); have HB1 := Aside0.mk hb2; have HU1 := Aside0.mk (HU.out.keep (fun i cs hc => hb2.block i (blk_lt hc))); clear hb1 d1 hg hb2)
    | (go_at_call 69; refine (hdo _ u f HB1.out HU1.out HOK.out).mono ?_; rintro e w2 ⟨u2, rfl, hb, hu2⟩; have hb3 := HB1.out.trans (hb.mono HB1.out.size); have HBX2 := Aside0.mk (blk_below HBX.out hb); have d2 := blk_cell HBX2.out 0; have d3 := blk_cell HBX2.out 1; have f2 := blk_frozen HBX2.out 0; have f3 := blk_frozen HBX2.out 1; have HB2 := Aside0.mk hb3; have HU2 := Aside0.mk hu2; clear hb hb3 hu2 hdo))
   obtain ⟨bx, hbx⟩ : ∃ bx, bx = w1.heap.size := ⟨_, rfl⟩
   have HBXE := Aside0.mk (show w.heap.size ≤ bx by have := HSZ.out; omega)
   rw [← hbx] at HBX2 ⊢
   clear hbx HBX d2 d3 f2 f3
   have HB5 := Aside0.mk ((HB2.out.setCell (p := ⟨bx, 0, none⟩) HBXE.out (.slice u2.A u2.n u2.c)).setCell (p := ⟨bx, 1, none⟩) HBXE.out (.int .i64 u2.s))
   have HBX5 := Aside0.mk (blk_put (blk_put HBX2.out 0 (.slice u2.A u2.n u2.c) rfl) 1 (.int .i64 u2.s) (cs' := #[.slice u2.A u2.n u2.c, .int .i64 u2.s]) rfl)
   have HU5 := Aside0.mk (HU2.out.keep (w' := (w2.setCell ⟨bx, 0, none⟩ (.slice u2.A u2.n u2.c)).setCell ⟨bx, 1, none⟩ (.int .i64 u2.s)) (fun i cs hc => by
    have hne : i ≠ bx := fun e => by rw [e, HBX2.out] at hc; exact absurd (Obj.cells.inj (Option.some.inj hc)).2.1 (by decide)
    exact (Below.heap_setCell _ ⟨bx, 1, none⟩ _ i hne).trans (Below.heap_setCell _ ⟨bx, 0, none⟩ _ i hne)))
   clear HB2 HBX2 HU2 HU1
   generalize (w2.setCell ⟨bx, 0, none⟩ (.slice u2.A u2.n u2.c)).setCell ⟨bx, 1, none⟩ (.int .i64 u2.s) = w3 at HB5 HBX5 HU5 ⊢
   have hcs := step_calls w3 s F D (HS.out.below HB5.out)
   cases hst : D.step with
   | none =>
    have HE2 := Aside0.mk (change_down (G := cutG n) HE.out HZ.out hst)
    have HST := Aside0.mk hst
    clear hst
    go_wp2_with (go_at_call 50; refine hcs.mono ?_; rintro e w4 ⟨hret, hmu, hdk⟩; rw [HST.out] at hret; simp only [Option.isSome] at hret; subst hret; have HMU := Aside0.mk hmu; have HDK := Aside0.mk (hdk D (.inl ⟨rfl, HST.out⟩)); clear hcs hmu hdk)
    refine bodyPost_ret (v := .int .i64 23) (by simp [results, Tryz.results52, go_sem]) rfl ?_
    rw [HE2.out]
    exact SumpOut.of (Mut.of_below HB5.out) ⟨rfl, HMU.out.mono (fun i e _ => HSUB.out i e), F, HDK.out, fun _ h => .inl h⟩
   | some D1 =>
    have HE2 := Aside0.mk (change_ok (G := cutG n) HE.out HZ.out hst)
    have HST := Aside0.mk hst
    clear hst
    go_upto_region 9 with (go_at_call 50; refine hcs.mono ?_; rintro e w4 ⟨hret, hmu, hdk⟩; rw [HST.out] at hret; simp only [Option.isSome] at hret; subst hret; have HMU := Aside0.mk hmu; have HDK := Aside0.mk (hdk D1 (.inr HST.out)); clear hcs hmu hdk)
    have hL : D1.L = D.L := (step_ok HS.out.ok HST.out).2.1
    have hnF : ¬ F bx := fun e => by have := HS.out.lt bx e; have := HBXE.out; omega
    have HBX6 := Aside0.mk (blk_drew (HMU.out.blk HBX5.out (fun e => hnF (HSUB.out _ e))))
    have HU6 := Aside0.mk ((HU5.out.mut HMU.out (fun i e hi => by subst e; obtain ⟨cs, t, hc, ht⟩ := (HS.out.below HB5.out).foot i (HSUB.out _ rfl); exact ⟨cs, t, hc, ht⟩)).keep (w' := w4.drew) (fun _ _ _ => rfl))
    have HD6 := Aside0.mk (HDK.out.below (w' := w4.drew) ⟨rfl, rfl, rfl, Nat.le_refl _, fun _ _ => rfl⟩)
    obtain ⟨rk4, T4, hb4, hr4, hv4, hF4⟩ := HD6.out.ex
    have HK4 := Aside0.mk hb4
    have hfew4 := SumpAt.few (rk := rk4) (w := w4.drew) (s := s) (F := F) HD6.out.ok hv4
    have hc := Put_calls w4.drew rk4 T4 k u2 hr4 (by omega)
    have H4 := Aside0.mk (And.intro hr4 (And.intro hv4 hF4))
    have HOK2 := Aside0.mk (change_put_ok (g := (cutG n f).1) HDK.out.ok (hL ▸ HE.out) (HGG.out f HOK.out.1 HZ.out).1 (HGG.out f HOK.out.1 HZ.out).2)
    have HMD := Aside0.mk HMU.out.drew
    clear hnF hL hb4 hr4 hv4 hF4 hfew4 HBX5 HU5 hz2
    refine wp_mono (Q := fun e a w => e = .normal ∧ _) ?_ (fun e a w h => h.2)
    refine start_ (n := 7) (S := fun w' => w'.cell? ⟨s, 1, none⟩ = some (.pointer (some ⟨rk4, 0, none⟩)) ∧ w'.cell? ⟨bx, 0, none⟩ = some (.slice u2.A u2.n u2.c) ∧ w'.cell? ⟨bx, 1, none⟩ = some (.int .i64 u2.s)) (ds := []) #[ff,ff,ff,ff,ff,ff,ff] (by kernel_rfl) rfl rfl ⟨((blk_cell HK4.out 1).trans rfl), ((blk_cell HBX6.out 0).trans rfl), ((blk_cell HBX6.out 1).trans rfl)⟩ (fun hHeld => ?_)
    refine with_tabW q52.tab9 q52.bits9 (fun HT_ HW_ => ?_)
    refine pure_ (i := 0) (N := some 35) (v := ?_) (a' := ?_) #[tt,ff,ff,ff,ff,ff,ff] rfl rfl (any_of HT_.out (by kernel_rfl)) (fun _ _ _ h => nomatch h.1) (Or.inl ⟨by rfl, ?_⟩) ?_ ?_
    rotate_left
    ·intro w'
     go_simp
     with_reducible rfl
    rotate_left
    ·simp only [Act.put, sA, sB, sC, i64_w, i32_w]
     rfl
    refine pure_ (i := 1) (N := some 36) (v := ?_) (a' := ?_) #[tt,tt,ff,ff,ff,ff,ff] rfl rfl (any_of HT_.out (by kernel_rfl)) (fun _ _ _ h => nomatch h.1) (Or.inl ⟨by rfl, ?_⟩) ?_ ?_
    rotate_left
    ·intro w'
     go_simp
     with_reducible rfl
    rotate_left
    ·simp only [Act.put, sA, sB, sC, i64_w, i32_w]
     rfl
    refine pure_ (i := 2) (N := some 37) (v := ?_) (a' := ?_) #[tt,tt,tt,ff,ff,ff,ff] rfl rfl (any_of HT_.out (by kernel_rfl)) (fun _ _ _ h => nomatch h.1) (Or.inl ⟨by rfl, ?_⟩) ?_ ?_
    rotate_left
    ·intro w'
     go_simp
     with_reducible rfl
    rotate_left
    ·simp only [Act.put, sA, sB, sC, i64_w, i32_w]
     rfl
    refine pure_ (i := 4) (N := some 39) (v := ?_) (a' := ?_) #[tt,tt,tt,ff,tt,ff,ff] rfl rfl (any_of HT_.out (by kernel_rfl)) (fun _ _ _ h => nomatch h.1) (Or.inl ⟨by rfl, ?_⟩) ?_ ?_
    rotate_left
    ·intro w'
     go_simp
     with_reducible rfl
    rotate_left
    ·simp only [Act.put, sA, sB, sC, i64_w, i32_w]
     rfl
    refine take_ (i := 3) (N := some 38) (v := ?_) (a' := ?_) #[tt,tt,tt,tt,tt,ff,ff] rfl rfl (take_ofW HT_.out HW_.out (by kernel_rfl)) (fun _ _ _ h => nomatch h.1) (Or.inl ⟨by rfl, ?_⟩) hHeld ?_ ?_
    rotate_left
    ·rintro w' ⟨s0, s1, s2⟩
     go_simp
     with_reducible rfl
    rotate_left
    ·simp only [Act.put, sA, sB, sC, i64_w, i32_w]
     rfl
    refine take_ (i := 5) (N := some 40) (v := ?_) (a' := ?_) #[tt,tt,tt,tt,tt,tt,ff] rfl rfl (take_ofW HT_.out HW_.out (by kernel_rfl)) (fun _ _ _ h => nomatch h.1) (Or.inl ⟨by rfl, ?_⟩) hHeld ?_ ?_
    rotate_left
    ·rintro w' ⟨s0, s1, s2⟩
     go_simp
     with_reducible rfl
    rotate_left
    ·simp only [Act.put, sA, sB, sC, i64_w, i32_w]
     rfl
    refine one_ (i := 6) (N := some 41) #[tt,tt,tt,tt,tt,tt,tt] rfl rfl (one_of HT_.out (by kernel_rfl)) (by decide) (fun K hK => ?_)
    refine goes_ Tryz.func32 (by kernel_rfl) rfl #[.pointer (some ⟨rk4, 0, none⟩), .string k, u2.val] (by rfl) rfl rfl (by simp only [List.map_toArray, List.map_cons, List.map_nil]; rfl) ?_
    with_reducible refine (hc).mono ?_
    rintro e w5 ⟨rfl, hm, ht⟩
    refine ⟨_, rfl, ?_⟩
    have HM5 := Aside0.mk hm
    have HT5 := Aside0.mk ht
    have hns : ¬ RF rk4 T4 s := fun e => by
     obtain ⟨cs, t, hc, ht⟩ := RF_typed H4.out.1 s e
     rw [HK4.out] at hc
     cases hc
     rcases ht with ht | ht <;> exact absurd ht (by decide)
    have hnx : ¬ RF rk4 T4 bx := fun e => by
     obtain ⟨cs, t, hc, ht⟩ := RF_typed H4.out.1 bx e
     rw [HBX6.out] at hc
     cases hc
     rcases ht with ht | ht <;> exact absurd ht (by decide)
    have p_K := Aside0.mk (hm.blk HK4.out hns)
    have p_BX := Aside0.mk (hm.blk HBX6.out hnx)
    clear hm ht hc hns hnx
    refine hK.out _ _ ⟨((blk_cell p_K.out 1).trans rfl), ((blk_cell p_BX.out 0).trans rfl), ((blk_cell p_BX.out 1).trans rfl)⟩ (fun hHeld => ?_)
    clear hK K
    refine norm_ (a' := ?_) ?_ ?_
    rotate_left
    ·show Act.put _ (some 41) _ = _
     simp only [Act.put, sA, sB, sC, i64_w, i32_w]
     rfl
    refine done_ (done_of HT_.out (by kernel_rfl)) ?_
    refine ⟨rfl, ?_⟩
    clear hHeld HT_ HW_
    go_wp2
    refine bodyPost_ret (v := .int .i64 0) (by simp [results, Tryz.results52, go_sem]) rfl ?_
    rw [HE2.out]
    obtain ⟨F5, hd5, hsub5⟩ := disk_put HK4.out H4.out.1 H4.out.2.1 H4.out.2.2 HOK2.out HU6.out HM5.out HT5.out
    refine SumpOut.of (Mut.of_below HB5.out) ⟨rfl, (HMD.out.mono (F' := F) (fun i e _ => HSUB.out i e)).trans HM5.out (fun _ e => e) (fun i e _ => (H4.out.2.2 i).2 (.inr e)), F5, hd5, fun i e => (hsub5 i e).imp id (fun h => ?_)⟩
    have hz := HMD.out.size
    omega
  ·have hz2 : ((cutG n f).2 != 0) = true := by simpa using hz
   have HE2 := Aside0.mk (change_bad (G := cutG n) HE.out hz)
   clear hz
   go_enter Tryz.func52, Tryz.ntmps52
   go_wp2_with (first
    | (go_at_call 47; refine hg.mono ?_; rintro e w1 ⟨rfl, hb1⟩; have HSZ := Aside0.mk hb1.size; have HBX := Aside0.mk (heap_alloc_new w1 (.cells #[.slice u.A u.n u.c, .int .i64 u.s] 51)); have hb2 := hb1.alloc hb1.size (.cells #[.slice u.A u.n u.c, .int .i64 u.s] 51); have HB1 := Aside0.mk hb2; have HU1 := Aside0.mk (HU.out.keep (fun i cs hc => hb2.block i (blk_lt hc))); clear hb1 d1 hg hb2)
    | (go_at_call 69; refine (hdo _ u f HB1.out HU1.out HOK.out).mono ?_; rintro e w2 ⟨u2, rfl, hb, hu2⟩; have hb3 := HB1.out.trans (hb.mono HB1.out.size); have HBX2 := Aside0.mk (blk_below HBX.out hb); have d2 := blk_cell HBX2.out 0; have d3 := blk_cell HBX2.out 1; have f2 := blk_frozen HBX2.out 0; have f3 := blk_frozen HBX2.out 1; have HB2 := Aside0.mk hb3; have HU2 := Aside0.mk hu2; clear hb hb3 hu2 hdo))
   refine bodyPost_ret (v := .int .i64 (cutG n f).2) (by simp [results, Tryz.results52, go_sem]) rfl ?_
   rw [HE2.out]
   obtain ⟨bx, hbx⟩ : ∃ bx, bx = w1.heap.size := ⟨_, rfl⟩
   have hbxe : w.heap.size ≤ bx := by have := HSZ.out; omega
   rw [← hbx]
   have hB5 := (HB2.out.setCell (p := ⟨bx, 0, none⟩) hbxe (.slice u2.A u2.n u2.c)).setCell (p := ⟨bx, 1, none⟩) hbxe (.int .i64 u2.s)
   exact ⟨rfl, Mut.of_below hB5, F, HS.out.below hB5, fun _ h => .inl h⟩
end Go.Proofs.YtdooajmgfoobfaaGreatDoor.H
