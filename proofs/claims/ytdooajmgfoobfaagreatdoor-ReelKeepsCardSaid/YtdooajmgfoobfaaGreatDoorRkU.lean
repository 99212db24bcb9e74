/- A region that draws its order, inside a fence, step by step. -/
import Derived.Test.YtdooajmgfoobfaaGreatDoorZz
import Derived.Test.YtdooajmgfoobfaaGreatDoorRkI
import Derived.Test.YtdooajmgfoobfaaGreatDoorBlH
namespace Go.Proofs.YtdooajmgfoobfaaGreatDoor.H
open Go.RowKit Go.Proofs.YtdooajmgfoobfaaGreatDoor.PA Go.Proofs.YtdooajmgfoobfaaGreatDoorW.PrintWords Go.Proofs.YtdooajmgfoobfaaGreatDoorW.PrintLast Go.Proofs.YtdooajmgfoobfaaGreatDoorW.PrintMore
set_option linter.unusedVariables false
set_option linter.unusedSimpArgs false
theorem Tr.drop_len {α : Type} {cmp : ByteArray → ByteArray → Int} {k : ByteArray} : ∀ (t : Tr α), (Tr.drop cmp k t).toL.length ≤ t.toL.length
 | .nil => by simp [Tr.drop, Tr.toL]
 | .node b k' v' l r h m => by
  have h1 := Tr.drop_len (cmp := cmp) (k := k) l
  have h2 := Tr.drop_len (cmp := cmp) (k := k) r
  unfold Tr.drop
  split
  ·rw [Tr.even_toL]; simp only [Tr.toL, List.length_append, List.length_cons]; omega
  ·split
   ·rw [Tr.even_toL]; simp only [Tr.toL, List.length_append, List.length_cons]; omega
   ·cases r with
    | nil => simp only [Tr.toL, List.length_append, List.length_cons]; omega
    | node b2 k2 v2 l2 r2 h2 m2 =>
     have := congrArg List.length (Tr.least_toL l2 b2 k2 v2 r2)
     simp only [List.length_cons, List.length_append] at this
     rw [Tr.even_toL]; simp only [Tr.toL, List.length_append, List.length_cons]; omega
theorem Tr.drop_sub {α : Type} {cmp : ByteArray → ByteArray → Int} {k : ByteArray} (t : Tr α) : ∀ i, i ∈ (Tr.drop cmp k t).ids → i ∈ t.ids := fun i hi => (Tr.drop_ids t).subset hi
def q76.T4 : Bool × List (List Nat × List Nat) := (true, [([], []), ([0], [0]), ([1], [1]), ([2], [2]), ([], []), ([], []), ([5], [5]), ([6], [6]), ([7], [7]), ([3, 4, 8], [3, 4, 8]), ([9, 9, 0, 1, 2, 3, 4, 5, 6, 7, 8, 9], [9])])
def q76.B4 : List Nat := [0, 1, 3, 7, 0, 0, 32, 96, 224, 511, 1023]
theorem q76.tab4 : rtab .any (opsOf Tryz.f76 4) = q76.T4 := by kernel_rfl
theorem q76.bits4 : waitsOk q76.T4.2 q76.B4 = true := by kernel_rfl
set_option maxRecDepth 100000 in
set_option maxHeartbeats 8000000 in
theorem drop_calls (rk : Nat) (k : ByteArray) (x : Value) : ∀ (t : Tr FV) (w : World), w.heap[rk]? = some (.cells #[cmpV, x] 79 (0, 0)) → At w t → t.wf → t.toL.length ≤ 1000 → t.ids.Nodup → rk ∉ t.ids →
  Calls Tryz.prog 76 #[.pointer (some ⟨rk, 0, none⟩), .pointer (Tr.adr t), .string k] w fun e w' => e = .returned (.tuple #[.pointer (Tr.drop cmpS k t).adr, .bool (Tr.had cmpS k t)]) ∧ Mut (fun i => i ∈ Tr.ids t) w w' ∧ At w' (Tr.drop cmpS k t) := by
 intro t
 induction t with
 | nil =>
  intro w _ _ _ _ _ _
  rw [adr_nil]
  go_enter Tryz.func76, Tryz.ntmps76
  go_wp2
  exact bodyPost_ret (v := .tuple #[.pointer none, .bool false]) (by simp [results, Tryz.results76, go_sem]) rfl ⟨rfl, Mut.refl _ w, trivial⟩
 | node b k' v' l r h m ihl ihr =>
  intro w hr hat hwf hlen hnd hrk
  obtain ⟨m1, m2, m3, m4, m5⟩ := nd3 hnd
  have hrk' : rk ≠ b ∧ rk ∉ l.ids ∧ rk ∉ r.ids := by simp only [Tr.ids, List.mem_append, List.mem_cons, not_or] at hrk; exact ⟨hrk.2.1, hrk.1, hrk.2.2⟩
  have MM := Aside0.mk (And.intro m1 (And.intro m2 (And.intro m3 (And.intro m4 m5))))
  have RR := Aside0.mk hrk'
  have ND := Aside0.mk hnd
  have WL := Aside0.mk hwf.2.2.1
  have WR := Aside0.mk hwf.2.2.2
  have ZZ := Aside0.mk (show l.toL.length + r.toL.length + 1 ≤ 1000 by simp only [Tr.toL, List.length_append, List.length_cons] at hlen; omega)
  have n_K := Aside0.mk (blk_drew hat.node)
  have n_RK := Aside0.mk (blk_drew hr)
  have n_L := Aside0.mk (At.keep (w' := w.drew) hat.left (fun _ _ _ => rfl))
  have n_R := Aside0.mk (At.keep (w' := w.drew) hat.right (fun _ _ _ => rfl))
  have n_D := Aside0.mk (Mut.refl (fun i => i ∈ Tr.ids (.node b k' v' l r h m)) w).drew
  clear m1 m2 m3 m4 m5 hrk' hnd hwf hlen hat hr hrk
  rw [adr_node]
  go_enter Tryz.func76, Tryz.ntmps76
  go_upto_region 4 with fail
  refine wp_mono (Q := fun e a w => e = .normal ∧ _) ?_ (fun e a w h => h.2)
  refine start_ (n := 11) (S := fun w' => w'.cell? ⟨rk, 0, none⟩ = some cmpV ∧ w'.cell? ⟨b, 0, none⟩ = some (.string k')) (ds := []) #[ff,ff,ff,ff,ff,ff,ff,ff,ff,ff,ff] (by kernel_rfl) rfl rfl ⟨((blk_cell n_RK.out 0).trans rfl), ((blk_cell n_K.out 0).trans rfl)⟩ (fun hHeld => ?_)
  refine with_tabW q76.tab4 q76.bits4 (fun HT_ HW_ => ?_)
  refine pure_ (i := 0) (N := some 14) (v := ?_) (a' := ?_) #[tt,ff,ff,ff,ff,ff,ff,ff,ff,ff,ff] rfl rfl (any_of HT_.out (by kernel_rfl)) (fun _ _ _ h => nomatch h.1) (Or.inl ⟨by rfl, ?_⟩) ?_ ?_
  rotate_left
  ·intro w'
   go_simp
   with_reducible rfl
  rotate_left
  ·simp only [Act.put, sA, sB, sC, i64_w, i32_w]
   rfl
  refine pure_ (i := 1) (N := some 15) (v := ?_) (a' := ?_) #[tt,tt,ff,ff,ff,ff,ff,ff,ff,ff,ff] rfl rfl (any_of HT_.out (by kernel_rfl)) (fun _ _ _ h => nomatch h.1) (Or.inl ⟨by rfl, ?_⟩) ?_ ?_
  rotate_left
  ·intro w'
   go_simp
   with_reducible rfl
  rotate_left
  ·simp only [Act.put, sA, sB, sC, i64_w, i32_w]
   rfl
  refine pure_ (i := 2) (N := some 16) (v := ?_) (a' := ?_) #[tt,tt,tt,ff,ff,ff,ff,ff,ff,ff,ff] rfl rfl (any_of HT_.out (by kernel_rfl)) (fun _ _ _ h => nomatch h.1) (Or.inl ⟨by rfl, ?_⟩) ?_ ?_
  rotate_left
  ·intro w'
   go_simp
   with_reducible rfl
  rotate_left
  ·simp only [Act.put, sA, sB, sC, i64_w, i32_w]
   rfl
  refine pure_ (i := 4) (N := some 18) (v := ?_) (a' := ?_) #[tt,tt,tt,ff,tt,ff,ff,ff,ff,ff,ff] rfl rfl (any_of HT_.out (by kernel_rfl)) (fun _ _ _ h => nomatch h.1) (Or.inl ⟨by rfl, ?_⟩) ?_ ?_
  rotate_left
  ·intro w'
   go_simp
   with_reducible rfl
  rotate_left
  ·simp only [Act.put, sA, sB, sC, i64_w, i32_w]
   rfl
  refine pure_ (i := 5) (N := some 19) (v := ?_) (a' := ?_) #[tt,tt,tt,ff,tt,tt,ff,ff,ff,ff,ff] rfl rfl (any_of HT_.out (by kernel_rfl)) (fun _ _ _ h => nomatch h.1) (Or.inl ⟨by rfl, ?_⟩) ?_ ?_
  rotate_left
  ·intro w'
   go_simp
   with_reducible rfl
  rotate_left
  ·simp only [Act.put, sA, sB, sC, i64_w, i32_w]
   rfl
  refine pure_ (i := 6) (N := some 20) (v := ?_) (a' := ?_) #[tt,tt,tt,ff,tt,tt,tt,ff,ff,ff,ff] rfl rfl (any_of HT_.out (by kernel_rfl)) (fun _ _ _ h => nomatch h.1) (Or.inl ⟨by rfl, ?_⟩) ?_ ?_
  rotate_left
  ·intro w'
   go_simp
   with_reducible rfl
  rotate_left
  ·simp only [Act.put, sA, sB, sC, i64_w, i32_w]
   rfl
  refine pure_ (i := 7) (N := some 21) (v := ?_) (a' := ?_) #[tt,tt,tt,ff,tt,tt,tt,tt,ff,ff,ff] rfl rfl (any_of HT_.out (by kernel_rfl)) (fun _ _ _ h => nomatch h.1) (Or.inl ⟨by rfl, ?_⟩) ?_ ?_
  rotate_left
  ·intro w'
   go_simp
   with_reducible rfl
  rotate_left
  ·simp only [Act.put, sA, sB, sC, i64_w, i32_w]
   rfl
  refine take_ (i := 3) (N := some 17) (v := ?_) (a' := ?_) #[tt,tt,tt,tt,tt,tt,tt,tt,ff,ff,ff] rfl rfl (take_ofW HT_.out HW_.out (by kernel_rfl)) (fun _ _ _ h => nomatch h.1) (Or.inl ⟨by rfl, ?_⟩) hHeld ?_ ?_
  rotate_left
  ·rintro w' ⟨s0, s1⟩
   go_simp
   with_reducible rfl
  rotate_left
  ·simp only [Act.put, sA, sB, sC, i64_w, i32_w]
   rfl
  refine take_ (i := 8) (N := some 22) (v := ?_) (a' := ?_) #[tt,tt,tt,tt,tt,tt,tt,tt,tt,ff,ff] rfl rfl (take_ofW HT_.out HW_.out (by kernel_rfl)) (fun _ _ _ h => nomatch h.1) (Or.inl ⟨by rfl, ?_⟩) hHeld ?_ ?_
  rotate_left
  ·rintro w' ⟨s0, s1⟩
   go_simp
   with_reducible rfl
  rotate_left
  ·simp only [Act.put, sA, sB, sC, i64_w, i32_w]
   rfl
  refine one_ (i := 9) (N := some 23) #[tt,tt,tt,tt,tt,tt,tt,tt,tt,tt,ff] rfl rfl (one_of HT_.out (by kernel_rfl)) (by decide) (fun K hK => ?_)
  refine goesV_ Tryz.func17 (by kernel_rfl) rfl #[.string k, .string k'] #[.string k, .string k'] (by rfl) rfl rfl (by rfl) (by simp only [List.map_toArray, List.map_cons, List.map_nil]; rfl) (by rfl) ?_
  with_reducible refine (compare_calls k k' _).mono ?_
  rintro e w1 ⟨rfl, rfl⟩
  refine ⟨_, rfl, ?_⟩
  refine hK.out _ _ ⟨((blk_cell n_RK.out 0).trans rfl), ((blk_cell n_K.out 0).trans rfl)⟩ (fun hHeld => ?_)
  clear hK K
  refine norm_ (a' := ?_) ?_ ?_
  rotate_left
  ·show Act.put _ (some 23) _ = _
   simp only [Act.put, sA, sB, sC, i64_w, i32_w]
   rfl
  refine pure_ (i := 10) (N := some 9) (v := ?_) (a' := ?_) #[tt,tt,tt,tt,tt,tt,tt,tt,tt,tt,tt] rfl rfl (any_of HT_.out (by kernel_rfl)) (fun _ _ _ h => nomatch h.1) (Or.inl ⟨by rfl, ?_⟩) ?_ ?_
  rotate_left
  ·intro w'
   go_simp
   with_reducible rfl
  rotate_left
  ·simp only [Act.put, sA, sB, sC, i64_w, i32_w]
   rfl
  refine done_ (done_of HT_.out (by kernel_rfl)) ?_
  refine ⟨rfl, ?_⟩
  clear hHeld HT_ HW_
  generalize w.drew = W1 at n_K n_RK n_L n_R n_D ⊢
  by_cases h1 : cmpS k k' < 0
  ·have hb1 : decide (cmpS k k' < 0) = true := decide_eq_true h1
   have d3 : W1.cell? ⟨b, 3, none⟩ = some (.pointer l.adr) := (blk_cell n_K.out 3).trans rfl
   have hc := ihl W1 n_RK.out n_L.out WL.out (by have := ZZ.out; omega) MM.out.2.2.2.1 RR.out.2.1
   go_upto_region 14 with (go_at_call 76; refine (show Calls _ _ _ _ _ from hc).mono ?_; rintro e w1 ⟨rfl, hM, hA⟩; have p_K := Aside0.mk (hM.blk n_K.out MM.out.1); have p_A := Aside0.mk hA; have p_Y := Aside0.mk (n_R.out.mut hM (fun i hi e => MM.out.2.2.1 i hi e)); have p_D := Aside0.mk (n_D.out.trans hM (fun _ e => e) (fun i e _ => mem_l e)); have d4 := blk_cell p_K.out 3; have f4 := blk_frozen p_K.out 3; clear hM hA hc d3)
   clear d4 f4 n_K n_RK n_L n_R n_D
   have hbN : b ∉ Tr.ids (Tr.drop cmpS k l) := fun hh => MM.out.1 (Tr.drop_sub l b hh)
   have hS : Mut (fun i => i = b) w1 (w1.setCell ⟨b, 3, none⟩ (.pointer (Tr.drop cmpS k l).adr)) := (Mut.refl (fun i => i = b) w1).set (.inl rfl) 3 _
   have m_K : (w1.setCell ⟨b, 3, none⟩ (.pointer (Tr.drop cmpS k l).adr)).heap[b]? = some (.cells (nodeC k' v' (Tr.drop cmpS k l).adr r.adr h m) 121 (0, 0)) := blk_put p_K.out 3 _ rfl
   have m_A := p_A.out.mut hS (fun i hi e => hbN (e ▸ hi))
   have m_Y := p_Y.out.mut hS (fun i hi e => MM.out.2.1 (e ▸ hi))
   have hev : Tr.drop cmpS k (.node b k' v' l r h m) = (Tr.even b k' v' (Tr.drop cmpS k l) r) := by simp only [Tr.drop]; rw [if_pos h1]
   have hhad : Tr.had cmpS k (.node b k' v' l r h m) = Tr.had cmpS k l := by rw [Tr.had, if_pos h1]
   have hnd : (Tr.ids (Tr.drop cmpS k (.node b k' v' l r h m))).Nodup := (Tr.drop_ids _).nodup ND.out
   rw [hev, Tr.even_ids] at hnd
   have hc := even_calls (w1.setCell ⟨b, 3, none⟩ (.pointer (Tr.drop cmpS k l).adr)) b k' v' (Tr.drop cmpS k l) r h m m_K m_A m_Y (Tr.drop_wf WL.out) WR.out (by have := Tr.drop_len (cmp := cmpS) (k := k) l; have := ZZ.out; omega) hnd
   have n_E := Aside0.mk hev
   have n_H := Aside0.mk hhad
   have n_S := Aside0.mk (p_D.out.trans hS (fun _ e => e) (fun i e _ => e ▸ mem_b))
   have n_F := Aside0.mk (show ∀ i, (i = b ∨ i ∈ Tr.ids (Tr.drop cmpS k l) ∨ i ∈ Tr.ids r) → i ∈ Tr.ids (.node b k' v' l r h m) from fun i e => e.elim (fun e => e ▸ mem_b) (fun e => e.elim (fun e => mem_l (Tr.drop_sub l i e)) (fun e => mem_r e)))
   clear hS m_K m_A m_Y hev hhad hnd hbN p_K p_A p_Y p_D
   generalize w1.setCell ⟨b, 3, none⟩ (.pointer (Tr.drop cmpS k l).adr) = W4 at n_S hc ⊢
   go_wp2_with (go_at_call 78; refine (show Calls _ _ _ _ _ from hc).mono ?_; rintro e w5 ⟨rfl, hM, hA⟩; have m_M := Aside0.mk hM; have m_A := Aside0.mk hA; clear hM hA hc)
   exact bodyPost_ret (v := .tuple #[.pointer (Tr.even b k' v' (Tr.drop cmpS k l) r).adr, .bool (Tr.had cmpS k l)]) (by simp [results, Tryz.results76, go_sem]) rfl ⟨by rw [n_E.out, n_H.out], n_S.out.trans m_M.out (fun _ e => e) (fun i e _ => n_F.out i e), by rw [n_E.out]; exact m_A.out⟩
  ·have hb0 : decide (cmpS k k' < 0) = false := decide_eq_false h1
   by_cases h3 : cmpS k k' > 0
   ·have hb1 : decide (cmpS k k' > 0) = true := decide_eq_true h3
    have d3 : W1.cell? ⟨b, 4, none⟩ = some (.pointer r.adr) := (blk_cell n_K.out 4).trans rfl
    have hc := ihr W1 n_RK.out n_R.out WR.out (by have := ZZ.out; omega) MM.out.2.2.2.2 RR.out.2.2
    go_upto_region 14 with (go_at_call 76; refine (show Calls _ _ _ _ _ from hc).mono ?_; rintro e w1 ⟨rfl, hM, hA⟩; have p_K := Aside0.mk (hM.blk n_K.out MM.out.2.1); have p_A := Aside0.mk hA; have p_Y := Aside0.mk (n_L.out.mut hM (fun i hi e => MM.out.2.2.1 i e hi)); have p_D := Aside0.mk (n_D.out.trans hM (fun _ e => e) (fun i e _ => mem_r e)); have d4 := blk_cell p_K.out 4; have f4 := blk_frozen p_K.out 4; clear hM hA hc d3)
    clear d4 f4 n_K n_RK n_L n_R n_D
    have hbN : b ∉ Tr.ids (Tr.drop cmpS k r) := fun hh => MM.out.2.1 (Tr.drop_sub r b hh)
    have hS : Mut (fun i => i = b) w1 (w1.setCell ⟨b, 4, none⟩ (.pointer (Tr.drop cmpS k r).adr)) := (Mut.refl (fun i => i = b) w1).set (.inl rfl) 4 _
    have m_K : (w1.setCell ⟨b, 4, none⟩ (.pointer (Tr.drop cmpS k r).adr)).heap[b]? = some (.cells (nodeC k' v' l.adr (Tr.drop cmpS k r).adr h m) 121 (0, 0)) := blk_put p_K.out 4 _ rfl
    have m_A := p_A.out.mut hS (fun i hi e => hbN (e ▸ hi))
    have m_Y := p_Y.out.mut hS (fun i hi e => MM.out.1 (e ▸ hi))
    have hev : Tr.drop cmpS k (.node b k' v' l r h m) = (Tr.even b k' v' l (Tr.drop cmpS k r)) := by cases r <;> (simp only [Tr.drop]; rw [if_neg (by omega), if_pos (by omega)])
    have hhad : Tr.had cmpS k (.node b k' v' l r h m) = Tr.had cmpS k r := by rw [Tr.had, if_neg (by omega), if_pos (by omega)]
    have hnd : (Tr.ids (Tr.drop cmpS k (.node b k' v' l r h m))).Nodup := (Tr.drop_ids _).nodup ND.out
    rw [hev, Tr.even_ids] at hnd
    have hc := even_calls (w1.setCell ⟨b, 4, none⟩ (.pointer (Tr.drop cmpS k r).adr)) b k' v' l (Tr.drop cmpS k r) h m m_K m_Y m_A WL.out (Tr.drop_wf WR.out) (by have := Tr.drop_len (cmp := cmpS) (k := k) r; have := ZZ.out; omega) hnd
    have n_E := Aside0.mk hev
    have n_H := Aside0.mk hhad
    have n_S := Aside0.mk (p_D.out.trans hS (fun _ e => e) (fun i e _ => e ▸ mem_b))
    have n_F := Aside0.mk (show ∀ i, (i = b ∨ i ∈ Tr.ids l ∨ i ∈ Tr.ids (Tr.drop cmpS k r)) → i ∈ Tr.ids (.node b k' v' l r h m) from fun i e => e.elim (fun e => e ▸ mem_b) (fun e => e.elim (fun e => mem_l e) (fun e => mem_r (Tr.drop_sub r i e))))
    clear hS m_K m_A m_Y hev hhad hnd hbN p_K p_A p_Y p_D
    generalize w1.setCell ⟨b, 4, none⟩ (.pointer (Tr.drop cmpS k r).adr) = W4 at n_S hc ⊢
    go_wp2_with (go_at_call 78; refine (show Calls _ _ _ _ _ from hc).mono ?_; rintro e w5 ⟨rfl, hM, hA⟩; have m_M := Aside0.mk hM; have m_A := Aside0.mk hA; clear hM hA hc)
    exact bodyPost_ret (v := .tuple #[.pointer (Tr.even b k' v' l (Tr.drop cmpS k r)).adr, .bool (Tr.had cmpS k r)]) (by simp [results, Tryz.results76, go_sem]) rfl ⟨by rw [n_E.out, n_H.out], n_S.out.trans m_M.out (fun _ e => e) (fun i e _ => n_F.out i e), by rw [n_E.out]; exact m_A.out⟩
   ·have hb1 : decide (cmpS k k' > 0) = false := decide_eq_false h3
    have hhad : Tr.had cmpS k (.node b k' v' l r h m) = true := by rw [Tr.had, if_neg (by omega), if_neg (by omega)]
    have n_H := Aside0.mk hhad
    clear hhad
    cases r with
    | nil =>
     have d3 : W1.cell? ⟨b, 4, none⟩ = some (.pointer none) := (blk_cell n_K.out 4).trans rfl
     have d4 : W1.cell? ⟨b, 3, none⟩ = some (.pointer l.adr) := (blk_cell n_K.out 3).trans rfl
     have hev : Tr.drop cmpS k (.node b k' v' l .nil h m) = l := by simp only [Tr.drop]; rw [if_neg (by omega), if_neg (by omega)]
     have n_E := Aside0.mk hev
     clear hev
     go_wp2
     exact bodyPost_ret (v := .tuple #[.pointer l.adr, .bool true]) (by simp [results, Tryz.results76, go_sem]) rfl ⟨by rw [n_E.out, n_H.out], n_D.out, by rw [n_E.out]; exact n_L.out⟩
    | node b2 k2 v2 l2 r2 h2 m2 =>
     have d3 : W1.cell? ⟨b, 4, none⟩ = some (.pointer (some ⟨b2, 0, none⟩)) := (blk_cell n_K.out 4).trans rfl
     have hc := least_calls l2 b2 k2 v2 r2 h2 m2 W1 n_R.out WR.out.2.2.1 WR.out.2.2.2 (by have := ZZ.out; simp only [Tr.toL, List.length_append, List.length_cons] at this; omega) MM.out.2.2.2.2
     have HLE := Aside0.mk (Tr.least_ids l2 b2 k2 v2 r2)
     have HLT := Aside0.mk (Tr.least_toL l2 b2 k2 v2 r2)
     have HLW := Aside0.mk (Tr.least_wf l2 b2 k2 v2 r2 WR.out.2.2.1 WR.out.2.2.2)
     have hev : Tr.drop cmpS k (.node b k' v' l (.node b2 k2 v2 l2 r2 h2 m2) h m) = Tr.even (Tr.least b2 k2 v2 l2 r2).1.1 (Tr.least b2 k2 v2 l2 r2).1.2.1 (Tr.least b2 k2 v2 l2 r2).1.2.2 l (Tr.least b2 k2 v2 l2 r2).2 := by simp only [Tr.drop]; rw [if_neg (by omega), if_neg (by omega)]
     have n_E := Aside0.mk hev
     clear hev
     generalize hT : Tr.least b2 k2 v2 l2 r2 = T at hc HLE HLT HLW n_E
     obtain ⟨⟨fb, fk, fv⟩, rest⟩ := T
     clear hT
     have hids : ∀ i, i ∈ (fb :: rest.ids) ↔ i ∈ Tr.ids (.node b2 k2 v2 l2 r2 h2 m2) := fun i => by have := HLE.out; simp only [Tr.ids]; rw [← this]
     have hfb : fb ≠ b ∧ fb ∉ rest.ids ∧ fb ∉ l.ids ∧ (∀ i ∈ rest.ids, i ∉ l.ids) ∧ rest.ids.Nodup := by
      have hnd : (fb :: rest.ids).Nodup := by have := HLE.out; simp only at this; rw [this]; exact MM.out.2.2.2.2
      have h1 := (List.nodup_cons.1 hnd)
      exact ⟨fun e => MM.out.2.1 ((hids b).1 (by simp [e])), h1.1, fun e => MM.out.2.2.1 fb ((hids fb).1 (by simp)) e, fun i hi e => MM.out.2.2.1 i ((hids i).1 (by simp [hi])) e, h1.2⟩
     have FB := Aside0.mk hfb
     have IDS := Aside0.mk hids
     clear hids hfb
     go_upto_region 6 with (go_at_call 87; refine (show Calls _ _ _ _ _ from hc).mono ?_; rintro e w1 ⟨rfl, hM, hA, l', r', h', m', hF⟩; have p_A := Aside0.mk hA; have p_F := Aside0.mk hF; have p_K := Aside0.mk (hM.blk n_K.out MM.out.2.1); have p_L := Aside0.mk (n_L.out.mut hM (fun i hi e => MM.out.2.2.1 i e hi)); have p_D := Aside0.mk (n_D.out.trans hM (fun _ e => e) (fun i e _ => mem_r e)); clear hM hA hF hc d3)
     have d3 : w1.cell? ⟨b, 3, none⟩ = some (.pointer l.adr) := (blk_cell p_K.out 3).trans rfl
     have d4 := blk_cell p_F.out 3
     have f4 := blk_frozen p_F.out 3
     have hp5 := blk_put p_F.out 3 (.pointer l.adr) rfl
     have d5 := blk_cell hp5 4
     have f5 := blk_frozen hp5 4
     clear hp5
     go_upto_region 7 with fail
     clear d3 d4 f4 d5 f5
     have hS : Mut (fun i => i = fb) w1 ((w1.setCell ⟨fb, 3, none⟩ (.pointer l.adr)).setCell ⟨fb, 4, none⟩ (.pointer rest.adr)) := ((Mut.refl (fun i => i = fb) w1).set (.inl rfl) 3 _).set (.inl rfl) 4 _
     have m_K : ((w1.setCell ⟨fb, 3, none⟩ (.pointer l.adr)).setCell ⟨fb, 4, none⟩ (.pointer rest.adr)).heap[fb]? = some (.cells (nodeC fk fv l.adr rest.adr h' m') 121 (0, 0)) := blk_put (blk_put p_F.out 3 _ rfl) 4 _ rfl
     have m_L := p_L.out.mut hS (fun i hi e => FB.out.2.2.1 (e ▸ hi))
     have m_A := p_A.out.mut hS (fun i hi e => FB.out.2.1 (e ▸ hi))
     have hnd : (l.ids ++ fb :: rest.ids).Nodup := by
      rw [List.nodup_append, List.nodup_cons]
      exact ⟨MM.out.2.2.2.1, ⟨FB.out.2.1, FB.out.2.2.2.2⟩, fun i hi j hj => by
       rcases List.mem_cons.1 hj with rfl | hj
       ·exact fun e => FB.out.2.2.1 (e ▸ hi)
       ·exact fun e => FB.out.2.2.2.1 j hj (e ▸ hi)⟩
     have hc := even_calls _ fb fk fv l rest h' m' m_K m_L m_A WL.out HLW.out (by have := congrArg List.length HLT.out; have := ZZ.out; simp only [Tr.toL, List.length_append, List.length_cons] at *; omega) hnd
     have n_S := Aside0.mk (p_D.out.trans hS (fun _ e => e) (fun i e _ => mem_r ((IDS.out i).1 (by simp [e]))))
     have n_F := Aside0.mk (show ∀ i, (i = fb ∨ i ∈ l.ids ∨ i ∈ rest.ids) → i ∈ Tr.ids (.node b k' v' l (.node b2 k2 v2 l2 r2 h2 m2) h m) from fun i e => e.elim (fun e => mem_r ((IDS.out i).1 (by simp [e]))) (fun e => e.elim (fun e => mem_l e) (fun e => mem_r ((IDS.out i).1 (by simp [e])))))
     clear hS m_K m_L m_A hnd p_A p_F p_K p_L p_D n_K n_RK n_L n_R n_D
     generalize (w1.setCell ⟨fb, 3, none⟩ (.pointer l.adr)).setCell ⟨fb, 4, none⟩ (.pointer rest.adr) = W4 at n_S hc ⊢
     go_wp2_with (go_at_call 78; refine (show Calls _ _ _ _ _ from hc).mono ?_; rintro e w5 ⟨rfl, hM, hA⟩; have m_M := Aside0.mk hM; have m_A := Aside0.mk hA; clear hM hA hc)
     exact bodyPost_ret (v := .tuple #[.pointer (Tr.even fb fk fv l rest).adr, .bool true]) (by simp [results, Tryz.results76, go_sem]) rfl ⟨by rw [n_E.out, n_H.out], n_S.out.trans m_M.out (fun _ e => e) (fun i e _ => n_F.out i e), by rw [n_E.out]; exact m_A.out⟩
set_option maxRecDepth 100000 in
set_option maxHeartbeats 8000000 in
theorem Drop_calls (w : World) (rk : Nat) (t : Tr FV) (k : ByteArray) (h : RackAt w rk t) (hl : t.toL.length ≤ 1000) :
  Calls Tryz.prog 56 #[.pointer (some ⟨rk, 0, none⟩), .string k] w fun e w' => e = .returned (.bool (lk k t.toL).isSome) ∧ Mut (RF rk t) w w' ∧ ∃ t', RackAt w' rk t' ∧ t'.toL = del k t.toL ∧ ∀ i, RF rk t' i → RF rk t i := by
 obtain ⟨p1, p2, p3⟩ := drop_toL (k := k) h.rise
 rw [← p3]
 have hc := drop_calls rk k (.pointer t.adr) t w h.blk h.tree h.wf hl h.nd h.out
 have d0 : w.cell? ⟨rk, 1, none⟩ = some (.pointer t.adr) := (blk_cell h.blk 1).trans rfl
 have HR := Aside0.mk h
 have HP := Aside0.mk (And.intro p1 p2)
 clear h p1 p2 p3
 go_enter Tryz.func56, Tryz.ntmps56
 go_upto_region 2 with (go_at_call 76; refine (show Calls _ _ _ _ _ from hc).mono ?_; rintro e w1 ⟨rfl, hM, hA⟩; have m_M := Aside0.mk hM; have m_RK := Aside0.mk (hM.blk HR.out.blk HR.out.out); have m_A := Aside0.mk hA; clear hM hA hc d0)
 have d1 : w1.cell? ⟨rk, 1, none⟩ = some (.pointer t.adr) := (blk_cell m_RK.out 1).trans rfl
 have f1 := blk_frozen m_RK.out 1
 go_upto_region 3 with fail
 have hS : Mut (fun i => i = rk) w1 (w1.setCell ⟨rk, 1, none⟩ (.pointer (Tr.drop cmpS k t).adr)) := (Mut.refl (fun i => i = rk) w1).set (.inl rfl) 1 _
 have hnb : rk ∉ (Tr.drop cmpS k t).ids := fun hh => HR.out.out (Tr.drop_sub t rk hh)
 have hA := m_A.out.mut hS (fun i hi e => hnb (e ▸ hi))
 have hK : (w1.setCell ⟨rk, 1, none⟩ (.pointer (Tr.drop cmpS k t).adr)).heap[rk]? = some (.cells #[cmpV, .pointer (Tr.drop cmpS k t).adr] 79 (0, 0)) := blk_put m_RK.out 1 _ rfl
 have FIN := Aside0.mk (m_M.out.trans (F := RF rk t) hS (fun _ e => .inr e) (fun i e _ => .inl e))
 have FIN2 := Aside0.mk (show ∃ t', RackAt (w1.setCell ⟨rk, 1, none⟩ (.pointer (Tr.drop cmpS k t).adr)) rk t' ∧ t'.toL = del k t.toL ∧ ∀ i, RF rk t' i → RF rk t i from ⟨_, ⟨hK, hA, Tr.drop_wf HR.out.wf, (Tr.drop_ids t).nodup HR.out.nd, hnb, HP.out.1 ▸ HP.out.2⟩, HP.out.1, fun i e => e.elim .inl (fun e => .inr (Tr.drop_sub t i e))⟩)
 clear hS hnb hA hK d1 f1
 go_wp2
 exact bodyPost_ret (v := .bool (Tr.had cmpS k t)) (by simp [results, Tryz.results56, go_sem]) rfl ⟨rfl, FIN.out, FIN2.out⟩
end Go.Proofs.YtdooajmgfoobfaaGreatDoor.H
namespace Go.Proofs.YtdooajmgfoobfaaGreatDoor.H
open Go.RowKit Go.Proofs.YtdooajmgfoobfaaGreatDoorW.PrintWords Go.Proofs.YtdooajmgfoobfaaGreatDoorW.PrintLast Go.Proofs.YtdooajmgfoobfaaGreatDoorW.PrintMore
set_option linter.unusedVariables false
set_option linter.unusedSimpArgs false
section
variable {n : Nat} {P : Program} {md : Region.Mode} {ops : Array Oper} {Q : Exit → Act → World → Prop}
theorem startIn_ {id m : Nat} {a : Act} {w : World} (l : Array Bool) (hm : P.follows .mixedOrders = true) (hn : ops.size = m) (hl : Array.replicate m false = l)
    (h : wpAnyIn Fence.wide n P .any ops Q m l a w.drew) : (Code.region id ops true).wpIn Fence.wide n P Q a w := by
  subst hn
  subst hl
  refine wpIn_region_any hm ?_
  exact h
def freeB (md : Region.Mode) (ops : Array Oper) (l l' : Array Bool) (i : Nat) : Bool :=
  Region.noSelect ops && Region.free md ops l i && (Region.ready md ops l).contains i && (l.setIfInBounds i true == l')
theorem pureIn_ {i : Nat} {N : Option Tmp} {oi : Oper} {v : Value} {fuel : Nat} {l : Array Bool} {a : Act} {w : World} (l' : Array Bool) (hi : ops[i]? = some oi) (hN : oi.dst = N) (hc : freeB md ops l l' i = true)
    (hQ : ∀ c a w, Q (.panic c) (a.put oi.dst v) w → Q (.panic c) a w) (hy : YieldsFenced P ops oi v a) {a' : Act} (ha : a.put N v = a')
    (h : wpAnyIn Fence.wide n P md ops Q fuel l' a' w) : wpAnyIn Fence.wide n P md ops Q (fuel + 1) l a w := by
  subst ha
  subst hN
  simp only [freeB, Bool.and_eq_true, beq_iff_eq] at hc
  obtain ⟨⟨⟨h1, h2⟩, h3⟩, h4⟩ := hc
  subst h4
  exact wpAnyIn_take rfl hi h1 h2 h3 hQ hy h
def LoadsAt (P : Program) (ops : Array Oper) (o : Oper) (v : Value) (a : Act) (w : World) : Prop :=
  Region.wanted o (yielded ops a.tmps) = true ∧ (execOp a.eval o).run P w = .ok (.value v) w ∧ ∀ c, o.op ≠ .defer c
theorem LoadsAt.op {o : Oper} {v : Value} {a : Act} {w : World} (hl : LoadsAt P ops o v a w) {K : Act → World → Prop} (hk : K (a.put o.dst v) w) :
    if Region.wanted o (yielded ops a.tmps) = true then Oper.wpIn Fence.wide n P o a w K Q else (∀ f, o.about P w a.eval = some f → Fence.wide.fn f) ∧ K (a.put o.dst undef) w := by
  rw [if_pos hl.1]
  unfold Oper.wpIn
  refine ⟨fun _ _ => trivial, ?_⟩
  rw [Oper.semAt_plain _ _ _ hl.2.2, hl.2.1, Oper.uponIn_value]
  exact hk
def oneB (md : Region.Mode) (ops : Array Oper) (l l' : Array Bool) (i : Nat) : Bool := (Region.ready md ops l == [i]) && (l.setIfInBounds i true == l')
theorem loadIn_ {i : Nat} {N : Option Tmp} {oi : Oper} {v : Value} {fuel : Nat} {l : Array Bool} {a : Act} {w : World} (l' : Array Bool) (hi : ops[i]? = some oi) (hN : oi.dst = N) (hc : oneB md ops l l' i = true)
    (hl : LoadsAt P ops oi v a w) {a' : Act} (ha : a.put N v = a') (h : wpAnyIn Fence.wide n P md ops Q fuel l' a' w) : wpAnyIn Fence.wide n P md ops Q (fuel + 1) l a w := by
  subst ha
  subst hN
  simp only [oneB, Bool.and_eq_true, beq_iff_eq] at hc
  obtain ⟨h1, h2⟩ := hc
  subst h2
  exact wpAnyIn_ready h1 (by simp) (AllReadyIn.cons hi (fun K hK => hl.op (hK _ _ h)) AllReadyIn.nil)
theorem load2In_ {i j : Nat} {Ni Nj : Option Tmp} {oi oj : Oper} {vi vj : Value} {fuel : Nat} {l : Array Bool} {a a1 a2 : Act} {w : World} (l1 l2 l' : Array Bool) (hi : ops[i]? = some oi) (hj : ops[j]? = some oj) (hNi : oi.dst = Ni) (hNj : oj.dst = Nj)
    (hc : (Region.ready md ops l == [i, j] && l.setIfInBounds i true == l1 && l.setIfInBounds j true == l2 && oneB md ops l1 l' j && oneB md ops l2 l' i) = true) (h1 : a.put Ni vi = a1) (h2 : a.put Nj vj = a2)
    (r1 : LoadsAt P ops oi vi a w) (r2 : LoadsAt P ops oj vj a w) (r3 : LoadsAt P ops oj vj a1 w) (r4 : LoadsAt P ops oi vi a2 w) {a' : Act} (h3 : a1.put Nj vj = a') (h4 : a2.put Ni vi = a')
    (h : wpAnyIn Fence.wide n P md ops Q fuel l' a' w) : wpAnyIn Fence.wide n P md ops Q (fuel + 1 + 1) l a w := by
  subst hNi
  subst hNj
  simp only [Bool.and_eq_true, beq_iff_eq] at hc
  obtain ⟨⟨⟨⟨c1, c2⟩, c3⟩, c4⟩, c5⟩ := hc
  subst c2
  subst c3
  subst h1
  subst h2
  exact wpAnyIn_ready c1 (by simp) (AllReadyIn.cons hi (fun K hK => r1.op (hK _ _ (loadIn_ _ hj rfl c4 r3 h3 h))) (AllReadyIn.cons hj (fun K hK => r2.op (hK _ _ (loadIn_ _ hi rfl c5 r4 h4 h))) AllReadyIn.nil))
theorem normIn_ {fuel : Nat} {l : Array Bool} {a a' : Act} {w : World} (ha : a = a') (h : wpAnyIn Fence.wide n P md ops Q fuel l a' w) : wpAnyIn Fence.wide n P md ops Q fuel l a w := by
  subst ha
  exact h
theorem oneIn_ {i : Nat} {N : Option Tmp} {oi : Oper} {fuel : Nat} {l : Array Bool} {a : Act} {w : World} (l' : Array Bool) (hi : ops[i]? = some oi) (hN : oi.dst = N) (hc : oneB md ops l l' i = true)
    (h : ∀ K : Act → World → Prop, (∀ a' w', wpAnyIn Fence.wide n P md ops Q fuel l' a' w' → K a' w') → if Region.wanted oi (yielded ops a.tmps) = true then Oper.wpIn Fence.wide n P oi a w K Q else (∀ f, oi.about P w a.eval = some f → Fence.wide.fn f) ∧ K (a.put oi.dst undef) w) :
    wpAnyIn Fence.wide n P md ops Q (fuel + 1) l a w := by
  simp only [oneB, Bool.and_eq_true, beq_iff_eq] at hc
  obtain ⟨h1, h2⟩ := hc
  subst h2
  exact wpAnyIn_ready h1 (by simp) (AllReadyIn.cons hi (fun K hK => h K hK) AllReadyIn.nil)
/-- An operation that isn't wanted, the only one that may come up. -/
theorem skipIn_ {i : Nat} {N : Option Tmp} {oi : Oper} {fuel : Nat} {l : Array Bool} {a : Act} {w : World} (l' : Array Bool) (hi : ops[i]? = some oi) (hN : oi.dst = N) (hc : oneB md ops l l' i = true)
    (hw : Region.wanted oi (yielded ops a.tmps) = false) {a' : Act} (ha : a.put N undef = a') (h : wpAnyIn Fence.wide n P md ops Q fuel l' a' w) : wpAnyIn Fence.wide n P md ops Q (fuel + 1) l a w := by
  subst ha
  subst hN
  refine oneIn_ l' hi rfl hc (fun K hK => ?_)
  rw [if_neg (by rw [hw]; simp)]
  exact ⟨fun _ _ => trivial, hK _ _ h⟩
/-- A call of a Go function. -/
theorem goesIn_ {oi : Oper} {N : Option Tmp} {a : Act} {w : World} {K : Act → World → Prop} {f : FuncId} {fn : Func} {ars : Array Operand} {ts : Array TypeId} (hf : P.funcs[f]? = some fn) (hname : (fn.name == "runtime.NumGoroutine") = false) (hb : fn.body.isSome = true) (args : Array Value)
    (hw : Region.wanted oi (yielded ops a.tmps) = true) (hN : oi.dst = N) (hop : oi.op = .call { callee := .value (.func f), args := ars, argTypes := ts }) (hargs : ars.map a.eval = args)
    (h : Calls P f args w fun e w' => ∃ v, e = .returned v ∧ K (a.put N v) w') : if Region.wanted oi (yielded ops a.tmps) = true then Oper.wpIn Fence.wide n P oi a w K Q else (∀ f, oi.about P w a.eval = some f → Fence.wide.fn f) ∧ K (a.put oi.dst undef) w := by
  rw [if_pos hw]
  subst hN
  unfold Oper.wpIn
  refine ⟨fun _ _ => trivial, ?_⟩
  rw [Oper.semAt_plain _ _ _ (by rw [hop]; intro c hc; cases hc)]
  have he := enters_ hf hname hb args w
  have hrun : (execOp a.eval oi).run P w = .ok (.enter f args) w := by
    unfold execOp
    simp [hop, resolve, Deferred.ofValue, invoke, Act.eval, hargs, he]
  rw [hrun, Oper.uponIn_enter]
  refine ⟨fun h => by simp [Fence.wide] at h, (callsIn_wide.2 h).mono ?_⟩
  rintro e w' ⟨v, rfl, hk⟩
  exact hk
/-- A round's body, called through the function value that the loop handed over. -/
theorem yieldsIn_ {oi : Oper} {N : Option Tmp} {a : Act} {w : World} {K : Act → World → Prop} {l : Nat} {q : Operand} {ars : Array Operand} {ts : Array TypeId} {m : Nat} (args : Array Value)
    (hw : Region.wanted oi (yielded ops a.tmps) = true) (hN : oi.dst = N) (hop : oi.op = .call { callee := .value q, args := ars, argTypes := ts }) (hq : a.eval q = .func (.yield l) #[] #[]) (hargs : ars.map a.eval = args)
    (h : YieldAt Fence.wide m P l args w fun e w' => ∃ v, e = .returned v ∧ K (a.put N v) w') : if Region.wanted oi (yielded ops a.tmps) = true then Oper.wpIn Fence.wide n P oi a w K Q else (∀ f, oi.about P w a.eval = some f → Fence.wide.fn f) ∧ K (a.put oi.dst undef) w := by
  rw [if_pos hw]
  subst hN
  obtain ⟨fn, tmps, assign, body, hy, hR⟩ := h
  unfold Oper.wpIn
  refine ⟨fun _ _ => trivial, ?_⟩
  rw [Oper.semAt_plain _ _ _ (by rw [hop]; intro c hc; cases hc)]
  have hrun : (execOp a.eval oi).run P w = .ok (.round l fn tmps assign body) w := by
    unfold execOp
    simp [hop, resolve, hq, Deferred.ofValue, invoke, hargs, hy]
  rw [hrun, Oper.uponIn_round]
  refine ⟨fun h => by simp [Fence.wide] at h, ⟨hR.1, fun c cs hroom => ?_⟩⟩
  obtain ⟨e, w', ⟨v, rfl, hk⟩, hs⟩ := hR.2 c cs (room_wide _)
  exact ⟨.returned v, w', hk, hs⟩
end
end Go.Proofs.YtdooajmgfoobfaaGreatDoor.H

