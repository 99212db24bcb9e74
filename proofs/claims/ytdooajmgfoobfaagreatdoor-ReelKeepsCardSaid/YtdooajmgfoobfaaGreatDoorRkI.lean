/- A rack's methods. Laid by wip/racks3_bl.py. -/
import Derived.Test.YtdooajmgfoobfaaGreatDoorZz
import Derived.Test.YtdooajmgfoobfaaGreatDoorRkF
import Derived.Deep.LoopGhost
namespace Go.Proofs.YtdooajmgfoobfaaGreatDoor.H
open Go.RowKit Go.Proofs.YtdooajmgfoobfaaGreatDoor.PA Go.Proofs.YtdooajmgfoobfaaGreatDoorW.PrintWords Go.Proofs.YtdooajmgfoobfaaGreatDoorW.PrintLast Go.Proofs.YtdooajmgfoobfaaGreatDoorW.PrintMore
set_option linter.unusedVariables false
set_option linter.unusedSimpArgs false
theorem mem_l {b : Nat} {k : ByteArray} {v : FV} {l r : Tr FV} {h m : Int} {i : Nat} (e : i ∈ l.ids) : i ∈ Tr.ids (.node b k v l r h m) := List.mem_append_left _ e
theorem mem_b {b : Nat} {k : ByteArray} {v : FV} {l r : Tr FV} {h m : Int} : b ∈ Tr.ids (.node b k v l r h m) := List.mem_append_right _ (List.mem_cons_self)
theorem mem_r {b : Nat} {k : ByteArray} {v : FV} {l r : Tr FV} {h m : Int} {i : Nat} (e : i ∈ r.ids) : i ∈ Tr.ids (.node b k v l r h m) := List.mem_append_right _ (List.mem_cons_of_mem _ e)
/-- A rack in memory. -/
structure RackAt (w : World) (rk : Nat) (t : Tr FV) : Prop where
 blk : w.heap[rk]? = some (.cells #[cmpV, .pointer t.adr] 79 (0, 0))
 tree : At w t
 wf : t.wf
 nd : t.ids.Nodup
 out : rk ∉ t.ids
 rise : Rise t.toL
def RF (rk : Nat) (t : Tr FV) (i : Nat) : Prop := i = rk ∨ i ∈ t.ids
theorem RackAt.keep {w w' : World} {rk : Nat} {t : Tr FV} (h : RackAt w rk t) (hk : ∀ i, RF rk t i → i < w.heap.size → w'.heap[i]? = w.heap[i]?) : RackAt w' rk t :=
 ⟨(hk rk (.inl rfl) (blk_lt h.blk)).trans h.blk, h.tree.keep (fun i hi hs => hk i (.inr hi) hs), h.wf, h.nd, h.out, h.rise⟩
theorem RackAt.below {w w' : World} {rk : Nat} {t : Tr FV} (h : RackAt w rk t) (hb : Below w.heap.size w w') : RackAt w' rk t := h.keep (fun i _ hi => hb.block i hi)
theorem RackAt.mut {w w' : World} {rk : Nat} {t : Tr FV} {F : Nat → Prop} (h : RackAt w rk t) (hm : Mut F w w') (hn : ∀ i, RF rk t i → ¬ F i) : RackAt w' rk t := h.keep (fun i hi hs => hm.block i hs (hn i hi))
theorem RackAt.lt {w : World} {rk : Nat} {t : Tr FV} (h : RackAt w rk t) : ∀ i, RF rk t i → i < w.heap.size := fun i hi => hi.elim (fun e => e ▸ blk_lt h.blk) (fun e => h.tree.lt i e)
def q32.T1 : Bool × List (List Nat × List Nat) := (true, [([], []), ([], []), ([1], [1]), ([2], [2]), ([3], [3]), ([], []), ([], []), ([0, 4, 5, 6], [0, 4, 5, 6]), ([7], [7]), ([8], [8]), ([8], [8]), ([9, 7, 0, 1, 2, 3, 4, 5, 6, 7, 8, 9], [9]), ([10, 11, 0, 1, 2, 3, 4, 5, 6, 7, 8, 9, 10, 11], [10])])
def q32.B1 : List Nat := [0, 0, 2, 6, 14, 0, 0, 127, 255, 511, 511, 1023, 4095]
theorem q32.tab1 : rtab .any (opsOf Tryz.f32 1) = q32.T1 := by kernel_rfl
theorem q32.bits1 : waitsOk q32.T1.2 q32.B1 = true := by kernel_rfl
def q47.T3 : Bool × List (List Nat × List Nat) := (true, [([], []), ([0], [0]), ([1], [1]), ([2], [2]), ([], []), ([], []), ([5], [5]), ([6], [6]), ([7], [7]), ([3, 4, 8], [3, 4, 8]), ([9, 9, 0, 1, 2, 3, 4, 5, 6, 7, 8, 9], [9])])
def q47.B3 : List Nat := [0, 1, 3, 7, 0, 0, 32, 96, 224, 511, 1023]
theorem q47.tab3 : rtab .any (opsOf Tryz.f47 3) = q47.T3 := by kernel_rfl
theorem q47.bits3 : waitsOk q47.T3.2 q47.B3 = true := by kernel_rfl
def q87.T2 : Bool × List (List Nat × List Nat) := (true, [([], []), ([], []), ([1], [1]), ([2], [2]), ([3], [3]), ([0, 0], [0]), ([4, 5, 0, 1, 2, 3, 4, 5], [4])])
def q87.B2 : List Nat := [0, 0, 2, 6, 14, 1, 63]
theorem q87.tab2 : rtab .any (opsOf Tryz.f87 2) = q87.T2 := by kernel_rfl
theorem q87.bits2 : waitsOk q87.T2.2 q87.B2 = true := by kernel_rfl
set_option maxRecDepth 100000 in
set_option maxHeartbeats 8000000 in
theorem Put_calls (w : World) (rk : Nat) (t : Tr FV) (k : ByteArray) (v : FV) (h : RackAt w rk t) (hl : t.toL.length + 1 ≤ 1000) :
  Calls Tryz.prog 32 #[.pointer (some ⟨rk, 0, none⟩), .string k, v.val] w fun e w' => e = .returned (.bool (lk k t.toL).isSome) ∧ Mut (RF rk t) w w' ∧ ∃ t', RackAt w' rk t' ∧ t'.toL = ins k v t.toL ∧ ∀ i, RF rk t' i → RF rk t i ∨ w.heap.size ≤ i := by
 have hB : Below w.heap.size w (w.alloc (.cells #[.slice v.A v.n v.c, .int .i64 v.s] 51)) := (Below.refl _ w).alloc (Nat.le_refl _) _
 have HR := Aside0.mk h
 have n_RK := Aside0.mk (blk_drew (blk_below h.blk hB))
 have n_T := Aside0.mk (At.keep (w' := (w.alloc (.cells #[.slice v.A v.n v.c, .int .i64 v.s] 51)).drew) h.tree (fun i _ hi => hB.block i hi))
 have n_BX := Aside0.mk (blk_drew (heap_alloc_new w (.cells #[.slice v.A v.n v.c, .int .i64 v.s] 51)))
 have n_D := Aside0.mk (Mut.of_below (F := RF rk t) hB).drew
 clear hB h
 go_enter Tryz.func32, Tryz.ntmps32
 go_upto_region 1 with fail
 refine wp_mono (Q := fun e a w => e = .normal ∧ _) ?_ (fun e a w h => h.2)
 refine start_ (n := 13) (S := fun w' => w'.cell? ⟨rk, 1, none⟩ = some (.pointer t.adr) ∧ w'.cell? ⟨w.heap.size, 0, none⟩ = some (.slice v.A v.n v.c) ∧ w'.cell? ⟨w.heap.size, 1, none⟩ = some (.int .i64 v.s)) (ds := []) #[ff,ff,ff,ff,ff,ff,ff,ff,ff,ff,ff,ff,ff] (by kernel_rfl) rfl rfl ⟨((blk_cell n_RK.out 1).trans rfl), ((blk_cell n_BX.out 0).trans rfl), ((blk_cell n_BX.out 1).trans rfl)⟩ (fun hHeld => ?_)
 refine with_tabW q32.tab1 q32.bits1 (fun HT_ HW_ => ?_)
 refine pure_ (i := 0) (N := some 10) (v := ?_) (a' := ?_) #[tt,ff,ff,ff,ff,ff,ff,ff,ff,ff,ff,ff,ff] rfl rfl (any_of HT_.out (by kernel_rfl)) (fun _ _ _ h => nomatch h.1) (Or.inl ⟨by rfl, ?_⟩) ?_ ?_
 rotate_left
 ·intro w'
  go_simp
  with_reducible rfl
 rotate_left
 ·simp only [Act.put, sA, sB, sC, i64_w, i32_w]
  rfl
 refine pure_ (i := 1) (N := some 11) (v := ?_) (a' := ?_) #[tt,tt,ff,ff,ff,ff,ff,ff,ff,ff,ff,ff,ff] rfl rfl (any_of HT_.out (by kernel_rfl)) (fun _ _ _ h => nomatch h.1) (Or.inl ⟨by rfl, ?_⟩) ?_ ?_
 rotate_left
 ·intro w'
  go_simp
  with_reducible rfl
 rotate_left
 ·simp only [Act.put, sA, sB, sC, i64_w, i32_w]
  rfl
 refine pure_ (i := 2) (N := some 12) (v := ?_) (a' := ?_) #[tt,tt,tt,ff,ff,ff,ff,ff,ff,ff,ff,ff,ff] rfl rfl (any_of HT_.out (by kernel_rfl)) (fun _ _ _ h => nomatch h.1) (Or.inl ⟨by rfl, ?_⟩) ?_ ?_
 rotate_left
 ·intro w'
  go_simp
  with_reducible rfl
 rotate_left
 ·simp only [Act.put, sA, sB, sC, i64_w, i32_w]
  rfl
 refine pure_ (i := 3) (N := some 13) (v := ?_) (a' := ?_) #[tt,tt,tt,tt,ff,ff,ff,ff,ff,ff,ff,ff,ff] rfl rfl (any_of HT_.out (by kernel_rfl)) (fun _ _ _ h => nomatch h.1) (Or.inl ⟨by rfl, ?_⟩) ?_ ?_
 rotate_left
 ·intro w'
  go_simp
  with_reducible rfl
 rotate_left
 ·simp only [Act.put, sA, sB, sC, i64_w, i32_w]
  rfl
 refine pure_ (i := 5) (N := some 15) (v := ?_) (a' := ?_) #[tt,tt,tt,tt,ff,tt,ff,ff,ff,ff,ff,ff,ff] rfl rfl (any_of HT_.out (by kernel_rfl)) (fun _ _ _ h => nomatch h.1) (Or.inl ⟨by rfl, ?_⟩) ?_ ?_
 rotate_left
 ·intro w'
  go_simp
  with_reducible rfl
 rotate_left
 ·simp only [Act.put, sA, sB, sC, i64_w, i32_w]
  rfl
 refine take_ (i := 4) (N := some 14) (v := ?_) (a' := ?_) #[tt,tt,tt,tt,tt,tt,ff,ff,ff,ff,ff,ff,ff] rfl rfl (take_ofW HT_.out HW_.out (by kernel_rfl)) (fun _ _ _ h => nomatch h.1) (Or.inl ⟨by rfl, ?_⟩) hHeld ?_ ?_
 rotate_left
 ·rintro w' ⟨s0, s1, s2⟩
  go_simp
  with_reducible rfl
 rotate_left
 ·simp only [Act.put, sA, sB, sC, i64_w, i32_w]
  rfl
 refine take_ (i := 6) (N := some 16) (v := ?_) (a' := ?_) #[tt,tt,tt,tt,tt,tt,tt,ff,ff,ff,ff,ff,ff] rfl rfl (take_ofW HT_.out HW_.out (by kernel_rfl)) (fun _ _ _ h => nomatch h.1) (Or.inl ⟨by rfl, ?_⟩) hHeld ?_ ?_
 rotate_left
 ·rintro w' ⟨s0, s1, s2⟩
  go_simp
  with_reducible rfl
 rotate_left
 ·simp only [Act.put, sA, sB, sC, i64_w, i32_w]
  rfl
 refine one_ (i := 7) (N := some 17) #[tt,tt,tt,tt,tt,tt,tt,tt,ff,ff,ff,ff,ff] rfl rfl (one_of HT_.out (by kernel_rfl)) (by decide) (fun K hK => ?_)
 refine goes_ Tryz.func60 (by kernel_rfl) rfl #[.pointer (some ⟨rk, 0, none⟩), .pointer t.adr, .string k, v.val] (by rfl) rfl rfl (by simp only [List.map_toArray, List.map_cons, List.map_nil]; rfl) ?_
 with_reducible refine (put_calls rk k v (.pointer t.adr) t _ n_RK.out n_T.out HR.out.wf hl HR.out.nd HR.out.out).mono ?_
 rintro e w1 ⟨nb, hnb, rfl, hM, hA⟩
 refine ⟨_, rfl, ?_⟩
 have m_NB := Aside0.mk hnb
 have m_RK := Aside0.mk (hM.blk n_RK.out HR.out.out)
 have m_A := Aside0.mk hA
 have m_BX := Aside0.mk (hM.blk n_BX.out (fun e => by have := HR.out.tree.lt _ e; omega))
 have m_D := Aside0.mk (n_D.out.trans hM (fun _ e => e) (fun i e _ => .inr e))
 have m_SZ := Aside0.mk (Nat.le_trans n_D.out.size hnb)
 clear hnb hM hA n_RK n_T n_BX n_D
 refine hK.out _ _ ⟨((blk_cell m_RK.out 1).trans rfl), ((blk_cell m_BX.out 0).trans rfl), ((blk_cell m_BX.out 1).trans rfl)⟩ (fun hHeld => ?_)
 clear hK K
 refine norm_ (a' := ?_) ?_ ?_
 rotate_left
 ·show Act.put _ (some 17) _ = _
  simp only [Act.put, sA, sB, sC, i64_w, i32_w]
  rfl
 refine pure_ (i := 8) (N := some 9) (v := ?_) (a' := ?_) #[tt,tt,tt,tt,tt,tt,tt,tt,tt,ff,ff,ff,ff] rfl rfl (any_of HT_.out (by kernel_rfl)) (fun _ _ _ h => nomatch h.1) (Or.inl ⟨by rfl, ?_⟩) ?_ ?_
 rotate_left
 ·intro w'
  go_simp
  with_reducible rfl
 rotate_left
 ·simp only [Act.put, sA, sB, sC, i64_w, i32_w]
  rfl
 refine pure_ (i := 9) (N := some 18) (v := ?_) (a' := ?_) #[tt,tt,tt,tt,tt,tt,tt,tt,tt,tt,ff,ff,ff] rfl rfl (any_of HT_.out (by kernel_rfl)) (fun _ _ _ h => nomatch h.1) (Or.inl ⟨by rfl, ?_⟩) ?_ ?_
 rotate_left
 ·intro w'
  go_simp
  with_reducible rfl
 rotate_left
 ·simp only [Act.put, sA, sB, sC, i64_w, i32_w]
  rfl
 refine pure_ (i := 10) (N := some 19) (v := ?_) (a' := ?_) #[tt,tt,tt,tt,tt,tt,tt,tt,tt,tt,tt,ff,ff] rfl rfl (any_of HT_.out (by kernel_rfl)) (fun _ _ _ h => nomatch h.1) (Or.inl ⟨by rfl, ?_⟩) ?_ ?_
 rotate_left
 ·intro w'
  go_simp
  with_reducible rfl
 rotate_left
 ·simp only [Act.put, sA, sB, sC, i64_w, i32_w]
  rfl
 refine pure_ (i := 11) (N := some 7) (v := ?_) (a' := ?_) #[tt,tt,tt,tt,tt,tt,tt,tt,tt,tt,tt,tt,ff] rfl rfl (any_of HT_.out (by kernel_rfl)) (fun _ _ _ h => nomatch h.1) (Or.inl ⟨by rfl, ?_⟩) ?_ ?_
 rotate_left
 ·intro w'
  go_simp
  with_reducible rfl
 rotate_left
 ·simp only [Act.put, sA, sB, sC, i64_w, i32_w]
  rfl
 refine pure_ (i := 12) (N := some 8) (v := ?_) (a' := ?_) #[tt,tt,tt,tt,tt,tt,tt,tt,tt,tt,tt,tt,tt] rfl rfl (any_of HT_.out (by kernel_rfl)) (fun _ _ _ h => nomatch h.1) (Or.inl ⟨by rfl, ?_⟩) ?_ ?_
 rotate_left
 ·intro w'
  go_simp
  with_reducible rfl
 rotate_left
 ·simp only [Act.put, sA, sB, sC, i64_w, i32_w]
  rfl
 refine done_ (done_of HT_.out (by kernel_rfl)) ?_
 refine ⟨rfl, ?_⟩
 clear hHeld HT_ HW_
 have d1 : w1.cell? ⟨rk, 1, none⟩ = some (.pointer t.adr) := (blk_cell m_RK.out 1).trans rfl
 have f1 := blk_frozen m_RK.out 1
 have hnb : rk ∉ (Tr.put cmpS nb k v t).ids := fun hh => by
  rcases (Tr.put_ids t rk).1 hh with e | ⟨_, e⟩
  ·exact HR.out.out e
  ·have := blk_lt HR.out.blk; have := m_SZ.out; omega
 have hS : Mut (fun i => i = rk) w1 (w1.setCell ⟨rk, 1, none⟩ (.pointer (Tr.put cmpS nb k v t).adr)) := (Mut.refl (fun i => i = rk) w1).set (.inl rfl) 1 _
 have hA := m_A.out.mut hS (fun i hi e => hnb (e ▸ hi))
 have hK : (w1.setCell ⟨rk, 1, none⟩ (.pointer (Tr.put cmpS nb k v t).adr)).heap[rk]? = some (.cells #[cmpV, .pointer (Tr.put cmpS nb k v t).adr] 79 (0, 0)) := blk_put m_RK.out 1 _ rfl
 have hnd : (Tr.put cmpS nb k v t).ids.Nodup := Tr.put_nodup _ HR.out.nd (fun hh => by have := HR.out.tree.lt nb hh; have := m_SZ.out; omega)
 have hD := m_D.out.trans hS (fun _ e => e) (fun i e _ => .inl e)
 obtain ⟨p1, p2, p3⟩ := put_toL (nb := nb) (k := k) (v := v) HR.out.rise
 have hf : ∀ i, RF rk (Tr.put cmpS nb k v t) i → RF rk t i ∨ w.heap.size ≤ i := fun i hi => by
  rcases hi with e | e
  ·exact .inl (.inl e)
  ·rcases (Tr.put_ids t i).1 e with e | ⟨_, e⟩
   ·exact .inl (.inr e)
   ·exact .inr (by have := m_SZ.out; omega)
 rw [p3]
 have FIN := Aside0.mk hD
 have FIN2 := Aside0.mk (show ∃ t', RackAt (w1.setCell ⟨rk, 1, none⟩ (.pointer (Tr.put cmpS nb k v t).adr)) rk t' ∧ t'.toL = ins k v t.toL ∧ ∀ i, RF rk t' i → RF rk t i ∨ w.heap.size ≤ i from ⟨_, ⟨hK, hA, Tr.put_wf HR.out.wf, hnd, hnb, p1 ▸ p2⟩, p1, hf⟩)
 clear hnb hS hA hK hnd hD hf p1 p2 m_A m_RK m_BX m_D
 go_wp2
 exact bodyPost_ret (v := .bool (lk k t.toL).isSome) (by simp [results, Tryz.results32, go_sem]) rfl ⟨rfl, FIN.out, FIN2.out⟩
theorem adr_nil : (Tr.nil : Tr FV).adr = none := rfl
theorem adr_node {b : Nat} {k : ByteArray} {v : FV} {l r : Tr FV} {h m : Int} : (Tr.node b k v l r h m).adr = some ⟨b, 0, none⟩ := rfl
/-- What a lookup gives: the value, or the zero. -/
def FV.orZero : Option FV → FV
 | some v => v
 | none => ⟨none, 0, 0, 0⟩
set_option maxRecDepth 100000 in
set_option maxHeartbeats 8000000 in
theorem Get_calls (w : World) (rk : Nat) (t : Tr FV) (k : ByteArray) (h : RackAt w rk t) :
  Calls Tryz.prog 47 #[.pointer (some ⟨rk, 0, none⟩), .string k] w fun e w' => e = .returned (.tuple #[(FV.orZero (lk k t.toL)).val, .bool (lk k t.toL).isSome]) ∧ Below w.heap.size w w' := by
 rw [← get_toL h.rise]
 have HR := Aside0.mk h
 have hB : Below w.heap.size w (w.alloc (.cells #[.slice none 0 0, .int .i64 0] 51)) := (Below.refl _ w).alloc (Nat.le_refl _) _
 have HRK := Aside0.mk (blk_below h.blk hB)
 have HT := Aside0.mk (At.keep h.tree (fun i _ hi => hB.block i hi))
 have HBX := Aside0.mk (heap_alloc_new w (.cells #[.slice none 0 0, .int .i64 0] 51))
 have HB := Aside0.mk hB
 have d0 : (w.alloc (.cells #[.slice none 0 0, .int .i64 0] 51)).cell? ⟨rk, 1, none⟩ = some (.pointer t.adr) := (blk_cell HRK.out 1).trans rfl
 clear hB h
 go_enter Tryz.func47, Tryz.ntmps47
 go_wp2_with fail
 go_loopg [6] t.toL.length (fun n v6 wr => ∃ s : Tr FV, s.toL.length ≤ n ∧ v6 = .pointer s.adr ∧ At wr s ∧ Tr.get cmpS k s = Tr.get cmpS k t ∧ Below w.heap.size w wr ∧ wr.heap[w.heap.size]? = some (.cells #[.slice none 0 0, .int .i64 0] 51 (0, 0)))
 case atStart => exact ⟨t, Nat.le_refl _, rfl, HT.out, rfl, HB.out, HBX.out⟩
 case round =>
  obtain ⟨s, hn, rfl, hs, hg, hb, hx⟩ := hrel
  have n_G := Aside0.mk hg
  have n_B := Aside0.mk hb
  have n_X := Aside0.mk hx
  have n_N := Aside0.mk hn
  cases s with
  | nil =>
   rw [adr_nil]
   have hB2 := hb.alloc hb.size (.cells #[.slice none 0 0, .int .i64 0] 51)
   have n_B2 := Aside0.mk hB2
   have e0 : (wr.alloc (.cells #[.slice none 0 0, .int .i64 0] 51)).heap[w.heap.size]? = some (.cells #[.slice none 0 0, .int .i64 0] 51 (0, 0)) := (Below.heap_alloc _ _ _ (blk_lt hx)).trans hx
   have e1 := heap_alloc_new wr (.cells #[.slice none 0 0, .int .i64 0] 51)
   have d1 := blk_cell e1 0
   have d2 := blk_cell e1 1
   have d3 := blk_cell e0 0
   have d4 := blk_cell e0 1
   have f3 := blk_frozen e0 0
   have f4 := blk_frozen e0 1
   have E0 := Aside0.mk e0
   clear hs hg hb hx hn e0 e1 hB2 d0 HRK HT HBX
   go_wp2
   have hC := blk_put (blk_put E0.out 0 (.slice none 0 0) rfl) 1 (.int .i64 0) rfl
   have hBf := (n_B2.out.setCell (p := ⟨w.heap.size, 0, none⟩) (Nat.le_refl _) (.slice none 0 0)).setCell (p := ⟨w.heap.size, 1, none⟩) (Nat.le_refl _) (.int .i64 0)
   generalize ((wr.alloc (.cells #[.slice none 0 0, .int .i64 0] 51)).setCell ⟨w.heap.size, 0, none⟩ (.slice none 0 0)).setCell ⟨w.heap.size, 1, none⟩ (.int .i64 0) = W5 at hC hBf ⊢
   clear d1 d2 d3 d4 f3 f4
   have q0 := blk_cell hC 0
   have q1 := blk_cell hC 1
   rw [← n_G.out]
   refine bodyPost_ret (v := .tuple #[.agg #[.slice none 0 0, .int .i64 0], .bool false]) ?_ rfl ⟨rfl, hBf⟩
   simp [results, Tryz.results47, go_sem, q0, q1]
  | node b k' v' l r h m =>
   rw [adr_node]
   go_upto_region 3 with fail
   have n_S := Aside0.mk (At.keep (w' := wr.drew) hs (fun _ _ _ => rfl))
   have n_RK := Aside0.mk (blk_drew (blk_below HR.out.blk hb))
   clear d0 hs hg hb hx hn
   refine wp_mono (Q := fun e a w => e = .normal ∧ _) ?_ (fun e a w h => h.2)
   refine start_ (n := 11) (S := fun w' => w'.cell? ⟨rk, 0, none⟩ = some cmpV ∧ w'.cell? ⟨b, 0, none⟩ = some (.string k')) (ds := []) #[ff,ff,ff,ff,ff,ff,ff,ff,ff,ff,ff] (by kernel_rfl) rfl rfl ⟨((blk_cell n_RK.out 0).trans rfl), ((blk_cell n_S.out.node 0).trans rfl)⟩ (fun hHeld => ?_)
   refine with_tabW q47.tab3 q47.bits3 (fun HT_ HW_ => ?_)
   refine pure_ (i := 0) (N := some 15) (v := ?_) (a' := ?_) #[tt,ff,ff,ff,ff,ff,ff,ff,ff,ff,ff] rfl rfl (any_of HT_.out (by kernel_rfl)) (fun _ _ _ h => nomatch h.1) (Or.inl ⟨by rfl, ?_⟩) ?_ ?_
   rotate_left
   ·intro w'
    go_simp
    with_reducible rfl
   rotate_left
   ·simp only [Act.put, sA, sB, sC, i64_w, i32_w]
    rfl
   refine pure_ (i := 1) (N := some 16) (v := ?_) (a' := ?_) #[tt,tt,ff,ff,ff,ff,ff,ff,ff,ff,ff] rfl rfl (any_of HT_.out (by kernel_rfl)) (fun _ _ _ h => nomatch h.1) (Or.inl ⟨by rfl, ?_⟩) ?_ ?_
   rotate_left
   ·intro w'
    go_simp
    with_reducible rfl
   rotate_left
   ·simp only [Act.put, sA, sB, sC, i64_w, i32_w]
    rfl
   refine pure_ (i := 2) (N := some 17) (v := ?_) (a' := ?_) #[tt,tt,tt,ff,ff,ff,ff,ff,ff,ff,ff] rfl rfl (any_of HT_.out (by kernel_rfl)) (fun _ _ _ h => nomatch h.1) (Or.inl ⟨by rfl, ?_⟩) ?_ ?_
   rotate_left
   ·intro w'
    go_simp
    with_reducible rfl
   rotate_left
   ·simp only [Act.put, sA, sB, sC, i64_w, i32_w]
    rfl
   refine pure_ (i := 4) (N := some 19) (v := ?_) (a' := ?_) #[tt,tt,tt,ff,tt,ff,ff,ff,ff,ff,ff] rfl rfl (any_of HT_.out (by kernel_rfl)) (fun _ _ _ h => nomatch h.1) (Or.inl ⟨by rfl, ?_⟩) ?_ ?_
   rotate_left
   ·intro w'
    go_simp
    with_reducible rfl
   rotate_left
   ·simp only [Act.put, sA, sB, sC, i64_w, i32_w]
    rfl
   refine pure_ (i := 5) (N := some 20) (v := ?_) (a' := ?_) #[tt,tt,tt,ff,tt,tt,ff,ff,ff,ff,ff] rfl rfl (any_of HT_.out (by kernel_rfl)) (fun _ _ _ h => nomatch h.1) (Or.inl ⟨by rfl, ?_⟩) ?_ ?_
   rotate_left
   ·intro w'
    go_simp
    with_reducible rfl
   rotate_left
   ·simp only [Act.put, sA, sB, sC, i64_w, i32_w]
    rfl
   refine pure_ (i := 6) (N := some 21) (v := ?_) (a' := ?_) #[tt,tt,tt,ff,tt,tt,tt,ff,ff,ff,ff] rfl rfl (any_of HT_.out (by kernel_rfl)) (fun _ _ _ h => nomatch h.1) (Or.inl ⟨by rfl, ?_⟩) ?_ ?_
   rotate_left
   ·intro w'
    go_simp
    with_reducible rfl
   rotate_left
   ·simp only [Act.put, sA, sB, sC, i64_w, i32_w]
    rfl
   refine pure_ (i := 7) (N := some 22) (v := ?_) (a' := ?_) #[tt,tt,tt,ff,tt,tt,tt,tt,ff,ff,ff] rfl rfl (any_of HT_.out (by kernel_rfl)) (fun _ _ _ h => nomatch h.1) (Or.inl ⟨by rfl, ?_⟩) ?_ ?_
   rotate_left
   ·intro w'
    go_simp
    with_reducible rfl
   rotate_left
   ·simp only [Act.put, sA, sB, sC, i64_w, i32_w]
    rfl
   refine take_ (i := 3) (N := some 18) (v := ?_) (a' := ?_) #[tt,tt,tt,tt,tt,tt,tt,tt,ff,ff,ff] rfl rfl (take_ofW HT_.out HW_.out (by kernel_rfl)) (fun _ _ _ h => nomatch h.1) (Or.inl ⟨by rfl, ?_⟩) hHeld ?_ ?_
   rotate_left
   ·rintro w' ⟨s0, s1⟩
    go_simp
    with_reducible rfl
   rotate_left
   ·simp only [Act.put, sA, sB, sC, i64_w, i32_w]
    rfl
   refine take_ (i := 8) (N := some 23) (v := ?_) (a' := ?_) #[tt,tt,tt,tt,tt,tt,tt,tt,tt,ff,ff] rfl rfl (take_ofW HT_.out HW_.out (by kernel_rfl)) (fun _ _ _ h => nomatch h.1) (Or.inl ⟨by rfl, ?_⟩) hHeld ?_ ?_
   rotate_left
   ·rintro w' ⟨s0, s1⟩
    go_simp
    with_reducible rfl
   rotate_left
   ·simp only [Act.put, sA, sB, sC, i64_w, i32_w]
    rfl
   refine one_ (i := 9) (N := some 24) #[tt,tt,tt,tt,tt,tt,tt,tt,tt,tt,ff] rfl rfl (one_of HT_.out (by kernel_rfl)) (by decide) (fun K hK => ?_)
   refine goesV_ Tryz.func17 (by kernel_rfl) rfl #[.string k, .string k'] #[.string k, .string k'] (by rfl) rfl rfl (by rfl) (by simp only [List.map_toArray, List.map_cons, List.map_nil]; rfl) (by rfl) ?_
   with_reducible refine (compare_calls k k' _).mono ?_
   rintro e w1 ⟨rfl, rfl⟩
   refine ⟨_, rfl, ?_⟩
   refine hK.out _ _ ⟨((blk_cell n_RK.out 0).trans rfl), ((blk_cell n_S.out.node 0).trans rfl)⟩ (fun hHeld => ?_)
   clear hK K
   refine norm_ (a' := ?_) ?_ ?_
   rotate_left
   ·show Act.put _ (some 24) _ = _
    simp only [Act.put, sA, sB, sC, i64_w, i32_w]
    rfl
   refine pure_ (i := 10) (N := some 7) (v := ?_) (a' := ?_) #[tt,tt,tt,tt,tt,tt,tt,tt,tt,tt,tt] rfl rfl (any_of HT_.out (by kernel_rfl)) (fun _ _ _ h => nomatch h.1) (Or.inl ⟨by rfl, ?_⟩) ?_ ?_
   rotate_left
   ·intro w'
    go_simp
    with_reducible rfl
   rotate_left
   ·simp only [Act.put, sA, sB, sC, i64_w, i32_w]
    rfl
   refine done_ (done_of HT_.out (by kernel_rfl)) ?_
   refine ⟨rfl, ?_⟩
   clear hHeld HT_ HW_
   have m_B := Aside0.mk (below_drew1 n_B.out)
   have m_X := Aside0.mk (blk_drew n_X.out)
   clear n_B n_X
   generalize wr.drew = W at n_S n_RK m_B m_X ⊢
   have hge : Tr.get cmpS k t = if cmpS k k' = 0 then some v' else if cmpS k k' < 0 then Tr.get cmpS k l else Tr.get cmpS k r := n_G.out.symm
   have hln : l.toL.length + r.toL.length + 1 ≤ gk := by have := n_N.out; simp only [Tr.toL, List.length_append, List.length_cons] at this; omega
   have LN := Aside0.mk hln
   have GE := Aside0.mk hge
   clear hge hln n_G n_N
   by_cases h0 : cmpS k k' = 0
   ·have hb0 : (cmpS k k' == 0) = true := by simpa using h0
    have d1 : W.cell? ⟨b, 1, none⟩ = some (.slice v'.A v'.n v'.c) := (blk_cell n_S.out.node 1).trans rfl
    have d2 : W.cell? ⟨b, 2, none⟩ = some (.int .i64 v'.s) := (blk_cell n_S.out.node 2).trans rfl
    have d3 := blk_cell m_X.out 0
    have d4 := blk_cell m_X.out 1
    have f3 := blk_frozen m_X.out 0
    have f4 := blk_frozen m_X.out 1
    go_wp2
    have hC := blk_put (blk_put m_X.out 0 (.slice v'.A v'.n v'.c) rfl) 1 (.int .i64 v'.s) rfl
    have hBf := (m_B.out.setCell (p := ⟨w.heap.size, 0, none⟩) (Nat.le_refl _) (.slice v'.A v'.n v'.c)).setCell (p := ⟨w.heap.size, 1, none⟩) (Nat.le_refl _) (.int .i64 v'.s)
    generalize (W.setCell ⟨w.heap.size, 0, none⟩ (.slice v'.A v'.n v'.c)).setCell ⟨w.heap.size, 1, none⟩ (.int .i64 v'.s) = W5 at hC hBf ⊢
    clear d1 d2 d3 d4 f3 f4
    have q0 := blk_cell hC 0
    have q1 := blk_cell hC 1
    rw [GE.out, if_pos (by omega)]
    refine bodyPost_ret (v := .tuple #[v'.val, .bool true]) ?_ rfl ⟨rfl, hBf⟩
    simp [results, Tryz.results47, go_sem, q0, q1]
   ·have hb0 : (cmpS k k' == 0) = false := by simpa using h0
    by_cases h1 : cmpS k k' < 0
    ·have hb1 : decide (cmpS k k' < 0) = true := decide_eq_true h1
     have d1 : W.cell? ⟨b, 3, none⟩ = some (.pointer l.adr) := (blk_cell n_S.out.node 3).trans rfl
     go_wp2
     go_roundg (gk - 1)
     case rel => exact ⟨l, by have := LN.out; omega, rfl, n_S.out.left, by rw [GE.out, if_neg (by omega), if_pos (by omega)], m_B.out, m_X.out⟩
     case measure => have := LN.out; omega
    ·have hb1 : decide (cmpS k k' < 0) = false := decide_eq_false h1
     have d1 : W.cell? ⟨b, 4, none⟩ = some (.pointer r.adr) := (blk_cell n_S.out.node 4).trans rfl
     go_wp2
     go_roundg (gk - 1)
     case rel => exact ⟨r, by have := LN.out; omega, rfl, n_S.out.right, by rw [GE.out, if_neg (by omega), if_neg (by omega)], m_B.out, m_X.out⟩
     case measure => have := LN.out; omega
set_option maxRecDepth 100000 in
set_option maxHeartbeats 8000000 in
theorem Len_calls (w : World) (rk : Nat) (t : Tr FV) (h : RackAt w rk t) :
  Calls Tryz.prog 49 #[.pointer (some ⟨rk, 0, none⟩)] w fun e w' => e = .returned (.int .i64 (t.toL.length : Int)) ∧ w' = w := by
 rw [← Tr.many_eq h.wf]
 have d0 : w.cell? ⟨rk, 1, none⟩ = some (.pointer t.adr) := (blk_cell h.blk 1).trans rfl
 have hc := size_calls t w h.tree
 clear h
 go_enter Tryz.func49, Tryz.ntmps49
 go_wp2_with (go_at_call 72; refine (show Calls _ _ _ _ _ from hc).mono ?_; rintro e w1 ⟨rfl, rfl⟩; clear hc)
 exact bodyPost_ret (v := .int .i64 t.many) (by simp [results, Tryz.results49, go_sem]) rfl ⟨rfl, rfl⟩
set_option maxRecDepth 100000 in
set_option maxHeartbeats 8000000 in
theorem RNew_calls (w : World) :
  Calls Tryz.prog 16 #[cmpV] w fun e w' => e = .returned (.pointer (some ⟨w.heap.size, 0, none⟩)) ∧ w' = w.alloc (.cells #[cmpV, .pointer none] 79) := by
 go_enter Tryz.func16, Tryz.ntmps16
 go_wp2
 exact bodyPost_ret (v := .pointer (some ⟨w.heap.size, 0, none⟩)) (by simp [results, Tryz.results16, go_sem]) rfl ⟨rfl, rfl⟩
theorem RNew_at (w : World) : RackAt (w.alloc (.cells #[cmpV, .pointer none] 79)) w.heap.size .nil := ⟨heap_alloc_new w _, trivial, trivial, List.nodup_nil, by simp [Tr.ids], List.Pairwise.nil⟩
set_option maxRecDepth 100000 in
set_option maxHeartbeats 8000000 in
theorem least_calls : ∀ (l : Tr FV) (b : Nat) (k : ByteArray) (v : FV) (r : Tr FV) (h m : Int) (w : World), At w (.node b k v l r h m) → l.wf → r.wf → l.toL.length + r.toL.length ≤ 1000 → (Tr.ids (.node b k v l r h m)).Nodup →
  Calls Tryz.prog 87 #[.pointer (some ⟨b, 0, none⟩)] w fun e w' => e = .returned (.tuple #[.pointer (some ⟨(Tr.least b k v l r).1.1, 0, none⟩), .pointer (Tr.least b k v l r).2.adr]) ∧ Mut (fun i => i ∈ Tr.ids (.node b k v l r h m)) w w' ∧ At w' (Tr.least b k v l r).2 ∧ ∃ l' r' h' m', w'.heap[(Tr.least b k v l r).1.1]? = some (.cells (nodeC (Tr.least b k v l r).1.2.1 (Tr.least b k v l r).1.2.2 l' r' h' m') 121 (0, 0)) := by
 intro l
 induction l with
 | nil =>
  intro b k v r h m w hat wl wr zz hn
  have HA := Aside0.mk hat
  have HAd := Aside0.mk (At.keep (w' := w.drew) hat (fun _ _ _ => rfl))
  have d0 : w.cell? ⟨b, 3, none⟩ = some (.pointer none) := (blk_cell hat.node 3).trans rfl
  clear hat wl wr zz hn
  go_enter Tryz.func87, Tryz.ntmps87
  go_upto_region 2 with fail
  clear d0
  refine wp_mono (Q := fun e a w => e = .normal ∧ _) ?_ (fun e a w h => h.2)
  refine start_ (n := 7) (S := fun w' => w'.cell? ⟨b, 4, none⟩ = some (.pointer r.adr)) (ds := []) #[ff,ff,ff,ff,ff,ff,ff] (by kernel_rfl) rfl rfl (((blk_cell HAd.out.node 4).trans rfl)) (fun hHeld => ?_)
  refine with_tabW q87.tab2 q87.bits2 (fun HT_ HW_ => ?_)
  refine pure_ (i := 0) (N := some 11) (v := ?_) (a' := ?_) #[tt,ff,ff,ff,ff,ff,ff] rfl rfl (any_of HT_.out (by kernel_rfl)) (fun _ _ _ h => nomatch h.1) (Or.inl ⟨by rfl, ?_⟩) ?_ ?_
  rotate_left
  ·intro w'
   go_simp
   with_reducible rfl
  rotate_left
  ·simp only [Act.put, sA, sB, sC, i64_w, i32_w]
   rfl
  refine pure_ (i := 1) (N := some 12) (v := ?_) (a' := ?_) #[tt,tt,ff,ff,ff,ff,ff] rfl rfl (any_of HT_.out (by kernel_rfl)) (fun _ _ _ h => nomatch h.1) (Or.inl ⟨by rfl, ?_⟩) ?_ ?_
  rotate_left
  ·intro w'
   go_simp
   with_reducible rfl
  rotate_left
  ·simp only [Act.put, sA, sB, sC, i64_w, i32_w]
   rfl
  refine pure_ (i := 2) (N := some 13) (v := ?_) (a' := ?_) #[tt,tt,tt,ff,ff,ff,ff] rfl rfl (any_of HT_.out (by kernel_rfl)) (fun _ _ _ h => nomatch h.1) (Or.inl ⟨by rfl, ?_⟩) ?_ ?_
  rotate_left
  ·intro w'
   go_simp
   with_reducible rfl
  rotate_left
  ·simp only [Act.put, sA, sB, sC, i64_w, i32_w]
   rfl
  refine pure_ (i := 3) (N := some 14) (v := ?_) (a' := ?_) #[tt,tt,tt,tt,ff,ff,ff] rfl rfl (any_of HT_.out (by kernel_rfl)) (fun _ _ _ h => nomatch h.1) (Or.inl ⟨by rfl, ?_⟩) ?_ ?_
  rotate_left
  ·intro w'
   go_simp
   with_reducible rfl
  rotate_left
  ·simp only [Act.put, sA, sB, sC, i64_w, i32_w]
   rfl
  refine pure_ (i := 5) (N := some 2) (v := ?_) (a' := ?_) #[tt,tt,tt,tt,ff,tt,ff] rfl rfl (any_of HT_.out (by kernel_rfl)) (fun _ _ _ h => nomatch h.1) (Or.inl ⟨by rfl, ?_⟩) ?_ ?_
  rotate_left
  ·intro w'
   go_simp
   with_reducible rfl
  rotate_left
  ·simp only [Act.put, sA, sB, sC, i64_w, i32_w]
   rfl
  refine take_ (i := 4) (N := some 15) (v := ?_) (a' := ?_) #[tt,tt,tt,tt,tt,tt,ff] rfl rfl (take_ofW HT_.out HW_.out (by kernel_rfl)) (fun _ _ _ h => nomatch h.1) (Or.inl ⟨by rfl, ?_⟩) hHeld ?_ ?_
  rotate_left
  ·intro w' s0
   go_simp
   with_reducible rfl
  rotate_left
  ·simp only [Act.put, sA, sB, sC, i64_w, i32_w]
   rfl
  refine pure_ (i := 6) (N := some 3) (v := ?_) (a' := ?_) #[tt,tt,tt,tt,tt,tt,tt] rfl rfl (any_of HT_.out (by kernel_rfl)) (fun _ _ _ h => nomatch h.1) (Or.inl ⟨by rfl, ?_⟩) ?_ ?_
  rotate_left
  ·intro w'
   go_simp
   with_reducible rfl
  rotate_left
  ·simp only [Act.put, sA, sB, sC, i64_w, i32_w]
   rfl
  refine done_ (done_of HT_.out (by kernel_rfl)) ?_
  refine ⟨rfl, ?_⟩
  clear hHeld HT_ HW_
  go_wp2
  exact bodyPost_ret (v := .tuple #[.pointer (some ⟨b, 0, none⟩), .pointer r.adr]) (by simp [results, Tryz.results87, go_sem]) rfl ⟨rfl, (Mut.refl _ w).drew, HAd.out.right, _, _, _, _, HAd.out.node⟩
 | node lb lk lv ll lr lh lm ihl ihr =>
  intro b k v r h m w hat wl wr zz hn
  obtain ⟨m1, m2, m3, m4, m5⟩ := nd3 hn
  have MM := Aside0.mk (And.intro m1 (And.intro m2 (And.intro m3 (And.intro m4 m5))))
  have ND := Aside0.mk hn
  have WL := Aside0.mk wl
  have WR := Aside0.mk wr
  have ZZ := Aside0.mk zz
  have d0 : w.cell? ⟨b, 3, none⟩ = some (.pointer (some ⟨lb, 0, none⟩)) := (blk_cell hat.node 3).trans rfl
  have hc := ihl lb lk lv lr lh lm w hat.left wl.2.2.1 wl.2.2.2 (by simp only [Tr.toL, List.length_append, List.length_cons] at zz; omega) m4
  have HK := Aside0.mk hat.node
  have HR := Aside0.mk hat.right
  have hle := Tr.least_ids ll lb lk lv lr
  have HLE := Aside0.mk hle
  clear hat wl wr zz hn m1 m2 m3 m4 m5 hle
  go_enter Tryz.func87, Tryz.ntmps87
  go_upto_region 4 with (go_at_call 87; refine (show Calls _ _ _ _ _ from hc).mono ?_; rintro e w1 ⟨rfl, hM, hA, l', r', h', m', hF⟩; have n_M := Aside0.mk hM; have n_A := Aside0.mk hA; have n_F := Aside0.mk hF; have n_K := Aside0.mk (hM.blk HK.out MM.out.1); have n_R := Aside0.mk (HR.out.mut hM (fun i hi e => MM.out.2.2.1 i hi e)); have d3 := blk_cell n_K.out 3; have f3 := blk_frozen n_K.out 3; clear d0 hc hM hA hF HK HR)
  go_upto_region 5 with fail
  clear d3 f3
  generalize hT : Tr.least lb lk lv ll lr = T at n_F n_A HLE ⊢
  obtain ⟨⟨fb, fk, fv⟩, rest⟩ := T
  have hids : ∀ i, i ∈ (fb :: rest.ids) ↔ i ∈ Tr.ids (.node lb lk lv ll lr lh lm) := fun i => by have := HLE.out; simp only [Tr.ids]; rw [← this]
  have hfb : fb ≠ b ∧ fb ∉ rest.ids ∧ b ∉ rest.ids ∧ fb ∉ r.ids ∧ (∀ i ∈ r.ids, i ∉ rest.ids) ∧ rest.ids.Nodup := by
   have hnd : (fb :: rest.ids).Nodup := by have := HLE.out; simp only at this; rw [this]; exact MM.out.2.2.2.1
   have h1 := (List.nodup_cons.1 hnd)
   refine ⟨fun e => MM.out.1 ((hids b).1 (by simp [e])), h1.1, fun e => MM.out.1 ((hids b).1 (by simp [e])), fun e => MM.out.2.2.1 fb e ((hids fb).1 (by simp)), fun i hi e => MM.out.2.2.1 i hi ((hids i).1 (by simp [e])), h1.2⟩
  have FB := Aside0.mk hfb
  have IDS := Aside0.mk hids
  clear hids hfb
  have hS : Mut (fun i => i = b) w1 (w1.setCell ⟨b, 3, none⟩ (.pointer rest.adr)) := (Mut.refl (fun i => i = b) w1).set (.inl rfl) 3 _
  have m_K : (w1.setCell ⟨b, 3, none⟩ (.pointer rest.adr)).heap[b]? = some (.cells (nodeC k v rest.adr r.adr h m) 121 (0, 0)) := blk_put n_K.out 3 _ rfl
  have m_A := n_A.out.mut hS (fun i hi e => FB.out.2.2.1 (e ▸ hi))
  have m_R := n_R.out.mut hS (fun i hi e => MM.out.2.1 (e ▸ hi))
  have m_F := Aside0.mk (hS.blk n_F.out FB.out.1)
  have hlen : rest.toL.length + 1 = (Tr.node lb lk lv ll lr lh lm).toL.length := by have := Tr.least_toL ll lb lk lv lr; rw [hT] at this; simp only [Tr.toL]; rw [← this]; simp
  have hwf : rest.wf := by have := Tr.least_wf ll lb lk lv lr WL.out.2.2.1 WL.out.2.2.2; rwa [hT] at this
  have hnd : (rest.ids ++ b :: r.ids).Nodup := by
   rw [List.nodup_append, List.nodup_cons]
   exact ⟨FB.out.2.2.2.2.2, ⟨MM.out.2.1, MM.out.2.2.2.2⟩, fun i hi j hj => by
    rcases List.mem_cons.1 hj with rfl | hj
    ·exact fun e => FB.out.2.2.1 (e ▸ hi)
    ·exact fun e => FB.out.2.2.2.2.1 j hj (e ▸ hi)⟩
  have hc := even_calls (w1.setCell ⟨b, 3, none⟩ (.pointer rest.adr)) b k v rest r h m m_K m_A m_R hwf WR.out (by have := ZZ.out; omega) hnd
  have n_D := Aside0.mk (Mut.trans (F := fun i => i ∈ Tr.ids (.node b k v (.node lb lk lv ll lr lh lm) r h m)) n_M.out hS (fun i e => mem_l e) (fun i e _ => e ▸ mem_b))
  have hsub : ∀ i, (i = b ∨ i ∈ rest.ids ∨ i ∈ r.ids) → i ∈ Tr.ids (.node b k v (.node lb lk lv ll lr lh lm) r h m) := fun i e => by
   rcases e with e | e | e
   ·exact e ▸ mem_b
   ·exact mem_l ((IDS.out i).1 (by simp [e]))
   ·exact mem_r e
  have HSUB := Aside0.mk hsub
  have hl : Tr.least b k v (.node lb lk lv ll lr lh lm) r = ((fb, fk, fv), Tr.even b k v rest r) := by simp only [Tr.least]; rw [hT]
  have HLS := Aside0.mk hl
  clear hS m_K m_A m_R hlen hwf hnd hsub hl n_K n_A n_R n_F
  generalize w1.setCell ⟨b, 3, none⟩ (.pointer rest.adr) = W4 at hc m_F n_D ⊢
  go_wp2_with (go_at_call 78; refine (show Calls _ _ _ _ _ from hc).mono ?_; rintro e w5 ⟨rfl, hM, hA⟩; have m_M := Aside0.mk hM; have m_A := Aside0.mk hA; clear hM hA hc)
  refine bodyPost_ret (v := .tuple #[.pointer (some ⟨fb, 0, none⟩), .pointer (Tr.even b k v rest r).adr]) (by simp [results, Tryz.results87, go_sem]) rfl ?_
  rw [HLS.out]
  exact ⟨rfl, n_D.out.trans m_M.out (fun _ e => e) (fun i e _ => HSUB.out i e), m_A.out, _, _, _, _, m_M.out.blk m_F.out (fun e => e.elim FB.out.1 (fun e => e.elim FB.out.2.1 FB.out.2.2.2.1))⟩
end Go.Proofs.YtdooajmgfoobfaaGreatDoor.H
