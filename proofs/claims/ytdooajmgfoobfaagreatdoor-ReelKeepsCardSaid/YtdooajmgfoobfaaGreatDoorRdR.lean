/- A reel: its records. Laid by wip/rr_bl.py. -/
import Derived.Test.YtdooajmgfoobfaaGreatDoorZz
import Derived.Test.YtdooajmgfoobfaaGreatDoorRdG
namespace Go.Proofs.YtdooajmgfoobfaaGreatDoor.H
attribute [local go_sem] Oper.semAt_some
open Go.RowKit Go.Shelf Go.Proofs.YtdooajmgfoobfaaGreatDoor.PA Go.Proofs.YtdooajmgfoobfaaGreatDoorW.PrintWords Go.Proofs.YtdooajmgfoobfaaGreatDoorW.PrintLast Go.Proofs.YtdooajmgfoobfaaGreatDoorW.PrintMore
set_option linter.unusedVariables false
set_option linter.unusedSimpArgs false
/-- A segment: whole frames, and what is torn behind them. -/
abbrev Sg := List (List Int) × List Int
def Sg.bytes (x : Sg) : List Int := framesB x.1 ++ x.2
def recL (l : List Sg) : List (List Int) := l.flatMap (·.1)
def recM (m : Rl) (l : List Sg) : Rl := l.foldl (fun m x => { m with last := m.last + 1, tail := (framesB x.1).length, size := m.size + (framesB x.1).length }) m
theorem recM_snoc (m : Rl) (l : List Sg) (x : Sg) : recM m (l ++ [x]) = { recM m l with last := (recM m l).last + 1, tail := (framesB x.1).length, size := (recM m l).size + (framesB x.1).length } := by simp [recM]
theorem recL_snoc (l : List Sg) (x : Sg) : recL (l ++ [x]) = recL l ++ x.1 := by simp [recL]
theorem recM_last (m : Rl) : ∀ l : List Sg, (recM m l).last = m.last + l.length ∧ (recM m l).roll = m.roll ∧ (recM m l).first = m.first ∧ (recM m l).down = m.down := by
 intro l
 induction l generalizing m with
 | nil => exact ⟨by simp [recM], rfl, rfl, rfl⟩
 | cons x l ih =>
  obtain ⟨h1, h2, h3, h4⟩ := ih { m with last := m.last + 1, tail := (framesB x.1).length, size := m.size + (framesB x.1).length }
  exact ⟨h1.trans (by simp only [List.length_cons]; omega), h2, h3, h4⟩
theorem recM_size (m : Rl) : ∀ (l : List Sg), (∀ x ∈ l, (framesB x.1).length ≤ 100000) → m.size ≤ (recM m l).size ∧ (recM m l).size ≤ m.size + l.length * 100000 := by
 intro l
 induction l generalizing m with
 | nil => intro _; exact ⟨Int.le_refl _, by simp [recM]⟩
 | cons x l ih =>
  intro h
  have hx := h x (by simp)
  obtain ⟨h1, h2⟩ := ih { m with last := m.last + 1, tail := (framesB x.1).length, size := m.size + (framesB x.1).length } (fun y hy => h y (by simp [hy]))
  have e : recM m (x :: l) = recM { m with last := m.last + 1, tail := (framesB x.1).length, size := m.size + (framesB x.1).length } l := rfl
  rw [e]
  simp only at h1 h2
  simp only [List.length_cons]
  generalize (framesB x.1).length = fl at *
  omega
theorem recL_len : ∀ (l : List Sg), (∀ x ∈ l, (framesB x.1).length ≤ 100000) → (recL l).length ≤ l.length * 100000 := by
 intro l
 induction l with
 | nil => intro _; simp [recL]
 | cons x l ih =>
  intro h
  have h1 := h x (by simp)
  have h2 := ih (fun y hy => h y (by simp [hy]))
  have h3 := framesB_len x.1
  have e : recL (x :: l) = x.1 ++ recL l := rfl
  rw [e, List.length_append, List.length_cons]
  generalize (framesB x.1).length = a at *
  omega
theorem rec_len {x : Sg} (h : x.bytes.length ≤ 100000) : (framesB x.1).length ≤ 100000 := Nat.le_trans (by unfold Sg.bytes; rw [List.length_append]; exact Nat.le_add_right _ _) h
/-- Behind an append to the records. -/
structure RecMid (b : Nat) (W0 : World) (rs : List (List Int)) (rn : Nat) (s : Option Addr × Nat) (w' : World) : Prop where
 hb : Below b W0 w'
 rd : BsAt w' b (.slice s.1 rn s.2) rs
 ko : KeepsOthers W0 w'
 u8 : ∀ (i : Nat) (cs : Array Value), W0.heap[i]? = some (.cells cs 5 (0, 0)) → w'.heap[i]? = W0.heap[i]?
/-- Segments that can be read: only the last one is torn. -/
structure SgsOk (l : List Sg) : Prop where
 short : ∀ x ∈ l, ∀ p ∈ x.1, p.length ≤ 199011
 torn : ∀ x ∈ l, Torn x.2
 whole : ∀ (i : Nat) (x : Sg), l[i]? = some x → i + 1 < l.length → x.2 = []
 u8 : ∀ x ∈ l, ∀ y ∈ x.bytes, 0 ≤ y ∧ y ≤ 255
 len : ∀ x ∈ l, x.bytes.length ≤ 100000
 few : l.length ≤ 99
/-- Where records' loop stands. -/
structure RecSt (w : World) (g s : Nat) (F : Nat → Prop) (D : Dk) (m : Rl) (pss : List Sg) (pre : List SgX) (W : World) : Prop where
 mu : Mut (fun i => i = g) w W
 rl : W.heap[g]? = some (.cells (rlC s (recM m (pss.take pre.length))) 58 (0, 0))
 disk : SumpAt W s F D
 bx : W.heap[w.heap.size]? = some (.cells #[.pointer (some ⟨g, 0, none⟩)] 28 (0, 0))
 r0 : W.heap[w.heap.size + 1]? = some (.cells #[.slice none 0 0] 29 (0, 0))
 e0 : W.heap[w.heap.size + 2]? = some (.cells #[.int .i64 0] 24 (0, 0))
 o_ : ∃ v, W.heap[w.heap.size + 3]? = some (.cells #[v] 29 (0, 0)) ∧ BsAt W (w.heap.size + 7) v (recL (pss.take pre.length))
 t_ : ∃ b, W.heap[w.heap.size + 4]? = some (.cells #[.bool b] 4 (0, 0)) ∧ (pre.length < pss.length → b = false)
 sz : w.heap.size + 7 ≤ W.heap.size
 pf : sgBs pre <+: pss.map Sg.bytes
theorem RecSt.own {w : World} {g s : Nat} {F : Nat → Prop} {D : Dk} {m : Rl} {pss : List Sg} {B : Nat} (hB : w.heap.size ≤ B) : OwnFrom B (RecSt w g s F D m pss) := fun pre W W' row hs hg hr => by
 obtain ⟨v, h1, h2⟩ := hs.o_
 obtain ⟨b, h3, h4⟩ := hs.t_
 have k : ∀ {i t : Nat} {cs : Array Value}, W.heap[i]? = some (.cells cs t (0, 0)) → W'.heap[i]? = some (.cells cs t (0, 0)) := fun h => (hg.block _ (blk_lt h) (cells_ne_row (B := B) hr h)).trans h
 refine ⟨hs.mu.trans (F1 := fun i => i = g) (F2 := fun i => w.heap.size ≤ i) ⟨hg.os, hg.tape, hg.output, hg.size, fun i hi hn => hg.block i hi (fun e => hn (Nat.le_trans hB (hr _ e.symm).1))⟩ (fun _ h => h) (fun i h1 h2 => by omega), k hs.rl, hs.disk.grown hg (fun r e => (hr r e).2), k hs.bx, k hs.r0, k hs.e0, ⟨v, k h1, R_ownFrom h2 hg hr⟩, ⟨b, k h3, h4⟩, Nat.le_trans hs.sz hg.size, hs.pf⟩
structure RecOut (g s : Nat) (F : Nat → Prop) (D : Dk) (m : Rl) (pss : List Sg) (w : World) (e : Ending) (w' : World) : Prop where
 out : ∃ A c, e = .returned (.tuple #[.slice A (recL pss).length c, .int .i64 0]) ∧ BsAt w' w.heap.size (.slice A (recL pss).length c) (recL pss)
 mu : Mut (fun i => i = g) w w'
 rl : w'.heap[g]? = some (.cells (rlC s (recM m pss)) 58 (0, 0))
 disk : SumpAt w' s F D
theorem segments_calls (s first : Nat) (w : World) : Calls Tryz.prog 40 #[.pointer (some ⟨s, 0, none⟩), .int .i64 first] w fun e w' => e = .returned (.func (.func 66) #[] #[.pointer (some ⟨w.heap.size + 1, 0, none⟩), .pointer (some ⟨w.heap.size, 0, none⟩)]) ∧ w' = (w.alloc (.cells #[.pointer (some ⟨s, 0, none⟩)] 23)).alloc (.cells #[.int .i64 first] 3) := by
 go_enter Tryz.func40, Tryz.ntmps40
 go_wp2
 go_ret
 exact ⟨rfl, rfl⟩
theorem segs_hands (n bn bp s first : Nat) (hn1 : 1 ≤ n) (F : Nat → Prop) (D : Dk) (bs : List (List Int)) (W : World) (hn : W.heap[bn]? = some (.cells #[.int .i64 first] 3 (0, 0))) (hp : W.heap[bp]? = some (.cells #[.pointer (some ⟨s, 0, none⟩)] 23 (0, 0))) (hd : SumpAt W s F D) (hS : Segs D.L first bs) (hlt : first + bs.length < 100) :
  HandsP Fence.wide n Tryz.prog 66 #[.pointer (some ⟨bn, 0, none⟩), .pointer (some ⟨bp, 0, none⟩)] sgA (SgRel first bs) (KpS s F D bp) (fun _ _ => False) (fun xs => sgBs xs = bs) (fun pre => sgBs pre <+: bs) bs.length W := fun lp J Jx V hV hJ _ _ _ hY h0 =>
 segs1_in n lp bn bp s first hn1 F D bs V J Jx hJ
  (fun pre x W1 hj hp hlen => by
   obtain ⟨fn, tm, asg, bd, hy, hR⟩ := hY pre x W1 hj hp hlen
   refine ⟨fn, tm, asg, bd, hy, hR.mono ?_⟩
   rintro e W' (⟨h1, h2, h3, _⟩ | ⟨h1, h2, _⟩)
   ·exact .inl ⟨h1, h2, h3⟩
   ·exact .inr ⟨h1, h2⟩) (blk_below hn hV) (blk_below hp hV) (hd.below hV) hS hlt h0
/-- The call's own cells. -/
structure RecX (b g : Nat) (W : World) : Prop where
 bx : W.heap[b]? = some (.cells #[.pointer (some ⟨g, 0, none⟩)] 28 (0, 0))
 r0 : W.heap[b + 1]? = some (.cells #[.slice none 0 0] 29 (0, 0))
 e0 : W.heap[b + 2]? = some (.cells #[.int .i64 0] 24 (0, 0))
 o_ : W.heap[b + 3]? = some (.cells #[.slice none 0 0] 29 (0, 0))
 t_ : W.heap[b + 4]? = some (.cells #[.bool false] 4 (0, 0))
theorem RecX.below {b g : Nat} {W W' : World} (h : RecX b g W) (hb : Below W.heap.size W W') : RecX b g W' := ⟨blk_below h.bx hb, blk_below h.r0 hb, blk_below h.e0 hb, blk_below h.o_ hb, blk_below h.t_ hb⟩
theorem RecX.far {b g i : Nat} {w W : World} (h : RecX b g W) (hb : Below w.heap.size w W) (hi : i < w.heap.size) (j : Nat) (v : Value) (hbw : b = w.heap.size := by rfl) : RecX b g (W.setCell ⟨i, j, none⟩ v) := by
 subst hbw
 exact ⟨blk_far (p := ⟨i, j, none⟩) h.bx (show w.heap.size ≠ i by omega) v, blk_far (p := ⟨i, j, none⟩) h.r0 (show w.heap.size + 1 ≠ i by omega) v, blk_far (p := ⟨i, j, none⟩) h.e0 (show w.heap.size + 2 ≠ i by omega) v, blk_far (p := ⟨i, j, none⟩) h.o_ (show w.heap.size + 3 ≠ i by omega) v, blk_far (p := ⟨i, j, none⟩) h.t_ (show w.heap.size + 4 ≠ i by omega) v⟩
theorem recs_alloc (w : World) (g : Nat) : RecX w.heap.size g (((((w.alloc (.cells #[.pointer (some ⟨g, 0, none⟩)] 28)).alloc (.cells #[.slice none 0 0] 29)).alloc (.cells #[.int .i64 0] 24)).alloc (.cells #[.slice none 0 0] 29)).alloc (.cells #[.bool false] 4)) := by
 have k : ∀ (W : World) (o : Obj) {i : Nat} {o' : Obj}, W.heap[i]? = some o' → (W.alloc o).heap[i]? = some o' := fun W o i o' h => blk_below h ((Below.refl _ W).alloc (Nat.le_refl _) o)
 have n : ∀ (W : World) (cs : Array Value) (t : Nat) (b : Nat), W.heap.size = b → (W.alloc (.cells cs t)).heap[b]? = some (.cells cs t (0, 0)) := fun W cs t b e => by rw [← e]; exact heap_alloc_new W (.cells cs t)
 exact ⟨k _ _ (k _ _ (k _ _ (k _ _ (n _ _ _ _ rfl)))), k _ _ (k _ _ (k _ _ (n _ _ _ _ (by simp)))), k _ _ (k _ _ (n _ _ _ _ (by simp))), k _ _ (n _ _ _ _ (by simp)), n _ _ _ _ (by simp)⟩
theorem rec_bytes {pss : List Sg} {pre : List SgX} {b : List Int} {sg : Sg} (h : sgBs pre ++ [b] <+: pss.map Sg.bytes) (hs : pss[pre.length]? = some sg) : b = sg.bytes := by
 obtain ⟨r, hr⟩ := h
 have hl : (sgBs pre).length = pre.length := by simp [sgBs]
 have h1 : (pss.map Sg.bytes)[pre.length]? = some sg.bytes := by rw [List.getElem?_map, hs]; rfl
 rw [← hr, List.append_assoc, List.getElem?_append_right (by omega), hl, Nat.sub_self] at h1
 simpa using h1
def q19.T3 : Bool × List (List Nat × List Nat) := (true, [([], []), ([], []), ([1], [1]), ([2], [2]), ([3], [3]), ([4], [4]), ([0, 0, 1, 2, 3, 4, 5], [0]), ([6, 0, 1, 2, 3, 4, 5], [6]), ([7, 5, 0, 1, 2, 3, 4, 5], [5, 7])])
def q19.B3 : List Nat := [0, 0, 2, 6, 14, 30, 63, 127, 255]
theorem q19.tab3 : rtab .any (opsOf Tryz.f19 3) = q19.T3 := by kernel_rfl
theorem q19.bits3 : waitsOk q19.T3.2 q19.B3 = true := by kernel_rfl
def q19.T4 : Bool × List (List Nat × List Nat) := (true, [([], []), ([0], [0]), ([1], [1]), ([2], [2]), ([], []), ([4], [4]), ([5], [5]), ([6], [6]), ([3, 7], [3, 7])])
def q19.B4 : List Nat := [0, 1, 3, 7, 0, 16, 48, 112, 255]
theorem q19.tab4 : rtab .any (opsOf Tryz.f19 4) = q19.T4 := by kernel_rfl
theorem q19.bits4 : waitsOk q19.T4.2 q19.B4 = true := by kernel_rfl
set_option maxRecDepth 100000 in
set_option maxHeartbeats 1600000 in
theorem records_calls (w : World) (g s first : Nat) (F : Nat → Prop) (D : Dk) (m : Rl) (pss : List Sg) (h : RlAt w g s F m D) (hf : m.first = first) (hz : m.size = 0) (hS : Segs D.L first (pss.map Sg.bytes)) (hlt : first + pss.length < 100) (ok : SgsOk pss) (hN : Nib w) (hgn : 1 < w.heap.size) :
  Calls Tryz.prog 19 #[.pointer (some ⟨g, 0, none⟩)] w (RecOut g s F D { m with last := (first : Int) - 1 } pss w) := by
 have HS := Aside0.mk hS
 have HL := Aside0.mk hlt
 have HOK := Aside0.mk ok
 have HN := Aside0.mk (And.intro hN hgn)
 have HF := Aside0.mk hf
 have HZ := Aside0.mk hz
 have HD := Aside0.mk h.disk
 have HG := Aside0.mk h.blk
 have hB1 : Below w.heap.size w (((((w.alloc (.cells #[.pointer (some ⟨g, 0, none⟩)] 28)).alloc (.cells #[.slice none 0 0] 29)).alloc (.cells #[.int .i64 0] 24)).alloc (.cells #[.slice none 0 0] 29)).alloc (.cells #[.bool false] 4)) := ((((((Below.refl _ w).alloc (Nat.le_refl _) _).alloc (by simp) _).alloc (by simp; omega) _).alloc (by simp; omega) _).alloc (by simp; omega) _)
 have HB1 := Aside0.mk hB1
 have HX1 := Aside0.mk (recs_alloc w g)
 have HS1 := Aside0.mk (show (((((w.alloc (.cells #[.pointer (some ⟨g, 0, none⟩)] 28)).alloc (.cells #[.slice none 0 0] 29)).alloc (.cells #[.int .i64 0] 24)).alloc (.cells #[.slice none 0 0] 29)).alloc (.cells #[.bool false] 4)).heap.size = w.heap.size + 5 by simp)
 have q1 : -9223372036854775808 ≤ (first : Int) - 1 ∧ (first : Int) - 1 ≤ 9223372036854775807 := by omega
 have hw1 : wrap64 ((first : Int) - 1) = (first : Int) - 1 := wrap_in q1.1 q1.2
 clear hS ok hN hgn hf hz h hB1 q1 hlt
 refine (callsIn_wide (n := 8)).1 ?_
 refine callsIn_of_wp_marks Tryz.func19 rfl trivial ?_ rfl
 simp only [Tryz.ntmps19, List.size_toArray, List.length_cons, List.length_nil, Nat.reduceAdd, Nat.reduceSub, Array.replicate_succ, Array.replicate_zero, List.push_toArray, List.append_toArray, List.nil_append, List.cons_append]
 gi_upto_region 3 with fail
 refine wpIn_wide.2 ?_
 generalize (((((w.alloc (.cells #[.pointer (some ⟨g, 0, none⟩)] 28)).alloc (.cells #[.slice none 0 0] 29)).alloc (.cells #[.int .i64 0] 24)).alloc (.cells #[.slice none 0 0] 29)).alloc (.cells #[.bool false] 4)) = w1 at HB1 HX1 HS1 ⊢
 have HX2 := Aside0.mk (HX1.out.below (below_drew1 (Below.refl _ w1)))
 have HB2 := Aside0.mk (below_drew1 HB1.out)
 have HG2 := Aside0.mk (blk_below HG.out HB2.out)
 have f3 := blk_frozen HG2.out 3
 have d3 : w1.cell? ⟨g, 3, none⟩ = some (.int .i64 m.last) := (blk_cell (blk_below HG.out HB1.out) 3).trans rfl
 refine wp_mono (Q := fun e a w => e = .normal ∧ _) ?_ (fun e a w h => h.2)
 refine start_ (n := 9) (S := fun w' => w'.cell? ⟨w.heap.size, 0, none⟩ = some (.pointer (some ⟨g, 0, none⟩)) ∧ w'.cell? ⟨g, 2, none⟩ = some (.int .i64 (first : Int))) (ds := [8]) #[ff,ff,ff,ff,ff,ff,ff,ff,ff] (by kernel_rfl) rfl rfl ⟨((blk_cell HX2.out.bx 0).trans rfl), ((blk_cell HG2.out 2).trans (congrArg (fun x => some (Value.int .i64 x)) HF.out))⟩ (fun hHeld => ?_)
 refine with_tabW q19.tab3 q19.bits3 (fun HT_ HW_ => ?_)
 refine take_ (i := 0) (N := some 11) (v := ?_) (a' := ?_) #[tt,ff,ff,ff,ff,ff,ff,ff,ff] rfl rfl (take_ofW HT_.out HW_.out (by kernel_rfl)) (fun _ _ _ h => nomatch h.1) (Or.inl ⟨by rfl, ?_⟩) hHeld ?_ ?_
 rotate_left
 ·rintro w' ⟨s0, s1⟩
  go_simp
  with_reducible rfl
 rotate_left
 ·simp only [Act.put, sA, sB, sC, i64_w, i32_w]
  rfl
 refine take_ (i := 1) (N := some 12) (v := ?_) (a' := ?_) #[tt,tt,ff,ff,ff,ff,ff,ff,ff] rfl rfl (take_ofW HT_.out HW_.out (by kernel_rfl)) (fun _ _ _ h => nomatch h.1) (Or.inl ⟨by rfl, ?_⟩) hHeld ?_ ?_
 rotate_left
 ·rintro w' ⟨s0, s1⟩
  go_simp
  with_reducible rfl
 rotate_left
 ·simp only [Act.put, sA, sB, sC, i64_w, i32_w]
  rfl
 refine pure_ (i := 2) (N := some 13) (v := ?_) (a' := ?_) #[tt,tt,tt,ff,ff,ff,ff,ff,ff] rfl rfl (any_of HT_.out (by kernel_rfl)) (fun _ _ _ h => nomatch h.1) (Or.inl ⟨by rfl, ?_⟩) ?_ ?_
 rotate_left
 ·intro w'
  go_simp
  with_reducible rfl
 rotate_left
 ·simp only [Act.put, sA, sB, sC, i64_w, i32_w]
  rfl
 refine pure_ (i := 3) (N := some 14) (v := ?_) (a' := ?_) #[tt,tt,tt,tt,ff,ff,ff,ff,ff] rfl rfl (any_of HT_.out (by kernel_rfl)) (fun _ _ _ h => nomatch h.1) (Or.inl ⟨by rfl, ?_⟩) ?_ ?_
 rotate_left
 ·intro w'
  go_simp
  with_reducible rfl
 rotate_left
 ·simp only [Act.put, sA, sB, sC, i64_w, i32_w]
  rfl
 refine take_ (i := 4) (N := some 15) (v := ?_) (a' := ?_) #[tt,tt,tt,tt,tt,ff,ff,ff,ff] rfl rfl (take_ofW HT_.out HW_.out (by kernel_rfl)) (fun _ _ _ h => nomatch h.1) (Or.inl ⟨by rfl, ?_⟩) hHeld ?_ ?_
 rotate_left
 ·rintro w' ⟨s0, s1⟩
  go_simp
  with_reducible rfl
 rotate_left
 ·simp only [Act.put, sA, sB, sC, i64_w, i32_w]
  rfl
 refine pure_ (i := 5) (N := some 16) (v := ?_) (a' := ?_) #[tt,tt,tt,tt,tt,tt,ff,ff,ff] rfl rfl (any_of HT_.out (by kernel_rfl)) (fun _ _ _ h => nomatch h.1) (Or.inl ⟨by rfl, ?_⟩) ?_ ?_
 rotate_left
 ·intro w'
  go_simp
  with_reducible rfl
 rotate_left
 ·simp only [Act.put, sA, sB, sC, i64_w, i32_w]
  rfl
 refine pure_ (i := 6) (N := some 17) (v := ?_) (a' := ?_) #[tt,tt,tt,tt,tt,tt,tt,ff,ff] rfl rfl (any_of HT_.out (by kernel_rfl)) (fun _ _ _ h => nomatch h.1) (Or.inl ⟨by rfl, ?_⟩) ?_ ?_
 rotate_left
 ·intro w'
  go_simp
  with_reducible rfl
 rotate_left
 ·simp only [Act.put, sA, sB, sC, i64_w, i32_w]
  rfl
 refine pure_ (i := 7) (N := some 18) (v := ?_) (a' := ?_) #[tt,tt,tt,tt,tt,tt,tt,tt,ff] rfl rfl (any_of HT_.out (by kernel_rfl)) (fun _ _ _ h => nomatch h.1) (Or.inl ⟨by rfl, ?_⟩) ?_ ?_
 rotate_left
 ·intro w'
  go_simp
  with_reducible rfl
 rotate_left
 ·simp only [Act.put, sA, sB, sC, i64_w, i32_w]
  rfl
 refine last_ (i := 8) (N := none) #[tt,tt,tt,tt,tt,tt,tt,tt,tt] rfl rfl (one_of HT_.out (by kernel_rfl)) (by decide) (fun K hK => ?_)
 refine skip_ (w1 := ?_) (by rfl) rfl ?_ ?_
 rotate_left
 ·go_simp
  rfl
 refine hK.out _ _ ?_
 clear hK K
 refine done_ (done_of HT_.out (by kernel_rfl)) ?_
 refine ⟨rfl, ?_⟩
 clear hHeld HT_ HW_
 have HX4 := Aside0.mk (HX2.out.far HB2.out (Nat.lt_of_lt_of_le (blk_lt HG.out) (Nat.le_refl _)) 3 (.int .i64 ((first : Int) - 1)))
 have hG4 := blk_put HG2.out 3 (.int .i64 ((first : Int) - 1)) (cs' := rlC s { m with last := (first : Int) - 1 }) rfl
 have hD4 := (HD.out.below HB2.out).set HG2.out (by decide) (by decide) (by decide) (by decide) 3 (.int .i64 ((first : Int) - 1))
 have hM4 : Mut (fun i => i = g) w (w1.drew.setCell ⟨g, 3, none⟩ (.int .i64 ((first : Int) - 1))) := Mut.set (F := fun i => i = g) (b := g) (Mut.of_below HB2.out) (.inl rfl) 3 _
 have HSZ := Aside0.mk (show (w1.drew.setCell ⟨g, 3, none⟩ (.int .i64 ((first : Int) - 1))).heap.size = w.heap.size + 5 by rw [World.size_setCell]; exact HS1.out)
 have hcm : ∀ v, (w1.setCell ⟨g, 3, none⟩ v).drew = w1.drew.setCell ⟨g, 3, none⟩ v := fun v => rfl
 (try rw [hw1])
 rw [hcm]
 clear f3 d3 HG2 HB2 HX2 HX1 HB1 hw1 hcm
 generalize w1.drew.setCell ⟨g, 3, none⟩ (.int .i64 ((first : Int) - 1)) = w2 at HX4 hG4 hD4 hM4 HSZ ⊢
 have HG4 := Aside0.mk hG4
 have HD4 := Aside0.mk hD4
 have HM4 := Aside0.mk hM4
 clear hG4 hD4 hM4
 gi_upto_region 4 with fail
 refine wpIn_wide.2 ?_
 have hsg := segments_calls s first w2.drew
 refine wp_mono (Q := fun e a w => e = .normal ∧ _) ?_ (fun e a w h => h.2)
 refine start_ (n := 9) (S := fun w' => w'.cell? ⟨w.heap.size, 0, none⟩ = some (.pointer (some ⟨g, 0, none⟩)) ∧ w'.cell? ⟨g, 0, none⟩ = some (.pointer (some ⟨s, 0, none⟩)) ∧ w'.cell? ⟨g, 2, none⟩ = some (.int .i64 (first : Int))) (ds := []) #[ff,ff,ff,ff,ff,ff,ff,ff,ff] (by kernel_rfl) rfl rfl ⟨((blk_cell (blk_drew HX4.out.bx) 0).trans rfl), ((blk_cell (blk_drew HG4.out) 0).trans rfl), ((blk_cell (blk_drew HG4.out) 2).trans (congrArg (fun x => some (Value.int .i64 x)) HF.out))⟩ (fun hHeld => ?_)
 refine with_tabW q19.tab4 q19.bits4 (fun HT_ HW_ => ?_)
 refine take_ (i := 0) (N := some 19) (v := ?_) (a' := ?_) #[tt,ff,ff,ff,ff,ff,ff,ff,ff] rfl rfl (take_ofW HT_.out HW_.out (by kernel_rfl)) (fun _ _ _ h => nomatch h.1) (Or.inl ⟨by rfl, ?_⟩) hHeld ?_ ?_
 rotate_left
 ·rintro w' ⟨s0, s1, s2⟩
  go_simp
  with_reducible rfl
 rotate_left
 ·simp only [Act.put, sA, sB, sC, i64_w, i32_w]
  rfl
 refine pure_ (i := 1) (N := some 20) (v := ?_) (a' := ?_) #[tt,tt,ff,ff,ff,ff,ff,ff,ff] rfl rfl (any_of HT_.out (by kernel_rfl)) (fun _ _ _ h => nomatch h.1) (Or.inl ⟨by rfl, ?_⟩) ?_ ?_
 rotate_left
 ·intro w'
  go_simp
  with_reducible rfl
 rotate_left
 ·simp only [Act.put, sA, sB, sC, i64_w, i32_w]
  rfl
 refine pure_ (i := 2) (N := some 21) (v := ?_) (a' := ?_) #[tt,tt,tt,ff,ff,ff,ff,ff,ff] rfl rfl (any_of HT_.out (by kernel_rfl)) (fun _ _ _ h => nomatch h.1) (Or.inl ⟨by rfl, ?_⟩) ?_ ?_
 rotate_left
 ·intro w'
  go_simp
  with_reducible rfl
 rotate_left
 ·simp only [Act.put, sA, sB, sC, i64_w, i32_w]
  rfl
 refine take_ (i := 3) (N := some 22) (v := ?_) (a' := ?_) #[tt,tt,tt,tt,ff,ff,ff,ff,ff] rfl rfl (take_ofW HT_.out HW_.out (by kernel_rfl)) (fun _ _ _ h => nomatch h.1) (Or.inl ⟨by rfl, ?_⟩) hHeld ?_ ?_
 rotate_left
 ·rintro w' ⟨s0, s1, s2⟩
  go_simp
  with_reducible rfl
 rotate_left
 ·simp only [Act.put, sA, sB, sC, i64_w, i32_w]
  rfl
 refine take_ (i := 4) (N := some 23) (v := ?_) (a' := ?_) #[tt,tt,tt,tt,tt,ff,ff,ff,ff] rfl rfl (take_ofW HT_.out HW_.out (by kernel_rfl)) (fun _ _ _ h => nomatch h.1) (Or.inl ⟨by rfl, ?_⟩) hHeld ?_ ?_
 rotate_left
 ·rintro w' ⟨s0, s1, s2⟩
  go_simp
  with_reducible rfl
 rotate_left
 ·simp only [Act.put, sA, sB, sC, i64_w, i32_w]
  rfl
 refine pure_ (i := 5) (N := some 24) (v := ?_) (a' := ?_) #[tt,tt,tt,tt,tt,tt,ff,ff,ff] rfl rfl (any_of HT_.out (by kernel_rfl)) (fun _ _ _ h => nomatch h.1) (Or.inl ⟨by rfl, ?_⟩) ?_ ?_
 rotate_left
 ·intro w'
  go_simp
  with_reducible rfl
 rotate_left
 ·simp only [Act.put, sA, sB, sC, i64_w, i32_w]
  rfl
 refine pure_ (i := 6) (N := some 25) (v := ?_) (a' := ?_) #[tt,tt,tt,tt,tt,tt,tt,ff,ff] rfl rfl (any_of HT_.out (by kernel_rfl)) (fun _ _ _ h => nomatch h.1) (Or.inl ⟨by rfl, ?_⟩) ?_ ?_
 rotate_left
 ·intro w'
  go_simp
  with_reducible rfl
 rotate_left
 ·simp only [Act.put, sA, sB, sC, i64_w, i32_w]
  rfl
 refine take_ (i := 7) (N := some 26) (v := ?_) (a' := ?_) #[tt,tt,tt,tt,tt,tt,tt,tt,ff] rfl rfl (take_ofW HT_.out HW_.out (by kernel_rfl)) (fun _ _ _ h => nomatch h.1) (Or.inl ⟨by rfl, ?_⟩) hHeld ?_ ?_
 rotate_left
 ·rintro w' ⟨s0, s1, s2⟩
  go_simp
  with_reducible rfl
 rotate_left
 ·simp only [Act.put, sA, sB, sC, i64_w, i32_w]
  rfl
 refine one_ (i := 8) (N := some 27) #[tt,tt,tt,tt,tt,tt,tt,tt,tt] rfl rfl (one_of HT_.out (by kernel_rfl)) (by decide) (fun K hK => ?_)
 refine goes_ Tryz.func40 (by kernel_rfl) rfl #[.pointer (some ⟨s, 0, none⟩), .int .i64 (first : Int)] (by rfl) rfl rfl (by simp only [List.map_toArray, List.map_cons, List.map_nil]; rfl) ?_
 with_reducible refine ((show Calls _ _ _ _ _ from hsg)).mono ?_
 rintro e w4x ⟨rfl, rfl⟩
 refine ⟨_, rfl, ?_⟩
 have hb4 : Below w2.drew.heap.size w2.drew ((w2.drew.alloc (.cells #[.pointer (some ⟨s, 0, none⟩)] 23)).alloc (.cells #[.int .i64 first] 3)) := ((Below.refl _ _).alloc (Nat.le_refl _) _).alloc (by simp) _
 refine hK.out _ _ ⟨((blk_cell (blk_below (blk_drew HX4.out.bx) hb4) 0).trans rfl), ((blk_cell (blk_below (blk_drew HG4.out) hb4) 0).trans rfl), ((blk_cell (blk_below (blk_drew HG4.out) hb4) 2).trans (congrArg (fun x => some (Value.int .i64 x)) HF.out))⟩ (fun hHeld => ?_)
 clear hK K
 refine norm_ (a' := ?_) ?_ ?_
 rotate_left
 ·show Act.put _ (some 27) _ = _
  simp only [Act.put, sA, sB, sC, i64_w, i32_w]
  rfl
 refine done_ (done_of HT_.out (by kernel_rfl)) ?_
 refine ⟨rfl, ?_⟩
 clear hHeld HT_ HW_
 have hb4 : Below w2.heap.size w2 ((w2.drew.alloc (.cells #[.pointer (some ⟨s, 0, none⟩)] 23)).alloc (.cells #[.int .i64 first] 3)) := (below_drew1 (Below.refl _ w2)).trans (((Below.refl _ w2.drew).alloc (Nat.le_refl _) _).alloc (by simp) _)
 have hsz5 : ((w2.drew.alloc (.cells #[.pointer (some ⟨s, 0, none⟩)] 23)).alloc (.cells #[.int .i64 first] 3)).heap.size = w2.heap.size + 2 := by simp
 obtain ⟨bp, hbp⟩ : ∃ bp, bp = w2.heap.size := ⟨_, rfl⟩
 have hbpx : ((w2.drew.alloc (.cells #[.pointer (some ⟨s, 0, none⟩)] 23)).alloc (.cells #[.int .i64 first] 3)).heap[bp]? = some (.cells #[.pointer (some ⟨s, 0, none⟩)] 23 (0, 0)) := by rw [hbp]; exact heap_alloc2_old w2.drew _ _
 have hbnx : ((w2.drew.alloc (.cells #[.pointer (some ⟨s, 0, none⟩)] 23)).alloc (.cells #[.int .i64 first] 3)).heap[bp + 1]? = some (.cells #[.int .i64 first] 3 (0, 0)) := by rw [hbp]; exact heap_alloc2_new w2.drew _ _
 have hP0 : RecSt w g s F D { m with last := (first : Int) - 1 } pss [] ((w2.drew.alloc (.cells #[.pointer (some ⟨s, 0, none⟩)] 23)).alloc (.cells #[.int .i64 first] 3)) :=
  ⟨HM4.out.trans (F1 := fun i => i = g) (F2 := fun _ => False) (Mut.of_below hb4) (fun _ h => h) (fun _ h => h.elim), blk_below HG4.out hb4, HD4.out.below hb4, (HX4.out.below hb4).bx, (HX4.out.below hb4).r0, (HX4.out.below hb4).e0, ⟨_, (HX4.out.below hb4).o_, Kd.R_nil _ _ _ _ _⟩, ⟨_, (HX4.out.below hb4).t_, fun _ => rfl⟩, by rw [hsz5]; have := HSZ.out; omega, List.nil_prefix⟩
 have hbpl : bp = w.heap.size + 5 := by rw [hbp]; exact HSZ.out
 have hdsz : w2.drew.heap.size = bp := hbp.symm
 rw [hdsz]
 clear hb4 hsz5 hsg HX4 HG4 HD4 HM4 HSZ hbp hdsz
 generalize (w2.drew.alloc (.cells #[.pointer (some ⟨s, 0, none⟩)] 23)).alloc (.cells #[.int .i64 first] 3) = w5 at hP0 hbpx hbnx ⊢
 have hhands := segs_hands (8 - 1) (bp + 1) bp s first (by omega) F D (pss.map Sg.bytes) w5 hbnx hbpx hP0.disk HS.out (by rw [List.length_map]; exact HL.out)
 have HPB := Aside0.mk (And.intro (blk_lt hbpx) (And.intro (blk_lt hbnx) hbpl))
 clear hbpl
 gi_wp2_with fail
 refine range_handsP (F := Fence.wide) (n := 8) rfl (by omega) (gf := 66) (lb := #[.pointer (some ⟨bp + 1, 0, none⟩), .pointer (some ⟨bp, 0, none⟩)]) rfl trivial (enters_of Tryz.func66 (by kernel_rfl) rfl)
  hhands (fun A B hst => hst.elim) (fun _ => rfl) (fun h k => ⟨fun e => k.1 (h.1 e), k.2.1.trans h.2.1, Nat.le_trans h.2.2 k.2.2⟩) (fun W l o o' hl ho hc hw => ⟨fun e => e.putObj ho hc, World.putObj_heap_other (by have := HPB.out.1; rintro rfl; omega), by simp⟩)
  (RecSt w g s F D { m with last := (first : Int) - 1 } pss) (fun _ _ => False) (RecSt.own hP0.mu.size) (fun s W W' row hs hg hr => hs.elim) (fun pre x s W W' row hs hg hr => ⟨hs.n, hs.pf, R_ownFrom hs.rd hg hr⟩) hP0 (fun s A B hs hst => hst.elim) (fun s A B hs _ => hs.elim)
  (fun x a' W => a' = { tmps := #[.pointer (some ⟨g, 0, none⟩), .pointer (some ⟨w.heap.size, 0, none⟩), .pointer (some ⟨w.heap.size + 1, 0, none⟩), .pointer (some ⟨w.heap.size + 1 + 1, 0, none⟩), .pointer (some ⟨w.heap.size + 1 + 1 + 1, 0, none⟩), .pointer (some ⟨w.heap.size + 1 + 1 + 1 + 1, 0, none⟩), .int .i64 x.n, .slice x.A x.b.length x.c, undef, undef, undef, .pointer (some ⟨g, 0, none⟩), .pointer (some ⟨g, 0, none⟩), .pointer (some ⟨g, 0, none⟩), .pointer (some ⟨g, 2, none⟩), .int .i64 (first : Int), .int .i64 ((first : Int) - 1), .pointer (some ⟨g, 0, none⟩), .pointer (some ⟨g, 3, none⟩), .pointer (some ⟨g, 0, none⟩), .pointer (some ⟨g, 0, none⟩), .pointer (some ⟨g, 0, none⟩), .pointer (some ⟨s, 0, none⟩), .pointer (some ⟨g, 0, none⟩), .pointer (some ⟨g, 0, none⟩), .pointer (some ⟨g, 2, none⟩), .int .i64 (first : Int), .func (.func 66) #[] #[.pointer (some ⟨bp + 1, 0, none⟩), .pointer (some ⟨bp, 0, none⟩)], .int .i64 x.n, .slice x.A x.b.length x.c, undef, undef, undef, undef, undef, undef, undef, undef, undef, undef, undef, undef, undef, undef, undef, undef, undef, undef, undef, undef, undef, undef, undef, undef, undef, undef, undef, undef, undef, undef, undef, undef, undef, undef, undef, undef], defers := [] })
  (fun x a' s W W' row hs hg hr => hs) ?assign ?body ?done ?stop
 case assign =>
  rintro lp2 pre x W K hI hx hK
  have HKK := Aside0.mk (hK _ W (KeepsOthers.refl W) ⟨fun h => h, rfl, Nat.le_refl _⟩ hI hx rfl)
  simp only [sgA]
  clear hK hI hx hhands hP0 hbpx hbnx
  gi_wp2
  exact HKK.out
 case body =>
  rintro lp2 pre ⟨xn, xA, xc, xb⟩ a' W hI hx rfl hln
  have hln2 : pre.length < pss.length := by rw [List.length_map] at hln; exact hln
  obtain ⟨sg, hsg⟩ : ∃ sg, pss[pre.length]? = some sg := ⟨_, List.getElem?_eq_getElem hln2⟩
  have hmem : sg ∈ pss := List.mem_of_getElem? hsg
  have hxb : xb = sg.bytes := rec_bytes hx.pf hsg
  have hok := HOK.out
  have htk : pss.take (pre.length + 1) = pss.take pre.length ++ [sg] := by rw [List.take_add_one, hsg]; rfl
  have hwhole := hok.whole _ _ hsg
  have hxn : (xn : Int) = (first : Int) + pre.length := by have := hx.n; simp only at this; omega
  obtain ⟨ps, t⟩ := sg
  have hsb : Sg.bytes (ps, t) = framesB ps ++ t := rfl
  rw [hsb] at hxb
  have hbl := hok.len _ hmem
  have hu := hok.u8 _ hmem
  have hsh := hok.short _ hmem
  have hto := hok.torn _ hmem
  rw [hsb] at hbl hu
  simp only at hsh hto hwhole
  obtain ⟨v, ho, hr⟩ := hI.o_
  obtain ⟨tb, ht, htf⟩ := hI.t_
  have htb : tb = false := htf hln2
  subst htb
  have HI := Aside0.mk hI
  have HX := Aside0.mk hx
  have hrd := hx.rd
  simp only at hrd
  rw [hxb] at hrd
  have hB8 : Below w.heap.size w W ∨ True := .inr trivial
  have hgW : 1 < W.heap.size := Nat.lt_of_lt_of_le HN.out.2 hI.mu.size
  have hgn : 1 ≠ g := fun e => by
   have h1 := HN.out.1 0 (by omega)
   have h2 := blk_cell HG.out 0
   rw [← e] at h2
   rw [h1] at h2
   cases h2
  have hNW : Nib W := HN.out.1.keep (hI.mu.block _ HN.out.2 hgn)
  have hpsl : ps.length ≤ 100000 := Nat.le_trans (framesB_len ps) (Nat.le_trans (by rw [List.length_append]; exact Nat.le_add_right _ _) hbl)
  have hsc := scan_own w W 0 xA (framesB ps ++ t).length xc ps t hrd (Nat.le_trans hbl (by decide)) hu (fun p hp => Nat.le_trans (hsh p hp) (by decide)) hto hNW hgW
  obtain ⟨bl, hbl2⟩ : ∃ bl, (framesB ps ++ t).length = bl := ⟨_, rfl⟩
  obtain ⟨fl, hfl2⟩ : ∃ fl, (framesB ps).length = fl := ⟨_, rfl⟩
  obtain ⟨pn, hpn2⟩ : ∃ pn, ps.length = pn := ⟨_, rfl⟩
  have hxl : xb.length = bl := by rw [hxb]; exact hbl2
  have hflb : fl ≤ bl := by rw [← hfl2, ← hbl2, List.length_append]; exact Nat.le_add_right _ _
  have hft : t = [] → fl = bl := fun e => by rw [← hfl2, ← hbl2, e, List.append_nil]
  rw [hbl2, hfl2, hpn2] at hsc
  rw [hbl2] at hbl
  rw [hpn2] at hpsl
  have HFT := Aside0.mk (And.intro hflb (And.intro hft (And.intro hbl hpsl)))
  have HTK := Aside0.mk (And.intro htk (And.intro hwhole (And.intro hxn hln2)))
  have HPN := Aside0.mk (And.intro hpn2 (And.intro hfl2 hxl))
  have HO := Aside0.mk ho
  have HR := Aside0.mk hr
  have HT := Aside0.mk ht
  have d4 := blk_cell ht 0
  have f4 := blk_frozen ht 0
  clear hln hsg hmem hxb hok htk hwhole hxn hsb hu hsh hto ho hr htf hrd hI hx hB8 hgW hgn hNW hbl2 hfl2 hpn2 hflb hft hbl hpsl hln2 hhands hP0 hbpx hbnx
  simp only [hxl]
  clear hxl
  gi_upto_region 11 with fail
  refine ⟨trivial, ?_⟩
  gi_at_call 35
  refine (show CallsIn (Fence.wide.inRound lp2) 5 _ _ _ _ _ from callsIn_wide.2 hsc).mono ?_
  rintro e w2 ⟨⟨oA, oc, rfl, hL⟩, hb⟩
  have HLR := Aside0.mk hL
  have HLB := Aside0.mk hb
  have HT2 := Aside0.mk (blk_below ht hb)
  have d4b := blk_cell (blk_below ht hb) 0
  have f4b := blk_frozen (blk_below ht hb) 0
  clear hL hb hsc d4 f4 ht
  gi_upto_region 11 with fail
  have hbpl := HPB.out.2.2
  have kk : ∀ {i ty : Nat} {cs : Array Value}, W.heap[i]? = some (.cells cs ty (0, 0)) → i ≠ w.heap.size + 4 → (w2.setCell ⟨w.heap.size + 1 + 1 + 1 + 1, 0, none⟩ (.bool (decide (fl < bl)))).heap[i]? = some (.cells cs ty (0, 0)) := fun h hne => blk_far (p := ⟨w.heap.size + 1 + 1 + 1 + 1, 0, none⟩) (blk_below h HLB.out) hne _
  have hgl : g < w.heap.size := blk_lt HG.out
  have BX3 := Aside0.mk (kk HI.out.bx (by omega))
  have RR3 := Aside0.mk (kk HI.out.r0 (by omega))
  have EE3 := Aside0.mk (kk HI.out.e0 (by omega))
  have GG3 := Aside0.mk (kk HI.out.rl (by omega))
  have OO3 := Aside0.mk (kk HO.out (by omega))
  have TT3 := Aside0.mk (blk_put HT2.out 0 (.bool (decide (fl < bl))) (cs' := #[.bool (decide (fl < bl))]) rfl)
  have DD3 := Aside0.mk ((HI.out.disk.below HLB.out).set HT2.out (by decide) (by decide) (by decide) (by decide) 0 (.bool (decide (fl < bl))))
  have OR3 := Aside0.mk (Kd.R_set (Kd.R_below HR.out HLB.out) HT2.out (by decide) 0 (.bool (decide (fl < bl))))
  have LR3 := Aside0.mk (Kd.R_set HLR.out HT2.out (by decide) 0 (.bool (decide (fl < bl))))
  have SZ3 := Aside0.mk (show w.heap.size + 7 ≤ (w2.setCell ⟨w.heap.size + 1 + 1 + 1 + 1, 0, none⟩ (.bool (decide (fl < bl)))).heap.size by rw [World.size_setCell]; exact Nat.le_trans HI.out.sz HLB.out.size)
  have SW3 := Aside0.mk (show W.heap.size ≤ (w2.setCell ⟨w.heap.size + 1 + 1 + 1 + 1, 0, none⟩ (.bool (decide (fl < bl)))).heap.size by rw [World.size_setCell]; exact HLB.out.size)
  have BPX := Aside0.mk (show (w2.setCell ⟨w.heap.size + 1 + 1 + 1 + 1, 0, none⟩ (.bool (decide (fl < bl)))).heap[bp]? = W.heap[bp]? from (Below.heap_setCell _ ⟨w.heap.size + 1 + 1 + 1 + 1, 0, none⟩ _ _ (show bp ≠ w.heap.size + 1 + 1 + 1 + 1 by omega)).trans (HLB.out.block _ (by have := HI.out.sz; omega)))
  have KO3 := Aside0.mk ((keeps_below HLB.out).trans (KeepsOthers.setCell w2 ⟨w.heap.size + 1 + 1 + 1 + 1, 0, none⟩ (.bool (decide (fl < bl)))))
  have MU3 := Aside0.mk (show Mut (fun i => i = g) w (w2.setCell ⟨w.heap.size + 1 + 1 + 1 + 1, 0, none⟩ (.bool (decide (fl < bl)))) from Mut.set (F := fun i => i = g) (b := w.heap.size + 4) (HI.out.mu.trans (F2 := fun _ => False) (Mut.of_below HLB.out) (fun _ h => h) (fun _ h => h.elim)) (.inr (by omega)) 0 _)
  have HMZ := Aside0.mk (recM_size { m with last := (first : Int) - 1 } (pss.take pre.length) (fun x hx => rec_len (HOK.out.len x (List.mem_of_mem_take hx))))
  obtain ⟨mm, hmm⟩ : ∃ mm, recM { m with last := (first : Int) - 1 } (pss.take pre.length) = mm := ⟨_, rfl⟩
  have HMM := Aside0.mk hmm
  rw [hmm] at GG3 HMZ
  obtain ⟨rn, hrn⟩ : ∃ rn, (recL (pss.take pre.length) ++ ps).length = rn := ⟨_, rfl⟩
  have HRN := Aside0.mk hrn
  have HVL := Aside0.mk (fun k hk => show k < W.heap.size from Kd.R_lt HR.out k hk)
  have q1 : -9223372036854775808 ≤ mm.size + (fl : Int) ∧ mm.size + (fl : Int) ≤ 9223372036854775807 := by
   have h1 := HMZ.out
   have h2 := HFT.out
   have h3 := HL.out
   have h4 := HZ.out
   have h5 : (pss.take pre.length).length ≤ pss.length := by rw [List.length_take]; omega
   simp only at h1
   rw [h4] at h1
   generalize (pss.take pre.length).length = tl at h1 h5
   clear hmm hrn
   omega
  have HRL := Aside0.mk (show ((recL (pss.take pre.length)).length + pn) * 24 ≤ 140737488355328 from by
   have h1 := recL_len (pss.take pre.length) (fun x hx => rec_len (HOK.out.len x (List.mem_of_mem_take hx)))
   have h2 : (pss.take pre.length).length ≤ pss.length := by rw [List.length_take]; omega
   have h3 := HL.out
   have h4 := HFT.out.2.2.2
   generalize (recL (pss.take pre.length)).length = a at h1 ⊢
   generalize (pss.take pre.length).length = b at h1 h2
   clear hmm hrn
   omega)
  clear hmm hrn kk d4b f4b hbpl
  have hwz : wrap64 (mm.size + (fl : Int)) = mm.size + fl := wrap_in q1.1 q1.2
  clear q1
  generalize w2.setCell ⟨w.heap.size + 1 + 1 + 1 + 1, 0, none⟩ (.bool (decide (fl < bl))) = w3 at *
  refine wpIn_mono (Q := fun e a w => e = .normal ∧ _) ?_ (fun e a w h => h.2)
  refine startR_ (m := 24) (S := fun w' => w'.cell? ⟨w.heap.size, 0, none⟩ = some (.pointer (some ⟨g, 0, none⟩))) (ds := []) #[ff,ff,ff,ff,ff,ff,ff,ff,ff,ff,ff,ff,ff,ff,ff,ff,ff,ff,ff,ff,ff,ff,ff,ff] (by kernel_rfl) (fun _ _ h => nomatch h.1) (by kernel_rfl) rfl rfl (((blk_cell (blk_drew BX3.out) 0).trans rfl)) (fun hHeld => ?_)
  refine pure_ (i := 4) (N := some 49) (v := ?_) (a' := ?_) #[ff,ff,ff,ff,tt,ff,ff,ff,ff,ff,ff,ff,ff,ff,ff,ff,ff,ff,ff,ff,ff,ff,ff,ff] rfl rfl (by kernel_rfl) (fun _ _ _ h => nomatch h.1) (Or.inl ⟨by rfl, ?_⟩) ?_ ?_
  rotate_left
  ·intro w'
   go_simp
   with_reducible rfl
  rotate_left
  ·simp only [Act.put, sA, sB, sC, i64_w, i32_w]
   rfl
  refine pure_ (i := 6) (N := some 51) (v := ?_) (a' := ?_) #[ff,ff,ff,ff,tt,ff,tt,ff,ff,ff,ff,ff,ff,ff,ff,ff,ff,ff,ff,ff,ff,ff,ff,ff] rfl rfl (by kernel_rfl) (fun _ _ _ h => nomatch h.1) (Or.inl ⟨by rfl, ?_⟩) ?_ ?_
  rotate_left
  ·intro w'
   go_simp
   with_reducible rfl
  rotate_left
  ·simp only [Act.put, sA, sB, sC, i64_w, i32_w]
   rfl
  refine pure_ (i := 7) (N := some 52) (v := ?_) (a' := ?_) #[ff,ff,ff,ff,tt,ff,tt,tt,ff,ff,ff,ff,ff,ff,ff,ff,ff,ff,ff,ff,ff,ff,ff,ff] rfl rfl (by kernel_rfl) (fun _ _ _ h => nomatch h.1) (Or.inl ⟨by rfl, ?_⟩) ?_ ?_
  rotate_left
  ·intro w'
   go_simp
   with_reducible rfl
  rotate_left
  ·simp only [Act.put, sA, sB, sC, i64_w, i32_w]
   rfl
  refine pure_ (i := 12) (N := some 57) (v := ?_) (a' := ?_) #[ff,ff,ff,ff,tt,ff,tt,tt,ff,ff,ff,ff,tt,ff,ff,ff,ff,ff,ff,ff,ff,ff,ff,ff] rfl rfl (by kernel_rfl) (fun _ _ _ h => nomatch h.1) (Or.inl ⟨by rfl, ?_⟩) ?_ ?_
  rotate_left
  ·intro w'
   go_simp
   with_reducible rfl
  rotate_left
  ·simp only [Act.put, sA, sB, sC, i64_w, i32_w]
   rfl
  refine take_ (i := 0) (N := some 45) (v := ?_) (a' := ?_) #[tt,ff,ff,ff,tt,ff,tt,tt,ff,ff,ff,ff,tt,ff,ff,ff,ff,ff,ff,ff,ff,ff,ff,ff] rfl rfl (by kernel_rfl) (fun _ _ _ h => nomatch h.1) (Or.inl ⟨by rfl, ?_⟩) hHeld ?_ ?_
  rotate_left
  ·intro w' s0
   go_simp
   with_reducible rfl
  rotate_left
  ·simp only [Act.put, sA, sB, sC, i64_w, i32_w]
   rfl
  refine take_ (i := 1) (N := some 46) (v := ?_) (a' := ?_) #[tt,tt,ff,ff,tt,ff,tt,tt,ff,ff,ff,ff,tt,ff,ff,ff,ff,ff,ff,ff,ff,ff,ff,ff] rfl rfl (by kernel_rfl) (fun _ _ _ h => nomatch h.1) (Or.inl ⟨by rfl, ?_⟩) hHeld ?_ ?_
  rotate_left
  ·intro w' s0
   go_simp
   with_reducible rfl
  rotate_left
  ·simp only [Act.put, sA, sB, sC, i64_w, i32_w]
   rfl
  refine take_ (i := 2) (N := some 47) (v := ?_) (a' := ?_) #[tt,tt,tt,ff,tt,ff,tt,tt,ff,ff,ff,ff,tt,ff,ff,ff,ff,ff,ff,ff,ff,ff,ff,ff] rfl rfl (by kernel_rfl) (fun _ _ _ h => nomatch h.1) (Or.inl ⟨by rfl, ?_⟩) hHeld ?_ ?_
  rotate_left
  ·intro w' s0
   go_simp
   with_reducible rfl
  rotate_left
  ·simp only [Act.put, sA, sB, sC, i64_w, i32_w]
   rfl
  refine take_ (i := 8) (N := some 53) (v := ?_) (a' := ?_) #[tt,tt,tt,ff,tt,ff,tt,tt,tt,ff,ff,ff,tt,ff,ff,ff,ff,ff,ff,ff,ff,ff,ff,ff] rfl rfl (by kernel_rfl) (fun _ _ _ h => nomatch h.1) (Or.inl ⟨by rfl, ?_⟩) hHeld ?_ ?_
  rotate_left
  ·intro w' s0
   go_simp
   with_reducible rfl
  rotate_left
  ·simp only [Act.put, sA, sB, sC, i64_w, i32_w]
   rfl
  refine pure_ (i := 9) (N := some 54) (v := ?_) (a' := ?_) #[tt,tt,tt,ff,tt,ff,tt,tt,tt,tt,ff,ff,tt,ff,ff,ff,ff,ff,ff,ff,ff,ff,ff,ff] rfl rfl (by kernel_rfl) (fun _ _ _ h => nomatch h.1) (Or.inl ⟨by rfl, ?_⟩) ?_ ?_
  rotate_left
  ·intro w'
   go_simp
   with_reducible rfl
  rotate_left
  ·simp only [Act.put, sA, sB, sC, i64_w, i32_w]
   rfl
  refine pure_ (i := 10) (N := some 55) (v := ?_) (a' := ?_) #[tt,tt,tt,ff,tt,ff,tt,tt,tt,tt,tt,ff,tt,ff,ff,ff,ff,ff,ff,ff,ff,ff,ff,ff] rfl rfl (by kernel_rfl) (fun _ _ _ h => nomatch h.1) (Or.inl ⟨by rfl, ?_⟩) ?_ ?_
  rotate_left
  ·intro w'
   go_simp
   with_reducible rfl
  rotate_left
  ·simp only [Act.put, sA, sB, sC, i64_w, i32_w]
   rfl
  refine join_ (σ := Option Addr × Nat) 10 #[tt,tt,tt,tt,tt,tt,tt,tt,tt,tt,tt,tt,tt,tt,ff,ff,ff,ff,ff,ff,ff,ff,ff,ff] (fun s_ => [(48, v), (50, .slice s_.1 rn s_.2), (56, .int .i64 mm.size), (58, .int .i64 (wrap64 (mm.size + (fl : Int))))]) (fun s_ w' => w'.cell? ⟨w.heap.size, 0, none⟩ = some (.pointer (some ⟨g, 0, none⟩)) ∧ RecMid (w.heap.size + 7) w3.drew (recL (pss.take pre.length) ++ ps) rn s_ w') ?_ ?_
  rotate_left
  ·intro hCont
   refine two_ (i := 3) (j := 11) (Ni := some 48) (Nj := some 56) #[tt,tt,tt,tt,tt,ff,tt,tt,tt,tt,tt,ff,tt,ff,ff,ff,ff,ff,ff,ff,ff,ff,ff,ff] #[tt,tt,tt,ff,tt,ff,tt,tt,tt,tt,tt,tt,tt,ff,ff,ff,ff,ff,ff,ff,ff,ff,ff,ff] rfl rfl rfl rfl (by kernel_rfl) (by decide) (by decide) (fun K hK => ?_) (fun K hK => ?_)
   ·skip
    have d48 := blk_cell (blk_drew OO3.out) 0
    refine value_ (w1 := ?_) (v := ?_) (by rfl) rfl ?_ ?_
    rotate_left 2
    ·go_simp
     constructor
     ·rfl
     ·rfl
    clear d48
    refine hK.out _ _ (((blk_cell (blk_drew BX3.out) 0).trans rfl)) (fun hHeld => ?_)
    clear hK K
    refine norm_ (a' := ?_) ?_ ?_
    rotate_left
    ·show Act.put _ (some 48) _ = _
     simp only [Act.put, sA, sB, sC, i64_w, i32_w]
     rfl
    refine two_ (i := 5) (j := 11) (Ni := some 50) (Nj := some 56) #[tt,tt,tt,tt,tt,tt,tt,tt,tt,tt,tt,ff,tt,ff,ff,ff,ff,ff,ff,ff,ff,ff,ff,ff] #[tt,tt,tt,tt,tt,ff,tt,tt,tt,tt,tt,tt,tt,ff,ff,ff,ff,ff,ff,ff,ff,ff,ff,ff] rfl rfl rfl rfl (by kernel_rfl) (by decide) (by decide) (fun K hK => ?_) (fun K hK => ?_)
    ·skip
     obtain ⟨lA, lc, hle, hll, hlr⟩ := OwnRow.reads (Kd.R_bound (Kd.R_below LR3.out (below_drew1 (Below.refl _ w3)))).2
     have hleq : lA = oA ∧ lc = oc := by injection hle with h1 _ h3; exact ⟨h1.symm, h3.symm⟩
     obtain ⟨rfl, rfl⟩ := hleq
     rw [HPN.out.1] at hlr
     refine Kd.R_append_rows_step KBs (w0 := w3.drew) (w.heap.size + 7) (by rfl) (.tmp 48) (.tmp 49) 29 22 (.slice none 0 0) 24 rfl Tryz.underlying29 infoBs rfl (by decide) (by decide) v (recL (pss.take pre.length)) ps lA pn lc (fun _ => True) (fun k => W.heap.size ≤ k) rfl rfl (Kd.R_below OR3.out (below_drew1 (Below.refl _ w3))) hlr (fun x cs hx => KBs.M_lower HI.out.sz (KBs.M_mono (fun k hk => hk.1.2.1) hx)) (fun k hk => ⟨trivial, fun e => by have := HVL.out k e.symm; omega⟩) (fun _ _ => trivial) (Below.refl _ _) SZ3.out HRL.out ?_
     intro v1 w7x hr hb hg hat
     obtain ⟨A1, c1, e1⟩ := Kd.R_slice hr
     rw [HRN.out] at e1
     subst e1
     have hMID := Aside0.mk (show RecMid (w.heap.size + 7) w3.drew (recL (pss.take pre.length) ++ ps) rn (A1, c1) w7x from ⟨hb, hr, keeps_grown hg (Kd.R_own (Kd.R_below OR3.out (below_drew1 (Below.refl _ w3)))).choose_spec, fun i cs hc => hg.block i (blk_lt hc) (Kd.R_ne (Kd.R_below OR3.out (below_drew1 (Below.refl _ w3))) hc (by decide))⟩)
     clear hr hb hg hat hle hll hlr
     refine hK.out _ _ (((blk_cell ((hMID.out.hb.block _ (by omega)).trans (blk_drew BX3.out)) 0).trans rfl)) (fun hHeld => ?_)
     clear hK K
     refine norm_ (a' := ?_) ?_ ?_
     rotate_left
     ·show Act.put _ (some 50) _ = _
      simp only [Act.put, sA, sB, sC, i64_w, i32_w]
      rfl
     refine one_ (i := 11) (N := some 56) #[tt,tt,tt,tt,tt,tt,tt,tt,tt,tt,tt,tt,tt,ff,ff,ff,ff,ff,ff,ff,ff,ff,ff,ff] rfl rfl (by kernel_rfl) (by decide) (fun K hK => ?_)
     have d56 : w7x.cell? ⟨g, 4, none⟩ = some (.int .i64 mm.size) := (blk_cell ((hMID.out.hb.block _ (by omega)).trans (blk_drew GG3.out)) 4).trans rfl
     refine value_ (w1 := ?_) (v := ?_) (by rfl) rfl ?_ ?_
     rotate_left 2
     ·go_simp
      constructor
      ·rfl
      ·rfl
     clear d56
     refine hK.out _ _ (((blk_cell ((hMID.out.hb.block _ (by omega)).trans (blk_drew BX3.out)) 0).trans rfl)) (fun hHeld => ?_)
     clear hK K
     refine norm_ (a' := ?_) ?_ ?_
     rotate_left
     ·show Act.put _ (some 56) _ = _
      simp only [Act.put, sA, sB, sC, i64_w, i32_w]
      rfl
     refine pure_ (i := 13) (N := some 58) (v := ?_) (a' := ?_) #[tt,tt,tt,tt,tt,tt,tt,tt,tt,tt,tt,tt,tt,tt,ff,ff,ff,ff,ff,ff,ff,ff,ff,ff] rfl rfl (by kernel_rfl) (fun _ _ _ h => nomatch h.1) (Or.inl ⟨by rfl, ?_⟩) ?_ ?_
     rotate_left
     ·intro w'
      go_simp
      with_reducible rfl
     rotate_left
     ·simp only [Act.put, sA, sB, sC, i64_w, i32_w]
      rfl
     exact norm_ (by simp only [putAll, Act.put, sA, sB, sC]) (hCont (A1, c1) _ ⟨((blk_cell ((hMID.out.hb.block _ (by omega)).trans (blk_drew BX3.out)) 0).trans rfl), hMID.out⟩)
    ·skip
     have d56 : w3.drew.cell? ⟨g, 4, none⟩ = some (.int .i64 mm.size) := (blk_cell (blk_drew GG3.out) 4).trans rfl
     refine value_ (w1 := ?_) (v := ?_) (by rfl) rfl ?_ ?_
     rotate_left 2
     ·go_simp
      constructor
      ·rfl
      ·rfl
     clear d56
     refine hK.out _ _ (((blk_cell (blk_drew BX3.out) 0).trans rfl)) (fun hHeld => ?_)
     clear hK K
     refine norm_ (a' := ?_) ?_ ?_
     rotate_left
     ·show Act.put _ (some 56) _ = _
      simp only [Act.put, sA, sB, sC, i64_w, i32_w]
      rfl
     refine pure_ (i := 13) (N := some 58) (v := ?_) (a' := ?_) #[tt,tt,tt,tt,tt,ff,tt,tt,tt,tt,tt,tt,tt,tt,ff,ff,ff,ff,ff,ff,ff,ff,ff,ff] rfl rfl (by kernel_rfl) (fun _ _ _ h => nomatch h.1) (Or.inl ⟨by rfl, ?_⟩) ?_ ?_
     rotate_left
     ·intro w'
      go_simp
      with_reducible rfl
     rotate_left
     ·simp only [Act.put, sA, sB, sC, i64_w, i32_w]
      rfl
     refine one_ (i := 5) (N := some 50) #[tt,tt,tt,tt,tt,tt,tt,tt,tt,tt,tt,tt,tt,tt,ff,ff,ff,ff,ff,ff,ff,ff,ff,ff] rfl rfl (by kernel_rfl) (by decide) (fun K hK => ?_)
     obtain ⟨lA, lc, hle, hll, hlr⟩ := OwnRow.reads (Kd.R_bound (Kd.R_below LR3.out (below_drew1 (Below.refl _ w3)))).2
     have hleq : lA = oA ∧ lc = oc := by injection hle with h1 _ h3; exact ⟨h1.symm, h3.symm⟩
     obtain ⟨rfl, rfl⟩ := hleq
     rw [HPN.out.1] at hlr
     refine Kd.R_append_rows_step KBs (w0 := w3.drew) (w.heap.size + 7) (by rfl) (.tmp 48) (.tmp 49) 29 22 (.slice none 0 0) 24 rfl Tryz.underlying29 infoBs rfl (by decide) (by decide) v (recL (pss.take pre.length)) ps lA pn lc (fun _ => True) (fun k => W.heap.size ≤ k) rfl rfl (Kd.R_below OR3.out (below_drew1 (Below.refl _ w3))) hlr (fun x cs hx => KBs.M_lower HI.out.sz (KBs.M_mono (fun k hk => hk.1.2.1) hx)) (fun k hk => ⟨trivial, fun e => by have := HVL.out k e.symm; omega⟩) (fun _ _ => trivial) (Below.refl _ _) SZ3.out HRL.out ?_
     intro v1 w7x hr hb hg hat
     obtain ⟨A1, c1, e1⟩ := Kd.R_slice hr
     rw [HRN.out] at e1
     subst e1
     have hMID := Aside0.mk (show RecMid (w.heap.size + 7) w3.drew (recL (pss.take pre.length) ++ ps) rn (A1, c1) w7x from ⟨hb, hr, keeps_grown hg (Kd.R_own (Kd.R_below OR3.out (below_drew1 (Below.refl _ w3)))).choose_spec, fun i cs hc => hg.block i (blk_lt hc) (Kd.R_ne (Kd.R_below OR3.out (below_drew1 (Below.refl _ w3))) hc (by decide))⟩)
     clear hr hb hg hat hle hll hlr
     refine hK.out _ _ (((blk_cell ((hMID.out.hb.block _ (by omega)).trans (blk_drew BX3.out)) 0).trans rfl)) (fun hHeld => ?_)
     clear hK K
     refine norm_ (a' := ?_) ?_ ?_
     rotate_left
     ·show Act.put _ (some 50) _ = _
      simp only [Act.put, sA, sB, sC, i64_w, i32_w]
      rfl
     exact norm_ (by simp only [putAll, Act.put, sA, sB, sC]) (hCont (A1, c1) _ ⟨((blk_cell ((hMID.out.hb.block _ (by omega)).trans (blk_drew BX3.out)) 0).trans rfl), hMID.out⟩)
   ·skip
    have d56 : w3.drew.cell? ⟨g, 4, none⟩ = some (.int .i64 mm.size) := (blk_cell (blk_drew GG3.out) 4).trans rfl
    refine value_ (w1 := ?_) (v := ?_) (by rfl) rfl ?_ ?_
    rotate_left 2
    ·go_simp
     constructor
     ·rfl
     ·rfl
    clear d56
    refine hK.out _ _ (((blk_cell (blk_drew BX3.out) 0).trans rfl)) (fun hHeld => ?_)
    clear hK K
    refine norm_ (a' := ?_) ?_ ?_
    rotate_left
    ·show Act.put _ (some 56) _ = _
     simp only [Act.put, sA, sB, sC, i64_w, i32_w]
     rfl
    refine pure_ (i := 13) (N := some 58) (v := ?_) (a' := ?_) #[tt,tt,tt,ff,tt,ff,tt,tt,tt,tt,tt,tt,tt,tt,ff,ff,ff,ff,ff,ff,ff,ff,ff,ff] rfl rfl (by kernel_rfl) (fun _ _ _ h => nomatch h.1) (Or.inl ⟨by rfl, ?_⟩) ?_ ?_
    rotate_left
    ·intro w'
     go_simp
     with_reducible rfl
    rotate_left
    ·simp only [Act.put, sA, sB, sC, i64_w, i32_w]
     rfl
    refine one_ (i := 3) (N := some 48) #[tt,tt,tt,tt,tt,ff,tt,tt,tt,tt,tt,tt,tt,tt,ff,ff,ff,ff,ff,ff,ff,ff,ff,ff] rfl rfl (by kernel_rfl) (by decide) (fun K hK => ?_)
    have d48 := blk_cell (blk_drew OO3.out) 0
    refine value_ (w1 := ?_) (v := ?_) (by rfl) rfl ?_ ?_
    rotate_left 2
    ·go_simp
     constructor
     ·rfl
     ·rfl
    clear d48
    refine hK.out _ _ (((blk_cell (blk_drew BX3.out) 0).trans rfl)) (fun hHeld => ?_)
    clear hK K
    refine norm_ (a' := ?_) ?_ ?_
    rotate_left
    ·show Act.put _ (some 48) _ = _
     simp only [Act.put, sA, sB, sC, i64_w, i32_w]
     rfl
    refine one_ (i := 5) (N := some 50) #[tt,tt,tt,tt,tt,tt,tt,tt,tt,tt,tt,tt,tt,tt,ff,ff,ff,ff,ff,ff,ff,ff,ff,ff] rfl rfl (by kernel_rfl) (by decide) (fun K hK => ?_)
    obtain ⟨lA, lc, hle, hll, hlr⟩ := OwnRow.reads (Kd.R_bound (Kd.R_below LR3.out (below_drew1 (Below.refl _ w3)))).2
    have hleq : lA = oA ∧ lc = oc := by injection hle with h1 _ h3; exact ⟨h1.symm, h3.symm⟩
    obtain ⟨rfl, rfl⟩ := hleq
    rw [HPN.out.1] at hlr
    refine Kd.R_append_rows_step KBs (w0 := w3.drew) (w.heap.size + 7) (by rfl) (.tmp 48) (.tmp 49) 29 22 (.slice none 0 0) 24 rfl Tryz.underlying29 infoBs rfl (by decide) (by decide) v (recL (pss.take pre.length)) ps lA pn lc (fun _ => True) (fun k => W.heap.size ≤ k) rfl rfl (Kd.R_below OR3.out (below_drew1 (Below.refl _ w3))) hlr (fun x cs hx => KBs.M_lower HI.out.sz (KBs.M_mono (fun k hk => hk.1.2.1) hx)) (fun k hk => ⟨trivial, fun e => by have := HVL.out k e.symm; omega⟩) (fun _ _ => trivial) (Below.refl _ _) SZ3.out HRL.out ?_
    intro v1 w7x hr hb hg hat
    obtain ⟨A1, c1, e1⟩ := Kd.R_slice hr
    rw [HRN.out] at e1
    subst e1
    have hMID := Aside0.mk (show RecMid (w.heap.size + 7) w3.drew (recL (pss.take pre.length) ++ ps) rn (A1, c1) w7x from ⟨hb, hr, keeps_grown hg (Kd.R_own (Kd.R_below OR3.out (below_drew1 (Below.refl _ w3)))).choose_spec, fun i cs hc => hg.block i (blk_lt hc) (Kd.R_ne (Kd.R_below OR3.out (below_drew1 (Below.refl _ w3))) hc (by decide))⟩)
    clear hr hb hg hat hle hll hlr
    refine hK.out _ _ (((blk_cell ((hMID.out.hb.block _ (by omega)).trans (blk_drew BX3.out)) 0).trans rfl)) (fun hHeld => ?_)
    clear hK K
    refine norm_ (a' := ?_) ?_ ?_
    rotate_left
    ·show Act.put _ (some 50) _ = _
     simp only [Act.put, sA, sB, sC, i64_w, i32_w]
     rfl
    exact norm_ (by simp only [putAll, Act.put, sA, sB, sC]) (hCont (A1, c1) _ ⟨((blk_cell ((hMID.out.hb.block _ (by omega)).trans (blk_drew BX3.out)) 0).trans rfl), hMID.out⟩)
  rintro ⟨A1, c1⟩ w7x ⟨hHeld, hM⟩
  have hMID := Aside0.mk hM
  clear hM
  refine norm_ (a' := ?_) ?_ ?_
  rotate_left
  ·simp only [putAll, Act.put, sA, sB, sC]
   rfl
  refine one_ (i := 14) (N := none) #[tt,tt,tt,tt,tt,tt,tt,tt,tt,tt,tt,tt,tt,tt,tt,ff,ff,ff,ff,ff,ff,ff,ff,ff] rfl rfl (by kernel_rfl) (by decide) (fun K hK => ?_)
  have o7 := (hMID.out.hb.block _ (by omega)).trans (blk_drew OO3.out)
  have g7 := (hMID.out.hb.block _ (by omega)).trans (blk_drew GG3.out)
  have b7 := (hMID.out.hb.block _ (by omega)).trans (blk_drew BX3.out)
  have d14 := blk_cell o7 0
  have f14 := blk_frozen o7 0
  refine skip_ (w1 := ?_) (by rfl) rfl ?_ ?_
  rotate_left
  ·go_simp
   rfl
  have g14 := Aside0.mk (blk_far (p := ⟨w.heap.size + 3, 0, none⟩) g7 (show g ≠ w.heap.size + 3 by omega) (.slice A1 rn c1))
  have b14 := Aside0.mk (blk_far (p := ⟨w.heap.size + 3, 0, none⟩) b7 (show w.heap.size ≠ w.heap.size + 3 by omega) (.slice A1 rn c1))
  clear o7 g7 b7 d14 f14
  refine hK.out _ _ (((blk_cell b14.out 0).trans rfl)) (fun hHeld => ?_)
  clear hK K
  refine pure_ (i := 15) (N := some 59) (v := ?_) (a' := ?_) #[tt,tt,tt,tt,tt,tt,tt,tt,tt,tt,tt,tt,tt,tt,tt,tt,ff,ff,ff,ff,ff,ff,ff,ff] rfl rfl (by kernel_rfl) (fun _ _ _ h => nomatch h.1) (Or.inl ⟨by rfl, ?_⟩) ?_ ?_
  rotate_left
  ·intro w'
   go_simp
   with_reducible rfl
  rotate_left
  ·simp only [Act.put, sA, sB, sC, i64_w, i32_w]
   rfl
  refine pure_ (i := 16) (N := some 60) (v := ?_) (a' := ?_) #[tt,tt,tt,tt,tt,tt,tt,tt,tt,tt,tt,tt,tt,tt,tt,tt,tt,ff,ff,ff,ff,ff,ff,ff] rfl rfl (by kernel_rfl) (fun _ _ _ h => nomatch h.1) (Or.inl ⟨by rfl, ?_⟩) ?_ ?_
  rotate_left
  ·intro w'
   go_simp
   with_reducible rfl
  rotate_left
  ·simp only [Act.put, sA, sB, sC, i64_w, i32_w]
   rfl
  refine one_ (i := 17) (N := none) #[tt,tt,tt,tt,tt,tt,tt,tt,tt,tt,tt,tt,tt,tt,tt,tt,tt,tt,ff,ff,ff,ff,ff,ff] rfl rfl (by kernel_rfl) (by decide) (fun K hK => ?_)
  have d17 := blk_cell g14.out 3
  have f17 := blk_frozen g14.out 3
  refine skip_ (w1 := ?_) (by rfl) rfl ?_ ?_
  rotate_left
  ·go_simp
   rfl
  have g17 := Aside0.mk (blk_put g14.out 3 (.int .i64 xn) (cs' := rlC s { mm with last := (xn : Int) }) rfl)
  have b17 := Aside0.mk (blk_far (p := ⟨g, 3, none⟩) b14.out (show w.heap.size ≠ g by omega) (.int .i64 xn))
  clear d17 f17
  refine hK.out _ _ (((blk_cell b17.out 0).trans rfl)) (fun hHeld => ?_)
  clear hK K
  refine pure_ (i := 18) (N := some 61) (v := ?_) (a' := ?_) #[tt,tt,tt,tt,tt,tt,tt,tt,tt,tt,tt,tt,tt,tt,tt,tt,tt,tt,tt,ff,ff,ff,ff,ff] rfl rfl (by kernel_rfl) (fun _ _ _ h => nomatch h.1) (Or.inl ⟨by rfl, ?_⟩) ?_ ?_
  rotate_left
  ·intro w'
   go_simp
   with_reducible rfl
  rotate_left
  ·simp only [Act.put, sA, sB, sC, i64_w, i32_w]
   rfl
  refine pure_ (i := 19) (N := some 62) (v := ?_) (a' := ?_) #[tt,tt,tt,tt,tt,tt,tt,tt,tt,tt,tt,tt,tt,tt,tt,tt,tt,tt,tt,tt,ff,ff,ff,ff] rfl rfl (by kernel_rfl) (fun _ _ _ h => nomatch h.1) (Or.inl ⟨by rfl, ?_⟩) ?_ ?_
  rotate_left
  ·intro w'
   go_simp
   with_reducible rfl
  rotate_left
  ·simp only [Act.put, sA, sB, sC, i64_w, i32_w]
   rfl
  refine one_ (i := 20) (N := none) #[tt,tt,tt,tt,tt,tt,tt,tt,tt,tt,tt,tt,tt,tt,tt,tt,tt,tt,tt,tt,tt,ff,ff,ff] rfl rfl (by kernel_rfl) (by decide) (fun K hK => ?_)
  have d20 := blk_cell g17.out 5
  have f20 := blk_frozen g17.out 5
  refine skip_ (w1 := ?_) (by rfl) rfl ?_ ?_
  rotate_left
  ·go_simp
   rfl
  have g20 := Aside0.mk (blk_put g17.out 5 (.int .i64 fl) (cs' := rlC s { mm with last := (xn : Int), tail := (fl : Int) }) rfl)
  have b20 := Aside0.mk (blk_far (p := ⟨g, 5, none⟩) b17.out (show w.heap.size ≠ g by omega) (.int .i64 fl))
  clear d20 f20
  refine hK.out _ _ (((blk_cell b20.out 0).trans rfl)) (fun hHeld => ?_)
  clear hK K
  refine pure_ (i := 21) (N := some 63) (v := ?_) (a' := ?_) #[tt,tt,tt,tt,tt,tt,tt,tt,tt,tt,tt,tt,tt,tt,tt,tt,tt,tt,tt,tt,tt,tt,ff,ff] rfl rfl (by kernel_rfl) (fun _ _ _ h => nomatch h.1) (Or.inl ⟨by rfl, ?_⟩) ?_ ?_
  rotate_left
  ·intro w'
   go_simp
   with_reducible rfl
  rotate_left
  ·simp only [Act.put, sA, sB, sC, i64_w, i32_w]
   rfl
  refine pure_ (i := 22) (N := some 64) (v := ?_) (a' := ?_) #[tt,tt,tt,tt,tt,tt,tt,tt,tt,tt,tt,tt,tt,tt,tt,tt,tt,tt,tt,tt,tt,tt,tt,ff] rfl rfl (by kernel_rfl) (fun _ _ _ h => nomatch h.1) (Or.inl ⟨by rfl, ?_⟩) ?_ ?_
  rotate_left
  ·intro w'
   go_simp
   with_reducible rfl
  rotate_left
  ·simp only [Act.put, sA, sB, sC, i64_w, i32_w]
   rfl
  refine one_ (i := 23) (N := none) #[tt,tt,tt,tt,tt,tt,tt,tt,tt,tt,tt,tt,tt,tt,tt,tt,tt,tt,tt,tt,tt,tt,tt,tt] rfl rfl (by kernel_rfl) (by decide) (fun K hK => ?_)
  have d23 := blk_cell g20.out 4
  have f23 := blk_frozen g20.out 4
  refine skip_ (w1 := ?_) (by rfl) rfl ?_ ?_
  rotate_left
  ·go_simp
   rfl
  have g23 := Aside0.mk (blk_put g20.out 4 (.int .i64 (mm.size + (fl : Int))) (cs' := rlC s { mm with last := (xn : Int), tail := (fl : Int), size := mm.size + (fl : Int) }) rfl)
  have b23 := Aside0.mk (blk_far (p := ⟨g, 4, none⟩) b20.out (show w.heap.size ≠ g by omega) (.int .i64 (mm.size + (fl : Int))))
  clear d23 f23
  refine hK.out _ _ (((blk_cell b23.out 0).trans rfl)) (fun hHeld => ?_)
  clear hK K
  refine done_ (by kernel_rfl) ?_
  refine ⟨rfl, ?_⟩
  clear hHeld
  have hpre : (recM { m with last := (first : Int) - 1 } (pss.take (pre ++ [(⟨xn, xA, xc, xb⟩ : SgX)]).length)) = { mm with last := (xn : Int), tail := (fl : Int), size := mm.size + (fl : Int) } := by
   rw [List.length_append, List.length_singleton, HTK.out.1, recM_snoc, HMM.out, HPN.out.2.1]
   have h1 := (recM_last { m with last := (first : Int) - 1 } (pss.take pre.length)).1
   rw [HMM.out] at h1
   have h2 := HTK.out.2.2
   have h3 : (pss.take pre.length).length = pre.length := by rw [List.length_take]; omega
   rw [h3] at h1
   simp only at h1
   rw [show mm.last + 1 = (xn : Int) by omega]
  have hrl : recL (pss.take (pre ++ [(⟨xn, xA, xc, xb⟩ : SgX)]).length) = recL (pss.take pre.length) ++ ps := by
   rw [List.length_append, List.length_singleton, HTK.out.1, recL_snoc]
  have hbpl := HPB.out.2.2
  have hF : ∀ i, F i → i < w.heap.size := fun i hi => HD.out.lt i hi
  have h7 : ∀ {i ty : Nat} {cs : Array Value}, w3.heap[i]? = some (.cells cs ty (0, 0)) → i < w.heap.size + 7 → w7x.heap[i]? = some (.cells cs ty (0, 0)) := fun h hl => (hMID.out.hb.block _ hl).trans (blk_drew h)
  have D7 : SumpAt w7x s F D := (DD3.out.below (w' := w3.drew) (below_drew1 (Below.refl _ w3))).keep (fun i hi => hMID.out.hb.block i (by have := hF i hi; omega)) (fun i cs hc => hMID.out.u8 i cs hc)
  have o7 := h7 OO3.out (by omega)
  have D14 := D7.set o7 (by decide) (by decide) (by decide) (by decide) 0 (.slice A1 rn c1)
  have D17 := D14.set g14.out (by decide) (by decide) (by decide) (by decide) 3 (.int .i64 xn)
  have D20 := D17.set g17.out (by decide) (by decide) (by decide) (by decide) 5 (.int .i64 fl)
  have D23 := D20.set g20.out (by decide) (by decide) (by decide) (by decide) 4 (.int .i64 (mm.size + (fl : Int)))
  have R14 := Kd.R_set hMID.out.rd o7 (by decide) 0 (.slice A1 rn c1)
  have R17 := Kd.R_set R14 g14.out (by decide) 3 (.int .i64 xn)
  have R20 := Kd.R_set R17 g17.out (by decide) 5 (.int .i64 fl)
  have R23 := Kd.R_set R20 g20.out (by decide) 4 (.int .i64 (mm.size + (fl : Int)))
  have far : ∀ {i ty : Nat} {cs : Array Value}, w3.heap[i]? = some (.cells cs ty (0, 0)) → i < w.heap.size + 7 → i ≠ w.heap.size + 3 → i ≠ g → ((((w7x.setCell ⟨w.heap.size + 3, 0, none⟩ (.slice A1 rn c1)).setCell ⟨g, 3, none⟩ (.int .i64 xn)).setCell ⟨g, 5, none⟩ (.int .i64 fl)).setCell ⟨g, 4, none⟩ (.int .i64 (mm.size + (fl : Int)))).heap[i]? = some (.cells cs ty (0, 0)) := fun h h1 h2 h3 =>
   blk_far (p := ⟨g, 4, none⟩) (blk_far (p := ⟨g, 5, none⟩) (blk_far (p := ⟨g, 3, none⟩) (blk_far (p := ⟨w.heap.size + 3, 0, none⟩) (h7 h h1) h2 _) h3 _) h3 _) h3 _
  have hO : ((((w7x.setCell ⟨w.heap.size + 3, 0, none⟩ (.slice A1 rn c1)).setCell ⟨g, 3, none⟩ (.int .i64 xn)).setCell ⟨g, 5, none⟩ (.int .i64 fl)).setCell ⟨g, 4, none⟩ (.int .i64 (mm.size + (fl : Int)))).heap[w.heap.size + 3]? = some (.cells #[.slice A1 rn c1] 29 (0, 0)) :=
   blk_far (p := ⟨g, 4, none⟩) (blk_far (p := ⟨g, 5, none⟩) (blk_far (p := ⟨g, 3, none⟩) (blk_put o7 0 (.slice A1 rn c1) (cs' := #[.slice A1 rn c1]) rfl) (show w.heap.size + 3 ≠ g by omega) _) (show w.heap.size + 3 ≠ g by omega) _) (show w.heap.size + 3 ≠ g by omega) _
  have M7 : Mut (fun i => i = g) w w7x := MU3.out.trans (F2 := fun i => w.heap.size ≤ i) ⟨hMID.out.hb.os, hMID.out.hb.tape, hMID.out.hb.output, hMID.out.hb.size, fun i hi hn => hMID.out.hb.block i (by omega)⟩ (fun _ h => h) (fun i h1 h2 => by omega)
  have M23 : Mut (fun i => i = g) w ((((w7x.setCell ⟨w.heap.size + 3, 0, none⟩ (.slice A1 rn c1)).setCell ⟨g, 3, none⟩ (.int .i64 xn)).setCell ⟨g, 5, none⟩ (.int .i64 fl)).setCell ⟨g, 4, none⟩ (.int .i64 (mm.size + (fl : Int)))) :=
   Mut.set (F := fun i => i = g) (b := g) (Mut.set (F := fun i => i = g) (b := g) (Mut.set (F := fun i => i = g) (b := g) (Mut.set (F := fun i => i = g) (b := w.heap.size + 3) M7 (.inr (by omega)) 0 _) (.inl rfl) 3 _) (.inl rfl) 5 _) (.inl rfl) 4 _
  have hs7 : W.heap.size ≤ w7x.heap.size := Nat.le_trans SW3.out hMID.out.hb.size
  have FIN := Aside0.mk (show RecSt w g s F D { m with last := (first : Int) - 1 } pss (pre ++ [⟨xn, xA, xc, xb⟩]) _ from
   ⟨M23, by rw [hpre]; exact g23.out, D23, b23.out, far RR3.out (by omega) (by omega) (by omega), far EE3.out (by omega) (by omega) (by omega), ⟨_, hO, by rw [hrl]; exact R23⟩, ⟨_, far TT3.out (by omega) (by omega) (by omega), fun hlt => by
    rw [List.length_append, List.length_singleton] at hlt
    have h1 := HFT.out.2.1 (HTK.out.2.1 hlt)
    rw [h1]
    exact decide_eq_false (by omega)⟩, by
    rw [World.size_setCell, World.size_setCell, World.size_setCell, World.size_setCell]
    have := HI.out.sz
    omega, by rw [sgBs_snoc]; exact HX.out.pf⟩)
  have FIN2 := Aside0.mk (show KpS s F D bp W _ from ⟨fun _ => D23, by
   refine (((((Below.heap_setCell _ ⟨g, 4, none⟩ _ _ (show bp ≠ g by omega)).trans (Below.heap_setCell _ ⟨g, 5, none⟩ _ _ (show bp ≠ g by omega))).trans (Below.heap_setCell _ ⟨g, 3, none⟩ _ _ (show bp ≠ g by omega))).trans (Below.heap_setCell _ ⟨w.heap.size + 3, 0, none⟩ _ _ (show bp ≠ w.heap.size + 3 by omega))).trans (hMID.out.hb.block _ (by omega))).trans ?_
   exact BPX.out, by rw [World.size_setCell, World.size_setCell, World.size_setCell, World.size_setCell]; exact hs7⟩)
  have FIN3 := Aside0.mk ((((KO3.out.trans (KeepsOthers.drew w3)).trans hMID.out.ko).trans (KeepsOthers.setCell w7x ⟨w.heap.size + 3, 0, none⟩ (.slice A1 rn c1))).trans (((KeepsOthers.setCell _ ⟨g, 3, none⟩ (.int .i64 xn)).trans (KeepsOthers.setCell _ ⟨g, 5, none⟩ (.int .i64 fl))).trans (KeepsOthers.setCell _ ⟨g, 4, none⟩ (.int .i64 (mm.size + (fl : Int))))))
  clear hbpl hpre hrl hF h7 D7 o7 D14 D17 D20 D23 R14 R17 R20 R23 far hO M7 M23 hs7
  gi_wp2
  exact .inl ⟨rfl, FIN3.out.from _, FIN2.out, FIN.out⟩
 case done =>
  rintro D' xs W hD hxs hI hK
  have hlen : xs.length = pss.length := by have := congrArg List.length hxs; simpa [sgBs] using this
  obtain ⟨v, ho, hr⟩ := hI.o_
  rw [hlen, List.take_length] at hr
  obtain ⟨vA, vc, hv⟩ := Kd.R_slice hr
  subst hv
  have HI := Aside0.mk hI
  have HR := Aside0.mk hr
  have hrl := hI.rl
  rw [hlen, List.take_length] at hrl
  have HRL := Aside0.mk hrl
  have HO := Aside0.mk ho
  have HK := Aside0.mk hK
  have HSZ := Aside0.mk (show w.heap.size + 7 ≤ D' from Nat.le_trans hP0.sz hD)
  have HF1 := Aside0.mk (show g < w.heap.size from blk_lt HG.out)
  have d3 := blk_cell ho 0
  have d1 := blk_cell hI.r0 0
  have d2 := blk_cell hI.e0 0
  have f1 := blk_frozen hI.r0 0
  have f2 := blk_frozen hI.e0 0
  have HI1 := Aside0.mk hI.r0
  have HI2 := Aside0.mk hI.e0
  clear hI hr ho hrl hK hhands hP0 hbpx hbnx hlen hxs
  gi_wp2_with fail
  have hsz := HSZ.out
  have hgl := HF1.out
  have k1 := blk_far (p := ⟨w.heap.size + 1 + 1, 0, none⟩) (blk_put HI1.out 0 (.slice vA (recL pss).length vc) (cs' := #[.slice vA (recL pss).length vc]) rfl) (show w.heap.size + 1 ≠ w.heap.size + 1 + 1 by omega) (.int .i64 0)
  have k2 := blk_put (blk_far (p := ⟨w.heap.size + 1, 0, none⟩) HI2.out (show w.heap.size + 2 ≠ w.heap.size + 1 by omega) (.slice vA (recL pss).length vc)) 0 (.int .i64 0) (cs' := #[.int .i64 0]) rfl
  have kD : ((W.setCell ⟨w.heap.size + 1, 0, none⟩ (.slice vA (recL pss).length vc)).setCell ⟨w.heap.size + 1 + 1, 0, none⟩ (.int .i64 0)).heap[D']? = some (.deferred (some [])) :=
   ((Below.heap_setCell _ ⟨w.heap.size + 1 + 1, 0, none⟩ _ _ (show D' ≠ w.heap.size + 1 + 1 by omega)).trans (Below.heap_setCell _ ⟨w.heap.size + 1, 0, none⟩ _ _ (show D' ≠ w.heap.size + 1 by omega))).trans HK.out
  have kG := blk_far (p := ⟨w.heap.size + 1 + 1, 0, none⟩) (blk_far (p := ⟨w.heap.size + 1, 0, none⟩) HRL.out (show g ≠ w.heap.size + 1 by omega) (.slice vA (recL pss).length vc)) (show g ≠ w.heap.size + 1 + 1 by omega) (.int .i64 0)
  have kS := (HI.out.disk.set HI1.out (by decide) (by decide) (by decide) (by decide) 0 (.slice vA (recL pss).length vc)).set (blk_far (p := ⟨w.heap.size + 1, 0, none⟩) HI2.out (show w.heap.size + 2 ≠ w.heap.size + 1 by omega) (.slice vA (recL pss).length vc)) (by decide) (by decide) (by decide) (by decide) 0 (.int .i64 0)
  have kR := Kd.R_set (Kd.R_set HR.out HI1.out (by decide) 0 (.slice vA (recL pss).length vc)) (blk_far (p := ⟨w.heap.size + 1, 0, none⟩) HI2.out (show w.heap.size + 2 ≠ w.heap.size + 1 by omega) (.slice vA (recL pss).length vc)) (by decide) 0 (.int .i64 0)
  have kM : Mut (fun i => i = g) w ((W.setCell ⟨w.heap.size + 1, 0, none⟩ (.slice vA (recL pss).length vc)).setCell ⟨w.heap.size + 1 + 1, 0, none⟩ (.int .i64 0)) :=
   Mut.set (F := fun i => i = g) (b := w.heap.size + 2) (Mut.set (F := fun i => i = g) (b := w.heap.size + 1) HI.out.mu (.inr (by omega)) 0 _) (.inr (by omega)) 0 _
  refine ⟨by simp, .inl ⟨_, _, rfl, run_takeDeferred kD, ?_⟩⟩
  have q1 : ∀ o', (((W.setCell ⟨w.heap.size + 1, 0, none⟩ (.slice vA (recL pss).length vc)).setCell ⟨w.heap.size + 1 + 1, 0, none⟩ (.int .i64 0)).putObj D' o').cell? ⟨w.heap.size + 1, 0, none⟩ = some (.slice vA (recL pss).length vc) := fun o' => (cell_congr (World.putObj_heap_other (show w.heap.size + 1 ≠ D' by omega))).trans ((blk_cell k1 0).trans rfl)
  have q2 : ∀ o', (((W.setCell ⟨w.heap.size + 1, 0, none⟩ (.slice vA (recL pss).length vc)).setCell ⟨w.heap.size + 1 + 1, 0, none⟩ (.int .i64 0)).putObj D' o').cell? ⟨w.heap.size + 1 + 1, 0, none⟩ = some (.int .i64 0) := fun o' => (cell_congr (World.putObj_heap_other (show w.heap.size + 1 + 1 ≠ D' by omega))).trans ((blk_cell k2 0).trans rfl)
  have FIN := Aside0.mk (fun o' => show RecOut g s F D { m with last := (first : Int) - 1 } pss w (.returned (.tuple #[.slice vA (recL pss).length vc, .int .i64 0])) (((W.setCell ⟨w.heap.size + 1, 0, none⟩ (.slice vA (recL pss).length vc)).setCell ⟨w.heap.size + 1 + 1, 0, none⟩ (.int .i64 0)).putObj D' o') from
   ⟨⟨vA, vc, rfl, R_putObjD (Kd.R_lower kR (by omega)) kD rfl⟩, ⟨kM.os, kM.tape, kM.output, by rw [World.putObj_size]; exact kM.size, fun i hi hn => (World.putObj_heap_other (by omega)).trans (kM.block i hi hn)⟩, (World.putObj_heap_other (by omega)).trans kG, kS.putObj kD rfl⟩)
  clear k1 k2 kD kG kS kR kM
  exact ⟨.tuple #[.slice vA (recL pss).length vc, .int .i64 0], by simp [results, Tryz.results19, go_sem, q1, q2], FIN.out _⟩
 case stop =>
  rintro D' pre W hD hp hI
  exact hI.elim
end Go.Proofs.YtdooajmgfoobfaaGreatDoor.H
