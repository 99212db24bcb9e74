/- tape.act: a line's act. -/
import Derived.Test.YtdgdpkemboeaeaaDoorTpI
import Derived.Test.YtdgdpkemboeaeaaDoorTpQ
import Derived.Deep.CutBlock
import Derived.Deep.AppendLies
import Derived.Deep.RegionLaw
namespace Go.Proofs.YtdgdpkemboeaeaaDoor.H
open Go.RowKit Go.Shelf Go.Proofs.YtdgdpkemboeaeaaDoor.PT Go.Proofs.YtdgdpkemboeaeaaDoor.PU Go.Proofs.YtdgdpkemboeaeaaDoorW.PrintWords Go.Proofs.YtdgdpkemboeaeaaDoorW.PrintLast Go.Proofs.YtdgdpkemboeaeaaDoorW.PrintMore
set_option linter.unusedVariables false
set_option linter.unusedSimpArgs false
theorem infoI : (Tryd.prog.info? 3).map (fun i => (i.zero, i.size, i.bytes)) = some (some (.int .i64 0), 1, 8) := by kernel_rfl
/-- What act returns. -/
noncomputable def resA (one : List UInt8) : PAct × Bool := match actA one with
  | some a => (a, true)
  | none => (zeroP, false)
def Ld (p : List ByteArray) : List (List UInt8) := p.map (fun x => x.data.toList)
theorem Ld_head (p : List ByteArray) : (headB p).data.toList = (nextW (Ld p)).1 := by cases p <;> rfl
theorem Ld_tail (p : List ByteArray) : Ld p.tail = (nextW (Ld p)).2 := by cases p <;> rfl
/-- Where an act is being read: the result's box R, the words' B, the act's Ab, the shape's Sb. -/
structure ActSt (w w0 W : World) (B Ab Sb : Nat) (ss : Array Value) (p : List ByteArray) (k i n : Int) (t : ByteArray) (v : Value) (keep : List Int) : Prop where
  hw : Below w.heap.size w w0
  wd : Wds w0 W B p
  rb : W.heap[w.heap.size]? = some (.cells #[.int .i64 0, .int .i64 0, .int .i64 0, .string ⟨#[]⟩, .slice none 0 0] 45 (0, 0))
  rB : w.heap.size < w0.heap.size
  ab : W.heap[Ab]? = some (.cells #[.int .i64 k, .int .i64 i, .int .i64 n, .string t, v] 45 (0, 0))
  aB : w0.heap.size ≤ Ab
  sb : ss.size = 0 ∨ W.heap[Sb]? = some (.cells ss 102 (0, 0))
  ro : Kd.R (Kd.int .i64) 3 W w0.heap.size (fun _ => True) v keep
  sz : ∀ x ∈ p, x.size ≤ 1000000
  ln : p.length ≤ 1000001
theorem ActSt.below {w w0 W W' : World} {B Ab Sb : Nat} {ss : Array Value} {p : List ByteArray} {k i n : Int} {t : ByteArray} {v : Value} {keep : List Int} (h : ActSt w w0 W B Ab Sb ss p k i n t v keep) (hb : Below W.heap.size W W') : ActSt w w0 W' B Ab Sb ss p k i n t v keep :=
  { h with
    wd := h.wd.below hb
    rb := (hb.block _ (blk_lt h.rb)).trans h.rb
    ab := (hb.block _ (blk_lt h.ab)).trans h.ab
    sb := h.sb.imp id (fun hs => (hb.block _ (blk_lt hs)).trans hs)
    ro := Kd.R_below h.ro hb }
theorem ActSt.wB {w w0 W : World} {B Ab Sb : Nat} {ss : Array Value} {p : List ByteArray} {k i n : Int} {t : ByteArray} {v : Value} {keep : List Int} (h : ActSt w w0 W B Ab Sb ss p k i n t v keep) : Below w.heap.size w W := h.hw.trans (h.wd.hb.mono h.hw.size)
/-- A word is taken. -/
theorem ActSt.take {w w0 W W' : World} {B Ab Sb : Nat} {ss : Array Value} {p : List ByteArray} {k i n : Int} {t : ByteArray} {v : Value} {keep : List Int} (h : ActSt w w0 W B Ab Sb ss p k i n t v keep) (hd : Wds w0 W' B p.tail) (hg : W.grownBy W' (some B)) : ActSt w w0 W' B Ab Sb ss p.tail k i n t v keep := by
  obtain ⟨A, c, hB, _, _⟩ := h.wd.ex
  exact { h with
    wd := hd
    rb := blk_grown h.rb hg (fun e => blk_ne h.rb hB (by decide) (Option.some.inj e))
    ab := blk_grown h.ab hg (fun e => blk_ne h.ab hB (by decide) (Option.some.inj e))
    sb := h.sb.imp id (fun hs => blk_grown hs hg (fun e => blk_ne hs hB (by decide) (Option.some.inj e)))
    ro := Kd.R_mono (Kd.R_grown (Kd.R_types h.ro hB (by decide)) hg (fun q hq e => hq.2 (Option.some.inj e))) (fun _ _ => trivial)
    sz := fun x hx => h.sz x (List.mem_of_mem_tail hx)
    ln := by rw [List.length_tail]; have := h.ln; omega }
/-- A field of the act is written. -/
theorem ActSt.store {w w0 W : World} {B Ab Sb : Nat} {ss : Array Value} {p : List ByteArray} {k i n k' i' n' : Int} {t t' : ByteArray} {v v' : Value} {keep keep' : List Int} (h : ActSt w w0 W B Ab Sb ss p k i n t v keep) (j : Nat) (u : Value)
    (he : (#[.int .i64 k, .int .i64 i, .int .i64 n, .string t, v] : Array Value).setIfInBounds j u = #[.int .i64 k', .int .i64 i', .int .i64 n', .string t', v']) (hr : Kd.R (Kd.int .i64) 3 W w0.heap.size (fun _ => True) v' keep') (hR : Ab ≠ w.heap.size) : ActSt w w0 (W.setCell ⟨Ab, j, none⟩ u) B Ab Sb ss p k' i' n' t' v' keep' := by
  obtain ⟨A, c, hB, h2, h3⟩ := h.wd.ex
  exact { hw := h.hw
          wd := ⟨⟨A, c, blk_far hB (blk_ne hB h.ab (by decide)) u, h2, h3⟩, h.wd.hb.setCell (p := ⟨Ab, j, none⟩) h.aB u, h.wd.hB⟩
          rb := blk_far h.rb (Ne.symm hR) u
          rB := h.rB
          ab := by have := blk_set h.ab j u; rw [he] at this; exact this
          aB := h.aB
          sb := h.sb.imp id (fun hs => blk_far hs (blk_ne hs h.ab (by decide)) u)
          ro := Kd.R_set hr h.ab (by decide) j u
          sz := h.sz
          ln := h.ln }
/-- The numbers' row has grown, and is stored. -/
theorem ActSt.append {w w0 W w1 : World} {B Ab Sb : Nat} {ss : Array Value} {p : List ByteArray} {k i n : Int} {t : ByteArray} {v v1 : Value} {keep keep1 : List Int} (h : ActSt w w0 W B Ab Sb ss p k i n t v keep) (hg : W.grownBy w1 v.ownBlock) (hb : Below w0.heap.size w0 w1) (hr : Kd.R (Kd.int .i64) 3 w1 w0.heap.size (fun _ => True) v1 keep1) (hR : Ab ≠ w.heap.size) :
    ActSt w w0 (w1.setCell ⟨Ab, 4, none⟩ v1) B Ab Sb ss p k i n t v1 keep1 := by
  obtain ⟨A, c, hB, h2, h3⟩ := h.wd.ex
  have hB1 := blk_grown hB hg (Kd.R_ne h.ro hB (by decide))
  have ha1 := blk_grown h.ab hg (Kd.R_ne h.ro h.ab (by decide))
  exact { hw := h.hw
          wd := ⟨⟨A, c, blk_far hB1 (blk_ne hB1 ha1 (by decide)) v1, h2, h3⟩, hb.setCell (p := ⟨Ab, 4, none⟩) h.aB v1, h.wd.hB⟩
          rb := blk_far (blk_grown h.rb hg (Kd.R_ne h.ro h.rb (by decide))) (Ne.symm hR) v1
          rB := h.rB
          ab := by have := blk_set ha1 4 v1; exact this
          aB := h.aB
          sb := h.sb.imp id (fun hs => blk_far (blk_grown hs hg (Kd.R_ne h.ro hs (by decide))) (blk_ne hs h.ab (by decide)) v1)
          ro := Kd.R_set hr ha1 (by decide) 4 v1
          sz := h.sz
          ln := h.ln }
theorem ActSt.appcell {w w0 W w1 : World} {B Ab Sb : Nat} {ss : Array Value} {p : List ByteArray} {k i n : Int} {t : ByteArray} {v : Value} {keep : List Int} (h : ActSt w w0 W B Ab Sb ss p k i n t v keep) (hg : W.grownBy w1 v.ownBlock) : w1.cell? ⟨Ab, 4, none⟩ = some v :=
  blk_cell (blk_grown h.ab hg (Kd.R_ne h.ro h.ab (by decide))) 4
theorem ActSt.appfroz {w w0 W w1 : World} {B Ab Sb : Nat} {ss : Array Value} {p : List ByteArray} {k i n : Int} {t : ByteArray} {v : Value} {keep : List Int} (h : ActSt w w0 W B Ab Sb ss p k i n t v keep) (hg : W.grownBy w1 v.ownBlock) : w1.frozen? ⟨Ab, 4, none⟩ = false :=
  blk_frozen (blk_grown h.ab hg (Kd.R_ne h.ro h.ab (by decide))) 4
/-- A box of five cells, written over. -/
def put5 (W : World) (g : Nat) (x0 x1 x2 x3 x4 : Value) : World := ((((W.setCell ⟨g, 0, none⟩ x0).setCell ⟨g, 1, none⟩ x1).setCell ⟨g, 2, none⟩ x2).setCell ⟨g, 3, none⟩ x3).setCell ⟨g, 4, none⟩ x4
theorem put5_blk {W : World} {g T : Nat} {a0 a1 a2 a3 a4 : Value} (h : W.heap[g]? = some (.cells #[a0, a1, a2, a3, a4] T (0, 0))) (x0 x1 x2 x3 x4 : Value) : (put5 W g x0 x1 x2 x3 x4).heap[g]? = some (.cells #[x0, x1, x2, x3, x4] T (0, 0)) :=
  blk_set (blk_set (blk_set (blk_set (blk_set h 0 x0) 1 x1) 2 x2) 3 x3) 4 x4
theorem put5_below {w W : World} {g n : Nat} (h : Below n w W) (hg : n ≤ g) (x0 x1 x2 x3 x4 : Value) : Below n w (put5 W g x0 x1 x2 x3 x4) :=
  ((((h.setCell (p := ⟨g, 0, none⟩) hg _).setCell (p := ⟨g, 1, none⟩) hg _).setCell (p := ⟨g, 2, none⟩) hg _).setCell (p := ⟨g, 3, none⟩) hg _).setCell (p := ⟨g, 4, none⟩) hg _
theorem put5_R {α : Type} {d : Kd α} {e base g T : Nat} {W : World} {v a0 a1 a2 a3 a4 : Value} {xs : List α} (h : W.heap[g]? = some (.cells #[a0, a1, a2, a3, a4] T (0, 0))) (ht : ∀ q, q ∈ e :: d.E → q ≠ T) (hR : Kd.R d e W base (fun _ => True) v xs) (x0 x1 x2 x3 x4 : Value) :
    Kd.R d e (put5 W g x0 x1 x2 x3 x4) base (fun _ => True) v xs :=
  Kd.R_set (Kd.R_set (Kd.R_set (Kd.R_set (Kd.R_set hR h ht 0 x0) (blk_set h 0 x0) ht 1 x1) (blk_set (blk_set h 0 x0) 1 x1) ht 2 x2) (blk_set (blk_set (blk_set h 0 x0) 1 x1) 2 x2) ht 3 x3) (blk_set (blk_set (blk_set (blk_set h 0 x0) 1 x1) 2 x2) 3 x3) ht 4 x4
theorem showL_ge (l : List UInt8) : l.length ≤ (showL l).length := by
  induction l with
  | nil => exact Nat.zero_le _
  | cons c l ih =>
    rw [showL_cons, List.length_append, List.length_cons]
    have := List.length_pos_iff.2 (showC_ne c)
    omega
theorem unT_size (s : List UInt8) : (unT s).size ≤ s.length := by
  unfold unT
  rw [ba_size]
  cases h : unshowL s with
  | none => exact Nat.zero_le _
  | some t =>
    have := showL_ge t
    rw [unshowL_some h] at this
    exact this
theorem headB_sz1 {p : List ByteArray} (h : ∀ x ∈ p, x.size ≤ 1000000) : (headB p).size ≤ 1000000 := by
  cases p with
  | nil => exact Nat.zero_le _
  | cons x r => exact h x (by simp)
theorem headB_sz {p : List ByteArray} (h : ∀ x ∈ p, x.size ≤ 1000000) : (headB p).size ≤ 1000000000 := Nat.le_trans (headB_sz1 h) (by omega)
theorem wordIx_le (x : List UInt8) : wordIx x ≤ 10 := by
  unfold wordIx
  iterate 10 (split; · omega)
  omega
theorem readP_k (p : List ByteArray) : (readP (Ld p)).k = (wordIx (headB p).data.toList : Int) := by unfold readP readK; rw [Ld_head]
theorem resA_none {one : List UInt8} (h : ¬ (goodP (readP (wordsL one)) = true ∧ lineP (readP (wordsL one)) = one)) : resA one = (zeroP, false) := by unfold resA; rw [actA_way, if_neg h]
theorem resA_some {one : List UInt8} (h : goodP (readP (wordsL one)) = true ∧ lineP (readP (wordsL one)) = one) : resA one = (readP (wordsL one), true) := by unfold resA; rw [actA_way, if_pos h]
theorem good_k {a : PAct} (h : a.k < 1 ∨ 10 < a.k) : goodP a ≠ true := fun hg => by
  obtain ⟨h1, h2, _⟩ := goodP_iff.1 hg
  omega
set_option maxRecDepth 100000 in
set_option maxHeartbeats 8000000 in
theorem act_calls (one : ByteArray) (hs : one.size ≤ 1000000) (w : World) (hE : Env w) :
    Calls Tryd.prog 55 #[.string one] w fun e w' => ∃ v, e = .returned (.tuple #[actV (resA one.data.toList).1 v, .bool (resA one.data.toList).2]) ∧ Kd.R (Kd.int .i64) 3 w' w.heap.size (fun _ => True) v (resA one.data.toList).1.keep ∧ Below w.heap.size w w' := by
  obtain ⟨RA, hRA⟩ : ∃ RA, resA one.data.toList = RA := ⟨_, rfl⟩
  rw [hRA]
  have HRA := Aside0.mk hRA
  have HE := Aside0.mk hE
  clear hRA hE
  have hsp := fun W => strings_Split.calls one ⟨#[32]⟩ (splitL one 32) W (by unfold strings_Split.f; simp; omega)
  have hsz : ∀ x ∈ splitL one 32, x.size ≤ 1000000 := by
    intro x hx
    have := (join_split 32 _ one.data.toList (Nat.le_refl _)).2.2.1 x (by rw [ba_of]; exact hx)
    rw [len_of] at this
    omega
  have hLd : Ld (splitL one 32) = wordsL one.data.toList := by unfold Ld wordsL; rw [ba_of]
  have hln : (splitL one 32).length ≤ 1000001 := by
    have := (join_split 32 _ one.data.toList (Nat.le_refl _)).2.2.2
    rw [ba_of, len_of] at this
    omega
  generalize splitL one 32 = p at hsp hsz hLd hln
  have HLN := Aside0.mk hln
  clear hln
  have HP := Aside0.mk hLd
  have HSZ := Aside0.mk hsz
  clear hLd hsz
  go_enter Tryd.func55, Tryd.ntmps55
  go_upto_region 2 with (go_at_call 88; refine (hsp _).mono ?_; rintro e w0 ⟨sv, rfl, hR, hb⟩; obtain ⟨sA, sc, rfl, hcl, hC⟩ := Kd.R_reads hR; have HC0 := Aside0.mk hC; have HB0 := Aside0.mk hb; clear hR hb hC)
  have hw0 : Below w.heap.size w w0 := ((Below.refl _ w).alloc (Nat.le_refl _) _).trans (HB0.out.mono (by simp))
  have hr0 := (HB0.out.block w.heap.size (by simp)).trans (heap_alloc_new w _)
  have hlt0 : w.heap.size < w0.heap.size := by have := HB0.out.size; rw [World.size_alloc] at this; omega
  have HW0 := Aside0.mk hw0
  have HR0 := Aside0.mk hr0
  clear hsp hw0 hr0 HB0
  have hwd : Wds w0 (w0.alloc (.cells #[.slice sA p.length sc] 124)) w0.heap.size p := ⟨⟨sA, sc, heap_alloc_new w0 _, hcl, HC0.out⟩, (Below.refl _ w0).alloc (Nat.le_refl _) _, Nat.le_refl _⟩
  have hnx := next_calls hwd
  generalize w0.alloc (.cells #[.slice sA p.length sc] 124) = W1 at hnx ⊢
  clear hwd
  go_upto_region 3 with (go_at_call 89; refine hnx.mono ?_; rintro e W2 ⟨rfl, hd, hg⟩; have HD := Aside0.mk hd; have HG := Aside0.mk hg; clear hd hg)
  have HD3 := Aside0.mk (HD.out.below ((Below.refl _ W2).alloc (Nat.le_refl _) (.cells #[.string (headB p)] 9)))
  have hix := indexShape_calls (headB p) W2.heap.size (W2.alloc (.cells #[.string (headB p)] 9)) (HE.out.below (HW0.out.trans (HD3.out.hb.mono HW0.out.size))) (by rw [Lib.cell_of_heap (heap_alloc_new W2 _)]; rfl)
  generalize W2.alloc (.cells #[.string (headB p)] 9) = W3 at hix HD3 ⊢
  obtain ⟨q, hq⟩ : ∃ q : Int, q = (wordIx (headB p).data.toList : Int) - 1 := ⟨_, rfl⟩
  rw [← hq] at hix
  have hwi := wordIx_le (headB p).data.toList
  have hq0 : -1 ≤ q := by omega
  have hq1 : q ≤ 9 := by omega
  have HQ := Aside0.mk hq
  clear hq hwi HD HG hnx
  go_upto_region 4 with (go_at_call 90; refine hix.mono ?_; rintro e W4 ⟨rfl, hb⟩; have HD4 := Aside0.mk (HD3.out.below hb); clear hb)
  have HA : Aside0 (ActSt w w0 (W4.alloc (.cells #[.int .i64 (q + 1), .int .i64 0, .int .i64 0, .string ⟨#[]⟩, .slice none 0 0] 45)) w0.heap.size W4.heap.size W4.heap.size #[] p.tail (q + 1) 0 0 ⟨#[]⟩ (.slice none 0 0) []) := ⟨by
    obtain ⟨x1, x2, hx, x3, x4⟩ := HD4.out.ex
    exact {
      hw := HW0.out
      wd := HD4.out.below ((Below.refl _ W4).alloc (Nat.le_refl _) _)
      rb := (Below.heap_alloc _ _ _ (Nat.lt_of_lt_of_le hlt0 HD4.out.hb.size)).trans ((HD4.out.hb.block _ hlt0).trans HR0.out)
      rB := hlt0
      ab := heap_alloc_new W4 _
      aB := HD4.out.hb.size
      sb := .inl rfl
      ro := Kd.R_nil _ _ _ _ _
      sz := fun x hx => HSZ.out x (List.mem_of_mem_tail hx)
      ln := by rw [List.length_tail]; have := HLN.out; omega }⟩
  generalize W4.alloc (.cells #[.int .i64 (q + 1), .int .i64 0, .int .i64 0, .string ⟨#[]⟩, .slice none 0 0] 45) = W5 at HA ⊢
  have hab := HA.out.ab
  have a0 := blk_cell hab 0
  have HK := Aside0.mk (readP_k p)
  by_cases hqz : q = -1
  · have hres : RA = (zeroP, false) := by
      rw [← HRA.out]
      refine resA_none fun h => good_k ?_ h.1
      rw [← HP.out, HK.out]
      have := HQ.out
      omega
    have HRES := Aside0.mk hres
    clear hab
    subst hqz
    have hrb := HA.out.rb
    have r0 := blk_frozen hrb 0
    have r1 := blk_frozen hrb 1
    have r2 := blk_frozen hrb 2
    have r3 := blk_frozen hrb 3
    have r4 := blk_frozen hrb 4
    have s0 := blk_cell hrb 0
    have s1 := blk_cell hrb 1
    have s2 := blk_cell hrb 2
    have s3 := blk_cell hrb 3
    have s4 := blk_cell hrb 4
    have HRB := Aside0.mk hrb
    clear hrb hres
    go_wp2_with fail
    have hp5 := put5_blk HRB.out (.int .i64 0) (.int .i64 0) (.int .i64 0) (.string ⟨#[]⟩) (.slice none 0 0)
    have e0 := blk_cell hp5 0
    have e1 := blk_cell hp5 1
    have e2 := blk_cell hp5 2
    have e3 := blk_cell hp5 3
    have e4 := blk_cell hp5 4
    have HB := Aside0.mk (put5_below HA.out.wB (Nat.le_refl w.heap.size) (.int .i64 0) (.int .i64 0) (.int .i64 0) (.string ⟨#[]⟩) (.slice none 0 0))
    clear s0 s1 s2 s3 s4 r0 r1 r2 r3 r4 a0
    refine bodyPost_ret (v := .tuple #[actV zeroP (.slice none 0 0), .bool false]) ?_ rfl ⟨.slice none 0 0, by rw [HRES.out], ?_, HB.out⟩
    · unfold put5 at e0 e1 e2 e3 e4
      simp [results, Tryd.results55, go_sem, e0, e1, e2, e3, e4, actV, zeroP]
    · rw [HRES.out]
      exact Kd.R_nil _ _ _ _ _
  · have hK1 : 1 ≤ q + 1 := by omega
    have hK2 : q + 1 ≤ 10 := by omega
    have HKQ := Aside0.mk (show (wordIx (headB p).data.toList : Int) = q + 1 by have := HQ.out; omega)
    clear HQ HK hix hq0 hq1 hab
    generalize q + 1 = K at HA a0 hK1 hK2 HKQ ⊢
    have hK0 : ¬ K = 0 := by omega
    have hcs := sh_cells (HE.out.below HA.out.wB) hK1 hK2
    obtain ⟨c0, c1, c2, c3, c4⟩ := hcs
    have hgw : (shB K).data.toList = shW K := rfl
    obtain ⟨gi, hgi⟩ : ∃ b, shI K = b := ⟨_, rfl⟩
    obtain ⟨gn, hgn⟩ : ∃ b, shN K = b := ⟨_, rfl⟩
    obtain ⟨gt, hgt⟩ : ∃ b, shT K = b := ⟨_, rfl⟩
    obtain ⟨gz, hgz⟩ : ∃ b, shK K = b := ⟨_, rfl⟩
    rw [hgi] at c1
    rw [hgn] at c2
    rw [hgt] at c3
    rw [hgz] at c4
    generalize shB K = gw at c0 hgw
    have HGI := Aside0.mk hgi
    have HGN := Aside0.mk hgn
    have HGT := Aside0.mk hgt
    have HGK := Aside0.mk hgz
    have HAN := Aside0.mk (show W4.heap.size ≠ w.heap.size by have := HA.out.rB; have := HA.out.aB; omega)
    clear hgi hgn hgt hgz hgw
    go_upto_region 7 with fail
    have HA6 : Aside0 (ActSt w w0 (W5.alloc (.cells #[.string gw, .bool gi, .bool gn, .bool gt, .bool gz] 102)) w0.heap.size W4.heap.size W5.heap.size #[.string gw, .bool gi, .bool gn, .bool gt, .bool gz] p.tail K 0 0 ⟨#[]⟩ (.slice none 0 0) []) := ⟨{ HA.out.below ((Below.refl _ W5).alloc (Nat.le_refl _) _) with sb := .inr (heap_alloc_new W5 _) }⟩
    generalize W5.alloc (.cells #[.string gw, .bool gi, .bool gn, .bool gt, .bool gz] 102) = W6 at HA6 ⊢
    have b1 := blk_cell (HA6.out.sb.resolve_left (by simp)) 1
    clear a0 c0 c1 c2 c3 c4 HA HC0 hcl HR0 HD3 HD4
    obtain ⟨i1, hi1⟩ : ∃ i1, (rI K (Ld p.tail)).1 = i1 := ⟨_, rfl⟩
    have HI1 := Aside0.mk hi1
    clear hi1
    go_upto_if 28 with fail
    go_cut [] (fun wx => ∃ p', Ld p' = (rI K (Ld p.tail)).2 ∧ ActSt w w0 wx w0.heap.size W4.heap.size W5.heap.size #[.string gw, .bool gi, .bool gn, .bool gt, .bool gz] p' K i1 0 ⟨#[]⟩ (.slice none 0 0) [])
    case first =>
      clear b1
      cases gi with
      | false =>
        go_wp2_with fail
        go_meet
        have e : rI K (Ld p.tail) = (0, Ld p.tail) := by unfold rI; rw [HGI.out, if_neg (by decide)]
        have e1 := HI1.out
        rw [e] at e1 ⊢
        obtain rfl := e1
        exact ⟨p.tail, rfl, HA6.out⟩
      | true =>
        have hnum := wnumber_calls HA6.out.wd (HE.out.below HW0.out) (headB_sz HA6.out.sz)
        go_wp2_with (go_at_call 92; refine hnum.mono ?_; rintro e W7 ⟨rfl, hd, hg⟩; have HA7 := Aside0.mk (HA6.out.take hd hg); have d1 := blk_cell HA7.out.ab 1; have d2 := blk_frozen HA7.out.ab 1; clear hd hg)
        go_meet
        have e : rI K (Ld p.tail) = (numW (headB p.tail).data.toList, Ld p.tail.tail) := by unfold rI; rw [HGI.out, if_pos rfl, ← Ld_head, ← Ld_tail]
        have e1 := HI1.out
        rw [e] at e1 ⊢
        obtain rfl := e1
        exact ⟨p.tail.tail, rfl, HA7.out.store 1 _ rfl HA7.out.ro HAN.out⟩
    case rest =>
      obtain ⟨p2, hp2, hA⟩ := hcut
      have HP2 := Aside0.mk hp2
      have HA7 := Aside0.mk hA
      have b2 := blk_cell (hA.sb.resolve_left (by simp)) 2
      clear hp2 hA HA6 b1
      obtain ⟨n1, hn1⟩ : ∃ n1, (rN K (Ld p2)).1 = n1 := ⟨_, rfl⟩
      have HN1 := Aside0.mk hn1
      clear hn1
      go_upto_if 33 with fail
      go_cut [] (fun wx => ∃ p', Ld p' = (rN K (Ld p2)).2 ∧ ActSt w w0 wx w0.heap.size W4.heap.size W5.heap.size #[.string gw, .bool gi, .bool gn, .bool gt, .bool gz] p' K i1 n1 ⟨#[]⟩ (.slice none 0 0) [])
      case first =>
        clear b2
        cases gn with
        | false =>
          go_wp2_with fail
          go_meet
          have e : rN K (Ld p2) = (0, Ld p2) := by unfold rN; rw [HGN.out, if_neg (by decide)]
          have e1 := HN1.out
          rw [e] at e1 ⊢
          obtain rfl := e1
          exact ⟨p2, rfl, HA7.out⟩
        | true =>
          have hnum := wnumber_calls HA7.out.wd (HE.out.below HW0.out) (headB_sz HA7.out.sz)
          go_wp2_with (go_at_call 92; refine hnum.mono ?_; rintro e W8 ⟨rfl, hd, hg⟩; have HA8 := Aside0.mk (HA7.out.take hd hg); have d1 := blk_cell HA8.out.ab 2; have d2 := blk_frozen HA8.out.ab 2; clear hd hg)
          go_meet
          have e : rN K (Ld p2) = (numW (headB p2).data.toList, Ld p2.tail) := by unfold rN; rw [HGN.out, if_pos rfl, ← Ld_head, ← Ld_tail]
          have e1 := HN1.out
          rw [e] at e1 ⊢
          obtain rfl := e1
          exact ⟨p2.tail, rfl, HA8.out.store 2 _ rfl HA8.out.ro HAN.out⟩
      case rest =>
        obtain ⟨p3, hp3, hA⟩ := hcut
        have HP3 := Aside0.mk hp3
        have HA8 := Aside0.mk hA
        have b3 := blk_cell (hA.sb.resolve_left (by simp)) 3
        clear hp3 hA HA7 b2
        obtain ⟨t1, ht1⟩ : ∃ t1, (rT K (Ld p3)).1 = t1 := ⟨_, rfl⟩
        have hts : t1.size ≤ 1000000 := by
          rw [← ht1]
          unfold rT
          split
          · rw [← Ld_head]
            exact Nat.le_trans (unT_size _) (by rw [len_of]; exact headB_sz1 HA8.out.sz)
          · exact Nat.zero_le _
        have HTS := Aside0.mk hts
        have HT1 := Aside0.mk ht1
        clear ht1 hts
        go_upto_if 38 with fail
        go_cut [] (fun wx => ∃ p', Ld p' = (rT K (Ld p3)).2 ∧ ActSt w w0 wx w0.heap.size W4.heap.size W5.heap.size #[.string gw, .bool gi, .bool gn, .bool gt, .bool gz] p' K i1 n1 t1 (.slice none 0 0) [])
        case first =>
          clear b3
          cases gt with
          | false =>
            go_wp2_with fail
            go_meet
            have e : rT K (Ld p3) = (⟨#[]⟩, Ld p3) := by unfold rT; rw [HGT.out, if_neg (by decide)]
            have e1 := HT1.out
            rw [e] at e1 ⊢
            obtain rfl := e1
            exact ⟨p3, rfl, HA8.out⟩
          | true =>
            have hnx := next_calls HA8.out.wd
            have hsz := headB_sz1 HA8.out.sz
            have e : rT K (Ld p3) = (unT (headB p3).data.toList, Ld p3.tail) := by unfold rT; rw [HGT.out, if_pos rfl, ← Ld_head, ← Ld_tail]
            have e1 := HT1.out
            rw [e] at e1
            simp only at e1
            have HEQ := Aside0.mk e
            clear e
            obtain ⟨ku, eu, hun⟩ := unshow_eq (headB p3) hsz
            rw [e1] at hun
            have HUN := Aside0.mk hun
            clear hun e1 hsz
            go_wp2_with (first
              | (go_at_call 89; refine hnx.mono ?_; rintro e W9 ⟨rfl, hd, hg⟩; have HA9 := Aside0.mk (HA8.out.take hd hg); clear hd hg)
              | (go_at_call 31; refine (tape_Unshow.calls ku _ t1 eu _ HUN.out (HE.out.below HA9.out.wB)).mono ?_; rintro e W10 ⟨rfl, hb⟩; have HA10 := Aside0.mk (HA9.out.below hb); have d1 := blk_cell HA10.out.ab 3; have d2 := blk_frozen HA10.out.ab 3; clear hb))
            go_meet
            rw [HEQ.out]
            exact ⟨p3.tail, rfl, HA10.out.store 3 _ rfl HA10.out.ro HAN.out⟩
        case rest =>
          obtain ⟨p4, hp4, hA⟩ := hcut
          have HP4 := Aside0.mk hp4
          have HA9 := Aside0.mk hA
          clear hp4 hA HA8 b3
          obtain ⟨k1, hk1⟩ : ∃ k1, rK K (Ld p4) = k1 := ⟨_, rfl⟩
          have HK1 := Aside0.mk hk1
          clear hk1
          go_upto_block 0 with fail
          go_cut [] (fun wx => ∃ p' v, ActSt w w0 wx w0.heap.size W4.heap.size W5.heap.size #[.string gw, .bool gi, .bool gn, .bool gt, .bool gz] p' K i1 n1 t1 v k1)
          case first =>
            go_wp2_with fail
            go_loopg [] p4.length (fun kq wr => ∃ p' v kp, Aside0 (kq = p'.length ∧ (gz = true → kp ++ (Ld p').map numW = (Ld p4).map numW ∧ kp.length + p'.length = p4.length) ∧ (gz = false → kp = [])) ∧ Aside0 (ActSt w w0 wr w0.heap.size W4.heap.size W5.heap.size #[.string gw, .bool gi, .bool gn, .bool gt, .bool gz] p' K i1 n1 t1 v kp))
            case atStart => exact ⟨p4, _, [], ⟨rfl, fun _ => ⟨rfl, by simp⟩, fun _ => rfl⟩, HA9⟩
            case round =>
              obtain ⟨p5, v5, kp, HK5, HA⟩ := hrel
              have b4 := blk_cell (HA.out.sb.resolve_left (by simp)) 4
              cases gz with
              | false =>
                have HE5 := Aside0.mk (HK5.out.2.2 rfl)
                clear HK5 HA9
                go_wp2_with fail
                go_meet
                have e : rK K (Ld p4) = [] := by unfold rK; rw [HGK.out, if_neg (by decide)]
                have e1 := HK1.out
                rw [e] at e1
                have e2 := HE5.out
                subst e2
                subst e1
                exact ⟨p5, v5, HA.out⟩
              | true =>
                have e : rK K (Ld p4) = (Ld p4).map numW := by unfold rK; rw [HGK.out, if_pos rfl]
                have HEK := Aside0.mk (e.symm.trans HK1.out)
                have HE5 := Aside0.mk (HK5.out.2.1 rfl)
                have HKN := Aside0.mk HK5.out.1
                obtain ⟨wA, wc5, hwB, hwc, hwC⟩ := HA.out.wd.ex
                have g0 := blk_cell hwB 0
                have HA9L := Aside0.mk HA9.out.ln
                clear e HK5 HA9 hwB hwC
                cases p5 with
                | nil =>
                  go_wp2_with fail
                  go_meet
                  have e2 := HE5.out.1
                  rw [show Ld [] = [] from rfl, List.map_nil, List.append_nil, HEK.out] at e2
                  subst e2
                  exact ⟨[], v5, HA.out⟩
                | cons x r =>
                  have hg1 : decide (0 < (r.length : Int) + 1) = true := decide_eq_true (by omega)
                  simp only [List.length_cons] at g0
                  go_upto_region 14 with fail
                  obtain ⟨A5, c5, rfl, hl5, hC5⟩ := Kd.R_reads HA.out.ro
                  clear hl5 hC5
                  have HAd := Aside0.mk (HA.out.below (below_drew1 (Below.refl _ wr)))
                  have hnum := wnumber_calls HAd.out.wd (HE.out.below HW0.out) (headB_sz HA.out.sz)
                  have d4 := blk_cell HAd.out.ab 4
                  have hbd : (kp.length + 1) * 8 ≤ 140737488355328 := by have := HE5.out.2; rw [List.length_cons] at this; have h2 := HA9L.out; omega
                  have HBD := Aside0.mk hbd
                  clear hbd b4 g0 hg1
                  go_region_law (first
                      | (go_simp; go_at_call 92; refine hnum.mono ?_; rintro e W10 ⟨rfl, hd, hg⟩; have HA10 := Aside0.mk (HAd.out.take hd hg); have d5 := blk_cell HA10.out.ab 4; have d5b := fun o : Obj => blk_cell (HA10.out.below ((Below.refl _ _).alloc (Nat.le_refl _) o)).ab 4; clear hd hg)
                      | (refine Kd.R_append_step (Kd.int .i64) (w0 := w0) w0.heap.size (by simp [Region.wanted]) (.tmp 57) (.tmp 60) 34 3 (.int .i64 0) 8 rfl Tryd.underlying34 infoI rfl (by decide) (by omega) (.slice A5 kp.length c5) kp (numW x.data.toList) [.int .i64 (numW x.data.toList)] (fun _ => True) (fun _ => False) (by simp [Act.eval, Act.put]) (by simp [Act.eval, Act.put]) rfl (fun _ hk => hk.elim) (fun _ _ => trivial) HA10.out.ro HA10.out.wd.hb HA10.out.wd.hb.size HBD.out ?_; intro v1 w1 hr hb hg hat; have HG10 := Aside0.mk (HA10.out.append hg hb hr HAN.out); have d6 := HA10.out.appcell hg; have d7 := HA10.out.appfroz hg; obtain ⟨A1, c1, rfl, hl1, hC1⟩ := Kd.R_reads hr; clear hr hb hg hat hl1 hC1; simp only [List.length_append, List.length_cons, List.length_nil, Nat.zero_add] at HG10))
                  all_goals
                    go_wp2
                    go_roundg r.length
                    case measure => have := HKN.out; rw [List.length_cons] at this; omega
                    case rel =>
                      refine ⟨r, _, kp ++ [numW x.data.toList], ⟨rfl, fun _ => ⟨?_, ?_⟩, fun h => by cases h⟩, HG10⟩
                      · have := HE5.out.1
                        rw [← this]
                        show _ = kp ++ (numW x.data.toList :: (Ld r).map numW)
                        simp
                      · have := HE5.out.2
                        rw [List.length_cons] at this
                        rw [List.length_append, List.length_singleton]
                        omega
          case rest =>
            obtain ⟨p6, v6, hA⟩ := hcut
            obtain ⟨kA, kc, rfl, hkl, hkC⟩ := Kd.R_reads hA.ro
            have HA := Aside0.mk hA
            have hread : readP (wordsL one.data.toList) = ⟨K, i1, n1, t1, k1⟩ := by
              rw [← HP.out]
              unfold readP readK
              rw [← Ld_head, ← Ld_tail, HKQ.out, HI1.out, ← HP2.out, HN1.out, ← HP3.out, HT1.out, ← HP4.out, HK1.out]
            have HREAD := Aside0.mk hread
            have hgood := good_calls ⟨K, i1, n1, t1, k1⟩ kA kc wc (HE.out.below hA.wB) hkC
            simp only [actV] at hgood
            have a0 := blk_cell hA.ab 0
            have a1 := blk_cell hA.ab 1
            have a2 := blk_cell hA.ab 2
            have a3 := blk_cell hA.ab 3
            have a4 := blk_cell hA.ab 4
            have HKC := Aside0.mk hkC
            clear hA hkC hread HA9
            have fin0 : ∀ W : World, ActSt w w0 W w0.heap.size W4.heap.size W5.heap.size #[.string gw, .bool gi, .bool gn, .bool gt, .bool gz] p6 K i1 n1 t1 (.slice kA k1.length kc) k1 → (∀ j, W.frozen? ⟨w.heap.size, j, none⟩ = false) ∧ W.cell? ⟨w.heap.size, 0, none⟩ = some (.int .i64 0) ∧ W.cell? ⟨w.heap.size, 1, none⟩ = some (.int .i64 0) ∧ W.cell? ⟨w.heap.size, 2, none⟩ = some (.int .i64 0) ∧ W.cell? ⟨w.heap.size, 3, none⟩ = some (.string ⟨#[]⟩) ∧ W.cell? ⟨w.heap.size, 4, none⟩ = some (.slice none 0 0) :=
              fun W hW => ⟨fun j => blk_frozen hW.rb j, blk_cell hW.rb 0, blk_cell hW.rb 1, blk_cell hW.rb 2, blk_cell hW.rb 3, blk_cell hW.rb 4⟩
            have FIN := Aside0.mk fin0
            clear fin0
            cases hg : goodP ⟨K, i1, n1, t1, k1⟩ with
            | false =>
              rw [hg] at hgood
              have hres : RA = (zeroP, false) := by
                rw [← HRA.out]
                refine resA_none fun h => ?_
                rw [HREAD.out, hg] at h
                exact absurd h.1 (by decide)
              have HRES := Aside0.mk hres
              clear hres hg
              go_wp2_with (go_at_call 37; refine hgood.mono ?_; rintro e W12 ⟨rfl, hb⟩; have HA12 := Aside0.mk (HA.out.below hb); obtain ⟨z, z0, z1, z2, z3, z4⟩ := FIN.out _ HA12.out; clear hb)
              have hp5 := put5_blk HA12.out.rb (.int .i64 0) (.int .i64 0) (.int .i64 0) (.string ⟨#[]⟩) (.slice none 0 0)
              have e0 := blk_cell hp5 0
              have e1 := blk_cell hp5 1
              have e2 := blk_cell hp5 2
              have e3 := blk_cell hp5 3
              have e4 := blk_cell hp5 4
              have HB := Aside0.mk (put5_below HA12.out.wB (Nat.le_refl w.heap.size) (.int .i64 0) (.int .i64 0) (.int .i64 0) (.string ⟨#[]⟩) (.slice none 0 0))
              clear z z0 z1 z2 z3 z4 a0 a1 a2 a3 a4
              refine bodyPost_ret (v := .tuple #[actV zeroP (.slice none 0 0), .bool false]) ?_ rfl ⟨.slice none 0 0, by rw [HRES.out], ?_, HB.out⟩
              · unfold put5 at e0 e1 e2 e3 e4
                simp [results, Tryd.results55, go_sem, e0, e1, e2, e3, e4, actV, zeroP]
              · rw [HRES.out]
                exact Kd.R_nil _ _ _ _ _
            | true =>
              rw [hg] at hgood
              have HGO := Aside0.mk hg
              obtain ⟨LB, hLB⟩ : ∃ LB, ba (lineP ⟨K, i1, n1, t1, k1⟩) = LB := ⟨_, rfl⟩
              have hline := fun (W : World) (hW : ActSt w w0 W w0.heap.size W4.heap.size W5.heap.size #[.string gw, .bool gi, .bool gn, .bool gt, .bool gz] p6 K i1 n1 t1 (.slice kA k1.length kc) k1) (hb : Below wc.heap.size wc W) => line_calls ⟨K, i1, n1, t1, k1⟩ kA kc W (HE.out.below hW.wB) (Kd.C_below HKC.out hb) hg (Nat.le_trans HTS.out (by omega))
              simp only [actV, hLB] at hline
              have HLINE := Aside0.mk hline
              have HLB := Aside0.mk hLB
              clear hline hg hLB
              by_cases hq : LB = one
              · have hq1 : (LB.toList == one.toList) = true := by rw [hq]; exact beq_self_eq_true _
                have hq2 : (LB.toList != one.toList) = false := by rw [bne, hq1]; rfl
                have hres : RA = (⟨K, i1, n1, t1, k1⟩, true) := by
                  rw [← HRA.out, resA_some (by rw [HREAD.out]; exact ⟨HGO.out, by rw [← ba_data (lineP _), HLB.out, hq]⟩), HREAD.out]
                have HRES := Aside0.mk hres
                clear hres hq
                go_wp2_with (first
                  | (go_at_call 37; refine hgood.mono ?_; rintro e W12 ⟨rfl, hb⟩; have HB12 := Aside0.mk hb; have HA12 := Aside0.mk (HA.out.below hb); have b0 := blk_cell HA12.out.ab 0; have b1 := blk_cell HA12.out.ab 1; have b2 := blk_cell HA12.out.ab 2; have b3 := blk_cell HA12.out.ab 3; have b4 := blk_cell HA12.out.ab 4; clear hb)
                  | (go_at_call 72; refine (HLINE.out _ HA12.out HB12.out).mono ?_; rintro e W13 ⟨rfl, hb⟩; have HA13 := Aside0.mk (HA12.out.below hb); have c0 := blk_cell HA13.out.ab 0; have c1 := blk_cell HA13.out.ab 1; have c2 := blk_cell HA13.out.ab 2; have c3 := blk_cell HA13.out.ab 3; have c4 := blk_cell HA13.out.ab 4; obtain ⟨z, z0, z1, z2, z3, z4⟩ := FIN.out _ HA13.out; clear hb))
                have hp5 := put5_blk HA13.out.rb (.int .i64 K) (.int .i64 i1) (.int .i64 n1) (.string t1) (.slice kA k1.length kc)
                have e0 := blk_cell hp5 0
                have e1 := blk_cell hp5 1
                have e2 := blk_cell hp5 2
                have e3 := blk_cell hp5 3
                have e4 := blk_cell hp5 4
                have HB := Aside0.mk (put5_below HA13.out.wB (Nat.le_refl w.heap.size) (.int .i64 K) (.int .i64 i1) (.int .i64 n1) (.string t1) (.slice kA k1.length kc))
                clear z z0 z1 z2 z3 z4 a0 a1 a2 a3 a4 b0 b1 b2 b3 b4 c0 c1 c2 c3 c4
                refine bodyPost_ret (v := .tuple #[actV ⟨K, i1, n1, t1, k1⟩ (.slice kA k1.length kc), .bool true]) ?_ rfl ⟨.slice kA k1.length kc, by rw [HRES.out], ?_, HB.out⟩
                · unfold put5 at e0 e1 e2 e3 e4
                  simp [results, Tryd.results55, go_sem, e0, e1, e2, e3, e4, actV]
                · rw [HRES.out]
                  exact put5_R HA13.out.rb (by decide) (Kd.R_lower HA13.out.ro HA13.out.hw.size) _ _ _ _ _
              · have hq1 : (LB.toList == one.toList) = false := by
                  rw [beq_eq_false_iff_ne, Lib.toList_data, Lib.toList_data]
                  intro e
                  exact hq (by rw [← ba_of LB, e, ba_of])
                have hq2 : (LB.toList != one.toList) = true := by rw [bne, hq1]; rfl
                have hres : RA = (zeroP, false) := by
                  rw [← HRA.out]
                  refine resA_none fun h => hq ?_
                  rw [HREAD.out] at h
                  rw [← HLB.out, h.2, ba_of]
                have HRES := Aside0.mk hres
                clear hres hq
                go_wp2_with (first
                  | (go_at_call 37; refine hgood.mono ?_; rintro e W12 ⟨rfl, hb⟩; have HB12 := Aside0.mk hb; have HA12 := Aside0.mk (HA.out.below hb); have b0 := blk_cell HA12.out.ab 0; have b1 := blk_cell HA12.out.ab 1; have b2 := blk_cell HA12.out.ab 2; have b3 := blk_cell HA12.out.ab 3; have b4 := blk_cell HA12.out.ab 4; clear hb)
                  | (go_at_call 72; refine (HLINE.out _ HA12.out HB12.out).mono ?_; rintro e W13 ⟨rfl, hb⟩; have HA13 := Aside0.mk (HA12.out.below hb); obtain ⟨z, z0, z1, z2, z3, z4⟩ := FIN.out _ HA13.out; clear hb))
                have hp5 := put5_blk HA13.out.rb (.int .i64 0) (.int .i64 0) (.int .i64 0) (.string ⟨#[]⟩) (.slice none 0 0)
                have e0 := blk_cell hp5 0
                have e1 := blk_cell hp5 1
                have e2 := blk_cell hp5 2
                have e3 := blk_cell hp5 3
                have e4 := blk_cell hp5 4
                have HB := Aside0.mk (put5_below HA13.out.wB (Nat.le_refl w.heap.size) (.int .i64 0) (.int .i64 0) (.int .i64 0) (.string ⟨#[]⟩) (.slice none 0 0))
                clear z z0 z1 z2 z3 z4 a0 a1 a2 a3 a4 b0 b1 b2 b3 b4
                refine bodyPost_ret (v := .tuple #[actV zeroP (.slice none 0 0), .bool false]) ?_ rfl ⟨.slice none 0 0, by rw [HRES.out], ?_, HB.out⟩
                · unfold put5 at e0 e1 e2 e3 e4
                  simp [results, Tryd.results55, go_sem, e0, e1, e2, e3, e4, actV, zeroP]
                · rw [HRES.out]
                  exact Kd.R_nil _ _ _ _ _
end Go.Proofs.YtdgdpkemboeaeaaDoor.H
