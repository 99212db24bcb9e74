/- What a list is as bytes: coil.Put and bale.list at each kind. Laid by wip/puts_bl.py. -/
import Derived.Test.YtpdppfihpnfblaaGreatBlW
namespace Go.Proofs.YtpdppfihpnfblaaGreat.H
open Go.RowKit Go.Shelf Go.Proofs.YtpdppfihpnfblaaGreat.PA Go.Proofs.YtpdppfihpnfblaaGreatW.PrintWords Go.Proofs.YtpdppfihpnfblaaGreatW.PrintLast Go.Proofs.YtpdppfihpnfblaaGreatW.PrintMore
attribute [local go_sem] Oper.semAt_some
set_option linter.unusedVariables false
set_option linter.unusedSimpArgs false
def listB {α : Type} (B : α → List Int) (l : List α) : List Int := upB (l.length : Int) ++ l.flatMap B
/-- How one of a kind is put. -/
def PutOne {α : Type} (fone : Nat) (k : Kd α) (enc : List Value → Value) (G : α → Prop) (B : α → List Int) : Prop := ∀ (w0 : World) (g : Nat) (bs : List Int) (x : α) (cs : List Value) (w : World), k.K w0 x cs → G x → bs.length + (B x).length ≤ 100000000000 → CS w0 g bs w →
  Calls Tryz.prog fone #[.pointer (some ⟨g, 0, none⟩), enc cs] w fun e w' => (∃ v, e = .returned v) ∧ CS w0 g (bs ++ B x) w' ∧ PF g w w'
theorem CS.own {w0 W W' : World} {g : Nat} {bs : List Int} {row : Option Nat} {B : Nat} (h : CS w0 g bs W) (hg : W.grownBy W' row) (hB : w0.heap.size ≤ B) (hr : ∀ r, row = some r → B ≤ r ∧ ∃ o : Obj, W.heap[r]? = some o ∧ o.isCells = false) : CS w0 g bs W' := by
  obtain ⟨h1, h2, v, hv, hR⟩ := h
  exact ⟨h1.grown hg h1.size (fun k e => Nat.le_trans hB (hr k e).1), h2, v, blk_grown hv hg (cells_ne_row hr hv), R_ownFrom hR hg hr⟩
/-- A store into a block that is no row of bytes, nor the coil's. -/
theorem CS.far {w0 W : World} {g b T : Nat} {bs : List Int} {cs : Array Value} (h : CS w0 g bs W) (hb : W.heap[b]? = some (.cells cs T (0, 0))) (hT : T ≠ 5) (hw : w0.heap.size ≤ b) (hne : b ≠ g) (j : Nat) (v : Value) : CS w0 g bs (W.setCell ⟨b, j, none⟩ v) := by
  obtain ⟨h1, h2, u, hv, hR⟩ := h
  refine ⟨h1.setCell (p := ⟨b, j, none⟩) hw _, h2, u, blk_far hv (p := ⟨b, j, none⟩) (Ne.symm hne) v, Kd.R_set hR hb (fun q hq e => ?_) j v⟩
  have : q = 5 := by simpa [Kd.int, Kd.scalar] using hq
  exact hT (e.symm.trans this)
structure PutSt {α : Type} (fone Tf : Nat) (B : α → List Int) (l : List α) (w : World) (pre : List (α × List Value)) (W : World) : Prop where
  hb : Below w.heap.size w W
  bx : W.heap[w.heap.size]? = some (.cells #[.func (.func fone) #[] #[]] Tf (0, 0))
  it : CS w (w.heap.size + 1) (pre.flatMap (fun p => B p.1)) W
  nn : W.heap[w.heap.size + 1 + 1]? = some (.cells #[.int .i64 (pre.length : Int)] 3 (0, 0))
  sz : w.heap.size + 1 + 1 + 1 ≤ W.heap.size
  gs : ∀ p ∈ pre, p.1 ∈ l
theorem PutSt.own {α : Type} {fone Tf : Nat} {B : α → List Int} {l : List α} {w : World} {b : Nat} (hB : w.heap.size ≤ b) : OwnFrom b (PutSt fone Tf B l w) := fun s W W' row hs hg hr =>
  ⟨hs.hb.grown hg hs.hb.size (fun k e => Nat.le_trans hB (hr k e).1), blk_grown hs.bx hg (cells_ne_row hr hs.bx), hs.it.own hg hB hr, blk_grown hs.nn hg (cells_ne_row hr hs.nn), Nat.le_trans hs.sz hg.size, hs.gs⟩
theorem PutSt.below {α : Type} {fone Tf : Nat} {B : α → List Int} {l : List α} {w W W' : World} {pre : List (α × List Value)} (h : PutSt fone Tf B l w pre W) (hb : Below W.heap.size W W') : PutSt fone Tf B l w pre W' :=
  ⟨h.hb.trans (hb.mono h.hb.size), blk_below h.bx hb, h.it.kept hb, blk_below h.nn hb, Nat.le_trans h.sz hb.size, h.gs⟩
/-- One more is put, and counted. -/
theorem PutSt.step {α : Type} {fone Tf : Nat} {B : α → List Int} {l : List α} {w W W1 : World} {pre : List (α × List Value)} {p : α × List Value} (h : PutSt fone Tf B l w pre W) (hm : p.1 ∈ l) (hT : Tf ≠ 5) (hc : CS w (w.heap.size + 1) (pre.flatMap (fun p => B p.1) ++ B p.1) W1) (hp : PF (w.heap.size + 1) W W1) :
    W1.cell? ⟨w.heap.size + 1 + 1, 0, none⟩ = some (.int .i64 (pre.length : Int)) ∧ W1.frozen? ⟨w.heap.size + 1 + 1, 0, none⟩ = false ∧ PutSt fone Tf B l w (pre ++ [p]) (W1.setCell ⟨w.heap.size + 1 + 1, 0, none⟩ (.int .i64 ((pre.length : Int) + 1))) ∧ KeepsOthers W (W1.setCell ⟨w.heap.size + 1 + 1, 0, none⟩ (.int .i64 ((pre.length : Int) + 1))) ∧ Below w.heap.size W (W1.setCell ⟨w.heap.size + 1 + 1, 0, none⟩ (.int .i64 ((pre.length : Int) + 1))) := by
  have hn := hp.blk h.it h.nn (by omega) (by decide)
  have hbx := hp.blk h.it h.bx (by omega) hT
  obtain ⟨_, _, v, hv, _⟩ := h.it
  refine ⟨blk_cell hn 0, blk_frozen hn 0, ⟨hc.1.setCell (p := ⟨w.heap.size + 1 + 1, 0, none⟩) (by simp only; omega) _, blk_far hbx (p := ⟨w.heap.size + 1 + 1, 0, none⟩) (by simp only; omega) _, ?_, ?_, by rw [World.size_setCell]; exact Nat.le_trans h.sz hp.1, ?_⟩, (hp.others h.it).trans (KeepsOthers.setCell _ _ _), ?_⟩
  · have := hc.far hn (by decide) (by omega) (by omega) 0 (.int .i64 ((pre.length : Int) + 1))
    rw [List.flatMap_append]
    simpa using this
  · have := blk_set hn 0 (.int .i64 ((pre.length : Int) + 1))
    rw [List.length_append, List.length_singleton]
    simpa using this
  · intro q hq
    rcases List.mem_append.1 hq with hq | hq
    · exact h.gs q hq
    · rw [List.mem_singleton.1 hq]; exact hm
  · refine (show Below w.heap.size W W1 from ⟨?_, ?_, ?_, hp.1, fun i hi => ?_⟩).setCell (p := ⟨w.heap.size + 1 + 1, 0, none⟩) (by simp only; omega) _
    · exact hc.1.os.trans h.hb.os.symm
    · exact hc.1.tape.trans h.hb.tape.symm
    · exact hc.1.output.trans h.hb.output.symm
    · exact (hc.1.block i hi).trans (h.hb.block i hi).symm
/-- Behind the append and the store, and the loop's own block. -/
theorem coil_fin2 {w0 w w6 w1 : World} {g D : Nat} {bs xs : List Int} {cv v1 : Value} (h0 : CS w0 g bs w6) (hp0 : PF g w w6) (hw : w0.heap.size ≤ w.heap.size) (hv : w6.heap[g]? = some (.cells #[cv] 139 (0, 0))) (hgw : g < w.heap.size) (hc : Kd.R (Kd.int .u8) 5 w6 w0.heap.size (fun _ => True) cv bs) (hg : w6.drew.grownBy w1 cv.ownBlock)
    (hr : Kd.R (Kd.int .u8) 5 w1 w0.heap.size (fun _ => True) v1 (bs ++ xs)) (hB : Below w0.heap.size w0 w1) (hat : v1.ownBlock = cv.ownBlock ∨ ∃ b, v1.ownBlock = some b ∧ w6.drew.heap.size ≤ b) (hD : w.heap.size ≤ D) (hK : w6.heap[D]? = some (.deferred (some []))) :
    w1.cell? ⟨g, 0, none⟩ = some cv ∧ w1.frozen? ⟨g, 0, none⟩ = false ∧ (w1.setCell ⟨g, 0, none⟩ v1).heap[D]? = some (.deferred (some [])) ∧ CS w0 g (bs ++ xs) ((w1.setCell ⟨g, 0, none⟩ v1).putObj D (.deferred none)) ∧ PF g w ((w1.setCell ⟨g, 0, none⟩ v1).putObj D (.deferred none)) := by
  have hown := Kd.own_of_R hc
  have hne : some D ≠ cv.ownBlock := fun e => by obtain ⟨cl, hcl⟩ := own_typed hown D e.symm; rw [hK] at hcl; cases hcl
  have h1 : (w1.setCell ⟨g, 0, none⟩ v1).heap[D]? = some (.deferred (some [])) := (Below.heap_setCell w1 ⟨g, 0, none⟩ v1 D (by simp only; omega)).trans ((hg.block D (blk_lt (w := w6.drew) hK) hne).trans hK)
  have hgr := grownBy_putObj' (w1.setCell ⟨g, 0, none⟩ v1) D (.deferred none)
  have hrr : ∀ r, some D = some r → 0 ≤ r ∧ ∃ o : Obj, (w1.setCell ⟨g, 0, none⟩ v1).heap[r]? = some o ∧ o.isCells = false := fun r e => by cases e; exact ⟨Nat.zero_le _, _, h1, rfl⟩
  have hv1 := blk_grown (blk_drew hv) hg (Kd.R_ne hc hv (by decide))
  have hgs : (w1.setCell ⟨g, 0, none⟩ v1).heap[g]? = some (.cells #[v1] 139 (0, 0)) := by simpa using blk_set hv1 0 v1
  refine ⟨blk_cell hv1 0, blk_frozen hv1 0, h1, ⟨?_, h0.2.1, v1, (World.putObj_heap_other (by omega)).trans hgs, R_ownFrom (Kd.R_set hr hv1 (by decide) 0 _) hgr hrr⟩, ?_⟩
  · exact (hB.setCell (p := ⟨g, 0, none⟩) h0.2.1 _).grown hgr (by rw [World.size_setCell]; exact hB.size) (fun k e => by cases e; omega)
  · have hp2 : PF g w6.drew (w1.setCell ⟨g, 0, none⟩ v1) := PF.put (blk_drew hv) hv1 hg hat
    exact (hp0.trans hp2).obj hD _
theorem flat_len {α : Type} (B : α → List Int) (M : Nat) : ∀ (l : List α), (∀ x ∈ l, (B x).length ≤ M) → (l.flatMap B).length ≤ M * l.length
  | [], _ => by simp
  | x :: r, h => by
    have h1 := flat_len B M r (fun y hy => h y (by simp [hy]))
    have h2 := h x (by simp)
    rw [List.flatMap_cons, List.length_append, List.length_cons, Nat.mul_add]
    omega

set_option maxRecDepth 100000 in
set_option maxHeartbeats 8000000 in
theorem PutSrc_calls (G : Src → Prop) (B : Src → List Int) (M : Nat) (hM : ∀ x, G x → (B x).length ≤ M) (hM2 : M ≤ 90000000) (h1 : PutOne 44 kSrc encA G B) (w0 : World) (g : Nat) (bs : List Int) (A : Option Addr) (c : Nat) (l : List (Src)) (hC : Kd.C kSrc w0 A l.length l) (hG : ∀ x ∈ l, G x) (hn : l.length ≤ 1000) (hl : bs.length + (listB B l).length ≤ 100000000000)
    (w : World) (h : CS w0 g bs w) (Bs : Nat) (hBs : w.cell? ⟨Bs, 0, none⟩ = some (.slice A l.length c)) :
    Calls Tryz.prog 67 #[.pointer (some ⟨g, 0, none⟩), .func (.func 90) #[] #[.pointer (some ⟨Bs, 0, none⟩)], .func (.func 44) #[] #[]] w fun e w' => e = .returned (.tuple #[]) ∧ CS w0 g (bs ++ listB B l) w' ∧ PF g w w' := by
  have HS := Aside0.mk h
  have HG := Aside0.mk hG
  have HL := Aside0.mk hl
  have HN := Aside0.mk hn
  have HM := Aside0.mk hM
  have H1 := Aside0.mk h1
  have hC1 := Kd.C_below hC h.1
  have hBl : Bs < w.heap.size := World.block_lt_of_cell? w _ hBs
  clear h hG hl hn hM h1 hC
  refine (callsIn_wide (n := 6)).1 ?_
  refine callsIn_of_wp_marks Tryz.func67 rfl trivial ?_ rfl
  simp only [Tryz.ntmps67, List.size_toArray, List.length_cons, List.length_nil, Nat.reduceAdd, Nat.reduceSub, Array.replicate_succ, Array.replicate_zero, List.push_toArray, List.append_toArray, List.nil_append, List.cons_append]
  have hu := Tryz.underlying139
  gi_wp2_with fail
  have hP0 : PutSt (α := Src) 44 120 B l w [] (((w.alloc (.cells #[.func (.func 44) #[] #[]] 120)).alloc (.cells #[.slice none 0 0] 139)).alloc (.cells #[.int .i64 0] 3)) := by
    obtain ⟨w1, e1⟩ : ∃ w1, w.alloc (.cells #[.func (.func 44) #[] #[]] 120) = w1 := ⟨_, rfl⟩
    obtain ⟨w2, e2⟩ : ∃ w2, w1.alloc (.cells #[.slice none 0 0] 139) = w2 := ⟨_, rfl⟩
    obtain ⟨w3, e3⟩ : ∃ w3, w2.alloc (.cells #[.int .i64 0] 3) = w3 := ⟨_, rfl⟩
    have z1 : w1.heap.size = w.heap.size + 1 := by rw [← e1]; exact World.size_alloc _ _
    have z2 : w2.heap.size = w.heap.size + 1 + 1 := by rw [← e2, World.size_alloc, z1]
    have z3 : w3.heap.size = w.heap.size + 1 + 1 + 1 := by rw [← e3, World.size_alloc, z2]
    have b1 : Below w.heap.size w w1 := by rw [← e1]; exact (Below.refl _ _).alloc (Nat.le_refl _) _
    have b2 : Below w1.heap.size w1 w2 := by rw [← e2]; exact (Below.refl _ _).alloc (Nat.le_refl _) _
    have b3 : Below w2.heap.size w2 w3 := by rw [← e3]; exact (Below.refl _ _).alloc (Nat.le_refl _) _
    have k0 := heap_alloc_new w (.cells #[.func (.func 44) #[] #[]] 120)
    have k1 := heap_alloc_new w1 (.cells #[.slice none 0 0] 139)
    have k2 := heap_alloc_new w2 (.cells #[.int .i64 0] 3)
    rw [e1] at k0
    rw [e2, z1] at k1
    rw [e3, z2] at k2
    rw [e1, e2, e3]
    have hb := b1.trans ((b2.trans (b3.mono b2.size)).mono b1.size)
    exact ⟨hb, blk_below (blk_below k0 b2) b3, ⟨hb, by omega, _, blk_below k1 b3, Kd.R_nil _ _ _ _ _⟩, k2, by omega, by simp⟩
  generalize ((w.alloc (.cells #[.func (.func 44) #[] #[]] 120)).alloc (.cells #[.slice none 0 0] 139)).alloc (.cells #[.int .i64 0] 3) = w5 at hP0 ⊢
  have hsz5 := hP0.sz
  have hhands := valuesSrc_hands (6 - 1) (by omega) Bs c w A l hC1 w5 hP0.hb (by omega) ((hP0.hb.cell (p := ⟨Bs, 0, none⟩) hBl).trans hBs)
  refine range_hands (F := Fence.wide) (n := 6) rfl (by omega) (gf := 90) (lb := #[.pointer (some ⟨Bs, 0, none⟩)]) rfl trivial (enters_of Tryz.func90 (by kernel_rfl) rfl)
    hhands (fun A B hst k hk => hst.elim) (fun _ => rfl) (fun h k => h.trans k) (fun W l o o' hl ho hc hw => belowK_b (by exact hP0.hb.size) _ _ _ _ hl ho hc hw)
    (PutSt 44 120 B l w) (fun _ _ => False) (PutSt.own hP0.hb.size) (fun s W W' row hs hg hr => hs.elim) (fun x s W W' row hs hg hr => hs) hP0 (fun s A B hs hst => hst.elim) (fun s A B hs _ => hs.elim)
    (fun p a' W => ∃ Ab, a' = { tmps := #[.pointer (some ⟨g, 0, none⟩), .func (.func 90) #[] #[.pointer (some ⟨Bs, 0, none⟩)], .func (.func 44) #[] #[], undef, undef, .pointer (some ⟨w.heap.size, 0, none⟩), .pointer (some ⟨w.heap.size + 1, 0, none⟩), .pointer (some ⟨w.heap.size + 1 + 1, 0, none⟩), .pointer (some ⟨Ab, 0, none⟩), .agg #[.slice none 0 0], .func (.func 90) #[] #[.pointer (some ⟨Bs, 0, none⟩)], encA p.2, undef, undef, undef, undef, undef, undef, undef, undef, undef, undef, undef, undef, undef, undef, undef, undef, undef, undef], defers := [] } ∧ W.heap[Ab]? = some (.cells p.2.toArray 119 (0, 0)))
    (fun p a' s W W' row hs hg hr => by obtain ⟨Ab, h1, h2⟩ := hs; exact ⟨Ab, h1, blk_grown h2 hg (cells_ne_row hr h2)⟩) ?assign ?body ?done ?stop
  case assign =>
    rintro lp pre ⟨x, cs⟩ W K hI ⟨hK, hm⟩ hCont
    have hK0 := hK
    simp only at hK
    have hcs := kSrc_open hK; subst hcs
    simp only [encA]
    gi_wp2
    have hb := (Below.refl W.heap.size W).alloc (Nat.le_refl _) (.cells #[.string x.name, .int .i64 x.time, .int .i64 x.at_] 119)
    exact hCont _ _ (KeepsOthers.alloc _ _) (hb.mono hI.hb.size) (hI.below hb) ⟨hK0, hm⟩ ⟨_, rfl, heap_alloc_new W _⟩
  case body =>
    rintro lp pre ⟨x, cs⟩ a' W hI ⟨hK, hm⟩ ⟨Ab, rfl, hab⟩ hln
    have hK0 := hK
    simp only at hK hm
    have hcs := kSrc_open hK; subst hcs
    have b_bx := blk_cell hI.bx 0
    have b0 := blk_cell hab 0
    have b1 := blk_cell hab 1
    have b2 := blk_cell hab 2
    have hgx := HG.out x hm
    have hpl : (pre.flatMap (fun p => B p.1)).length ≤ M * 1000 := by
      have h2 := flat_len (fun p : Src × List Value => B p.1) M pre (fun p hp => HM.out _ (HG.out _ (hI.gs p hp)))
      exact Nat.le_trans h2 (Nat.mul_le_mul_left M (by have := HN.out; omega))
    have hc := H1.out w (w.heap.size + 1) (pre.flatMap (fun p => B p.1)) x [.string x.name, .int .i64 x.time, .int .i64 x.at_] W hK0 hgx (by have := HM.out x hgx; omega) hI.it
    have HI := Aside0.mk hI
    have HMM := Aside0.mk hm
    have hpb : pre.length < 1000 := by have := HN.out; omega
    clear hI hK hm hgx hpl hK0 hhands hln
    simp only [encA] at hc
    gi_wp2_with fail
    refine ⟨trivial, ?_⟩
    gi_at_call 44
    refine (CallsIn.inRound lp (callsIn_wide.2 hc)).mono ?_
    rintro e W1 ⟨⟨v, rfl⟩, hcs, hpf⟩
    obtain ⟨n0, n1, hst⟩ := HI.out.step (p := (x, [.string x.name, .int .i64 x.time, .int .i64 x.at_])) HMM.out (by decide) hcs hpf
    have HST := Aside0.mk hst
    clear hst hcs hpf hc
    gi_wp2
    exact .inl ⟨rfl, HST.out.2.1, HST.out.2.2, HST.out.1⟩
  case done =>
    rintro D xs W hD hS hI hK
    have hlen : xs.length = l.length := by have := congrArg List.length hS; rwa [List.length_map] at this
    have hnn := hI.nn
    rw [hlen] at hnn
    have hfl : xs.flatMap (fun p => B p.1) = l.flatMap B := by rw [← hS, List.flatMap_map]
    have hit := hI.it
    rw [hfl] at hit
    have hup := cup_calls w0 g bs (l.length : Int) (by have := HN.out; omega) (by have := HL.out; omega) W (HS.out.kept hI.hb)
    have n0 := blk_cell hnn 0
    have HI := Aside0.mk hI.hb
    have HIT := Aside0.mk hit
    have HNN := Aside0.mk hnn
    have HK := Aside0.mk hK
    obtain ⟨nl, hnl⟩ : ∃ nl, l.length = nl := ⟨_, rfl⟩
    have HNL := Aside0.mk hnl
    rw [hnl] at n0 hup
    clear hI hK hS hlen hnn hfl hit hhands hnl hP0
    gi_wp2_with fail
    refine ⟨trivial, ?_⟩
    gi_at_call 49
    refine (callsIn_wide.2 hup).mono ?_
    rintro e w6 ⟨⟨ve, rfl⟩, hcs, hpf⟩
    have hgl : g < w.heap.size := HS.out.lt
    have hcw := HS.out.kept HI.out
    have HK6 := Aside0.mk (hpf.obj_at hcw HK.out rfl)
    have hCR : ∀ k, w.heap.size ≤ k → some k ≠ CR g W := fun k hk => by
      obtain ⟨_, _, cv0, hcv0, hcr0⟩ := HS.out
      rw [CR_of (blk_below hcv0 HI.out)]
      intro e
      have := own_lt (Kd.own_of_R hcr0) k e.symm
      omega
    obtain ⟨_, _, iv, hiv, hir⟩ := HIT.out
    have hiv6 := hpf.2.2.1 _ _ hiv (by omega) (hCR _ (by omega))
    have hir6 := Kd.R_mono (Kd.R_step (Kd.R_bound hir) (fun k hk hlt => by
      obtain ⟨_, hbk, _, q, _, cells, hcc⟩ := hk
      exact (hpf.2.2.1 k _ hcc (by omega) (hCR k hbk)).trans hcc.symm)) (fun _ _ => trivial)
    obtain ⟨vA, vc, e0, hvl, hvC⟩ := Kd.R_reads hir6
    subst e0
    have HCS := Aside0.mk hcs
    obtain ⟨_, _, cv, hcv, hcr⟩ := hcs
    have c0 := blk_cell hiv6 0
    have d0 := blk_cell hcv 0
    obtain ⟨m, hm⟩ : ∃ m, (l.flatMap B).length = m := ⟨_, rfl⟩
    have HLN := Aside0.mk (show ((bs ++ upB (nl : Int)).length + (l.flatMap B).length) * 1 ≤ 140737488355328 by have := HL.out; unfold listB at this; rw [HNL.out] at this; simp only [List.length_append] at this ⊢; omega)
    have HPF := Aside0.mk ((PF.of_below hgl HI.out).trans hpf)
    have HCV := Aside0.mk hcv
    have HCR := Aside0.mk hcr
    have HSZ := Aside0.mk (show w0.heap.size ≤ w6.drew.heap.size from HCS.out.1.size)
    have HRD := Aside0.mk (show ReadsRow (fun x cs => cs = [.int .u8 x]) (Kd.int .u8).sz w6.drew vA m (l.flatMap B) from by rw [← hm]; exact Kd.C_below hvC (below_drew1 (Below.refl _ _)))
    rw [hm] at HLN c0
    clear hvC hvl hir6 hir hiv hiv6 hCR hcw hpf hcv hcr n0 hup hm
    gi_wp2_with fail
    refine wpIn_wide.2 ?_
    refine wp_mono (Q := fun e a w => e = .normal ∧ _) ?_ (fun e a w h => h.2)
    refine start_ (n := 11) (S := fun w' => w'.cell? ⟨g, 0, none⟩ = some cv ∧ w'.cell? ⟨w.heap.size + 1, 0, none⟩ = some (.slice vA m vc)) (ds := [7, 10]) #[false, false, false, false, false, false, false, false, false, false, false] (by kernel_rfl) rfl rfl ⟨d0, c0⟩ (fun hHeld => ?_); refine with_tabW (T := rtab .any (opsOf Tryz.f67 7)) rfl (B := [0, 0, 2, 6, 14, 0, 32, 126, 255, 511, 1023]) (by kernel_rfl) (fun HT_ HW_ => ?_)
    refine pure_ (i := 0) (N := some 20) (v := ?_) (a' := ?_) #[true, false, false, false, false, false, false, false, false, false, false] rfl rfl (any_of HT_.out (by kernel_rfl)) (fun _ _ _ h => nomatch h.1) (Or.inl ⟨by rfl, ?_⟩) ?_ ?_
    rotate_left
    · intro w'
      go_simp
      with_reducible rfl
    rotate_left
    · simp only [Act.put, List.setIfInBounds_toArray, List.set_cons_zero, List.set_cons_succ, i64_w, i32_w]
      rfl
    refine pure_ (i := 1) (N := some 21) (v := ?_) (a' := ?_) #[true, true, false, false, false, false, false, false, false, false, false] rfl rfl (any_of HT_.out (by kernel_rfl)) (fun _ _ _ h => nomatch h.1) (Or.inl ⟨by rfl, ?_⟩) ?_ ?_
    rotate_left
    · intro w'
      go_simp
      with_reducible rfl
    rotate_left
    · simp only [Act.put, List.setIfInBounds_toArray, List.set_cons_zero, List.set_cons_succ, i64_w, i32_w]
      rfl
    refine pure_ (i := 2) (N := some 22) (v := ?_) (a' := ?_) #[true, true, true, false, false, false, false, false, false, false, false] rfl rfl (any_of HT_.out (by kernel_rfl)) (fun _ _ _ h => nomatch h.1) (Or.inl ⟨by rfl, ?_⟩) ?_ ?_
    rotate_left
    · intro w'
      go_simp
      with_reducible rfl
    rotate_left
    · simp only [Act.put, List.setIfInBounds_toArray, List.set_cons_zero, List.set_cons_succ, i64_w, i32_w]
      rfl
    refine pure_ (i := 3) (N := some 23) (v := ?_) (a' := ?_) #[true, true, true, true, false, false, false, false, false, false, false] rfl rfl (any_of HT_.out (by kernel_rfl)) (fun _ _ _ h => nomatch h.1) (Or.inl ⟨by rfl, ?_⟩) ?_ ?_
    rotate_left
    · intro w'
      go_simp
      with_reducible rfl
    rotate_left
    · simp only [Act.put, List.setIfInBounds_toArray, List.set_cons_zero, List.set_cons_succ, i64_w, i32_w]
      rfl
    refine take_ (i := 4) (N := some 24) (v := ?_) (a' := ?_) #[true, true, true, true, true, false, false, false, false, false, false] rfl rfl (take_ofW HT_.out HW_.out (by kernel_rfl)) (fun _ _ _ h => nomatch h.1) (Or.inl ⟨by rfl, ?_⟩) hHeld ?_ ?_
    rotate_left
    · rintro w' ⟨s0, s1⟩
      go_simp
      with_reducible rfl
    rotate_left
    · simp only [Act.put, List.setIfInBounds_toArray, List.set_cons_zero, List.set_cons_succ, i64_w, i32_w]
      rfl
    refine pure_ (i := 5) (N := some 25) (v := ?_) (a' := ?_) #[true, true, true, true, true, true, false, false, false, false, false] rfl rfl (any_of HT_.out (by kernel_rfl)) (fun _ _ _ h => nomatch h.1) (Or.inl ⟨by rfl, ?_⟩) ?_ ?_
    rotate_left
    · intro w'
      go_simp
      with_reducible rfl
    rotate_left
    · simp only [Act.put, List.setIfInBounds_toArray, List.set_cons_zero, List.set_cons_succ, i64_w, i32_w]
      rfl
    refine take_ (i := 6) (N := some 26) (v := ?_) (a' := ?_) #[true, true, true, true, true, true, true, false, false, false, false] rfl rfl (take_ofW HT_.out HW_.out (by kernel_rfl)) (fun _ _ _ h => nomatch h.1) (Or.inl ⟨by rfl, ?_⟩) hHeld ?_ ?_
    rotate_left
    · rintro w' ⟨s0, s1⟩
      go_simp
      with_reducible rfl
    rotate_left
    · simp only [Act.put, List.setIfInBounds_toArray, List.set_cons_zero, List.set_cons_succ, i64_w, i32_w]
      rfl
    refine last_ (i := 7) (N := some 27) #[true, true, true, true, true, true, true, true, false, false, false] rfl rfl (one_of HT_.out (by kernel_rfl)) (by decide) (fun K hK => ?_)
    refine Kd.R_append_rows_step (Rr := fun x cs => cs = [.int .u8 x]) (Kd.int .u8) (w0 := w0) w0.heap.size (by rfl) (.tmp 24) (.tmp 26) 22 5 (.int .u8 0) 1 rfl Tryz.underlying22 info5 rfl (by decide) (by omega) cv (bs ++ upB (nl : Int)) (l.flatMap B) vA m vc (fun _ => True) (fun _ => False) rfl rfl (Kd.R_below HCR.out (below_drew1 (Below.refl _ _))) HRD.out (fun _ _ h => h) (fun _ hk => hk.elim) (fun _ _ => trivial) (below_drew1 HCS.out.1) HSZ.out HLN.out ?_
    intro v1 w1 hr hb hg hat
    refine (show K (Act.put _ (some 27) _) _ from hK.out _ _ ?_)
    clear hK K
    obtain ⟨v1A, v1n, v1c, e1⟩ : ∃ A n c, v1 = .slice A n c := by obtain ⟨A, c, e⟩ := Kd.R_slice hr; exact ⟨A, _, c, e⟩
    subst e1
    have hv7 := blk_grown (blk_drew HCV.out) hg (Kd.R_ne HCR.out HCV.out (by decide))
    have d7 := blk_cell hv7 0
    have f7 := blk_frozen hv7 0
    have HR7 := Aside0.mk hr
    have HB7 := Aside0.mk hb
    have HG7 := Aside0.mk hg
    have HAT := Aside0.mk hat
    clear hr hb hg hat hv7
    simp only [Act.put, List.setIfInBounds_toArray, List.set_cons_zero, List.set_cons_succ]
    refine pure_ (i := 8) (N := some 28) (v := ?_) (a' := ?_) #[true, true, true, true, true, true, true, true, true, false, false] rfl rfl (any_of HT_.out (by kernel_rfl)) (fun _ _ _ h => nomatch h.1) (Or.inl ⟨by rfl, ?_⟩) ?_ ?_
    rotate_left
    · intro w'
      go_simp
      with_reducible rfl
    rotate_left
    · simp only [Act.put, List.setIfInBounds_toArray, List.set_cons_zero, List.set_cons_succ, i64_w, i32_w]
      rfl
    refine pure_ (i := 9) (N := some 29) (v := ?_) (a' := ?_) #[true, true, true, true, true, true, true, true, true, true, false] rfl rfl (any_of HT_.out (by kernel_rfl)) (fun _ _ _ h => nomatch h.1) (Or.inl ⟨by rfl, ?_⟩) ?_ ?_
    rotate_left
    · intro w'
      go_simp
      with_reducible rfl
    rotate_left
    · simp only [Act.put, List.setIfInBounds_toArray, List.set_cons_zero, List.set_cons_succ, i64_w, i32_w]
      rfl
    refine last_ (i := 10) (N := none) #[true, true, true, true, true, true, true, true, true, true, true] rfl rfl (one_of HT_.out (by kernel_rfl)) (by decide) (fun K hK => ?_)
    refine skip_ (w1 := ?_) (by rfl) rfl ?_ ?_
    rotate_left
    · go_simp
      rfl
    refine hK.out _ _ ?_
    clear hK K
    refine done_ (done_of HT_.out (by kernel_rfl)) ?_
    refine ⟨rfl, ?_⟩
    clear hHeld HT_ HW_
    have FIN := Aside0.mk (coil_fin2 HCS.out HPF.out HS.out.1.size HCV.out hgl HCR.out HG7.out HR7.out HB7.out HAT.out (show w.heap.size ≤ D by omega) HK6.out)
    gi_wp2
    refine ⟨by simp, .inl ⟨_, _, rfl, run_takeDeferred FIN.out.2.2.1, ?_⟩⟩
    exact ⟨.tuple #[], by simp [results, Tryz.results67, go_sem], rfl, by unfold listB; rw [HNL.out, ← List.append_assoc]; exact FIN.out.2.2.2.1, FIN.out.2.2.2.2⟩
  case stop =>
    rintro D pre W hD hS hI hK
    exact hI.elim

theorem listSrc_calls (G : Src → Prop) (B : Src → List Int) (M : Nat) (hM : ∀ x, G x → (B x).length ≤ M) (hM2 : M ≤ 90000000) (h1 : PutOne 44 kSrc encA G B) (w0 : World) (g : Nat) (bs : List Int) (A : Option Addr) (c : Nat) (l : List (Src)) (hC : Kd.C kSrc w0 A l.length l) (hG : gList G l) (hl : bs.length + (listB B l).length ≤ 100000000000)
    (w : World) (h : CS w0 g bs w) :
    Calls Tryz.prog 43 #[.pointer (some ⟨g, 0, none⟩), .slice A l.length c, .func (.func 44) #[] #[]] w fun e w' => e = .returned (.tuple #[]) ∧ CS w0 g (bs ++ listB B l) w' ∧ PF g w w' := by
  have hb := (Below.refl _ w).alloc (Nat.le_refl _) (.cells #[.slice A l.length c] 34)
  have hp := PutSrc_calls G B M hM hM2 h1 w0 g bs A c l hC hG.2 hG.1 hl (w.alloc (.cells #[.slice A l.length c] 34)) (h.kept hb) w.heap.size (blk_cell (blk_new w _) 0)
  have hv := fun m => valuesSrc_calls A m c w
  have HP0 := Aside0.mk (PF.of_below h.lt hb)
  obtain ⟨nl, hnl⟩ : ∃ nl, l.length = nl := ⟨_, rfl⟩
  rw [hnl] at hp HP0 ⊢
  clear hb h hl hG hC h1 hM hnl
  go_enter Tryz.func43, Tryz.ntmps43
  go_wp2_with (first
    | (go_at_call 68; refine (hv _).mono ?_; rintro e w1 ⟨rfl, rfl⟩; clear hv)
    | (go_at_call 67; refine (show Calls _ _ _ _ _ from hp).mono ?_; rintro e w2 ⟨rfl, hcs, hpf⟩; have HC := Aside0.mk hcs; have HP := Aside0.mk hpf; clear hcs hpf hp))
  go_end0
  exact ⟨rfl, HC.out, HP0.out.trans HP.out⟩

set_option maxRecDepth 100000 in
set_option maxHeartbeats 8000000 in
theorem PutSen_calls (G : Sen → Prop) (B : Sen → List Int) (M : Nat) (hM : ∀ x, G x → (B x).length ≤ M) (hM2 : M ≤ 90000000) (h1 : PutOne 46 kSen encA G B) (w0 : World) (g : Nat) (bs : List Int) (A : Option Addr) (c : Nat) (l : List (Sen)) (hC : Kd.C kSen w0 A l.length l) (hG : ∀ x ∈ l, G x) (hn : l.length ≤ 1000) (hl : bs.length + (listB B l).length ≤ 100000000000)
    (w : World) (h : CS w0 g bs w) (Bs : Nat) (hBs : w.cell? ⟨Bs, 0, none⟩ = some (.slice A l.length c)) :
    Calls Tryz.prog 69 #[.pointer (some ⟨g, 0, none⟩), .func (.func 91) #[] #[.pointer (some ⟨Bs, 0, none⟩)], .func (.func 46) #[] #[]] w fun e w' => e = .returned (.tuple #[]) ∧ CS w0 g (bs ++ listB B l) w' ∧ PF g w w' := by
  have HS := Aside0.mk h
  have HG := Aside0.mk hG
  have HL := Aside0.mk hl
  have HN := Aside0.mk hn
  have HM := Aside0.mk hM
  have H1 := Aside0.mk h1
  have hC1 := Kd.C_below hC h.1
  have hBl : Bs < w.heap.size := World.block_lt_of_cell? w _ hBs
  clear h hG hl hn hM h1 hC
  refine (callsIn_wide (n := 6)).1 ?_
  refine callsIn_of_wp_marks Tryz.func69 rfl trivial ?_ rfl
  simp only [Tryz.ntmps69, List.size_toArray, List.length_cons, List.length_nil, Nat.reduceAdd, Nat.reduceSub, Array.replicate_succ, Array.replicate_zero, List.push_toArray, List.append_toArray, List.nil_append, List.cons_append]
  have hu := Tryz.underlying139
  gi_wp2_with fail
  have hP0 : PutSt (α := Sen) 46 123 B l w [] (((w.alloc (.cells #[.func (.func 46) #[] #[]] 123)).alloc (.cells #[.slice none 0 0] 139)).alloc (.cells #[.int .i64 0] 3)) := by
    obtain ⟨w1, e1⟩ : ∃ w1, w.alloc (.cells #[.func (.func 46) #[] #[]] 123) = w1 := ⟨_, rfl⟩
    obtain ⟨w2, e2⟩ : ∃ w2, w1.alloc (.cells #[.slice none 0 0] 139) = w2 := ⟨_, rfl⟩
    obtain ⟨w3, e3⟩ : ∃ w3, w2.alloc (.cells #[.int .i64 0] 3) = w3 := ⟨_, rfl⟩
    have z1 : w1.heap.size = w.heap.size + 1 := by rw [← e1]; exact World.size_alloc _ _
    have z2 : w2.heap.size = w.heap.size + 1 + 1 := by rw [← e2, World.size_alloc, z1]
    have z3 : w3.heap.size = w.heap.size + 1 + 1 + 1 := by rw [← e3, World.size_alloc, z2]
    have b1 : Below w.heap.size w w1 := by rw [← e1]; exact (Below.refl _ _).alloc (Nat.le_refl _) _
    have b2 : Below w1.heap.size w1 w2 := by rw [← e2]; exact (Below.refl _ _).alloc (Nat.le_refl _) _
    have b3 : Below w2.heap.size w2 w3 := by rw [← e3]; exact (Below.refl _ _).alloc (Nat.le_refl _) _
    have k0 := heap_alloc_new w (.cells #[.func (.func 46) #[] #[]] 123)
    have k1 := heap_alloc_new w1 (.cells #[.slice none 0 0] 139)
    have k2 := heap_alloc_new w2 (.cells #[.int .i64 0] 3)
    rw [e1] at k0
    rw [e2, z1] at k1
    rw [e3, z2] at k2
    rw [e1, e2, e3]
    have hb := b1.trans ((b2.trans (b3.mono b2.size)).mono b1.size)
    exact ⟨hb, blk_below (blk_below k0 b2) b3, ⟨hb, by omega, _, blk_below k1 b3, Kd.R_nil _ _ _ _ _⟩, k2, by omega, by simp⟩
  generalize ((w.alloc (.cells #[.func (.func 46) #[] #[]] 123)).alloc (.cells #[.slice none 0 0] 139)).alloc (.cells #[.int .i64 0] 3) = w5 at hP0 ⊢
  have hsz5 := hP0.sz
  have hhands := valuesSen_hands (6 - 1) (by omega) Bs c w A l hC1 w5 hP0.hb (by omega) ((hP0.hb.cell (p := ⟨Bs, 0, none⟩) hBl).trans hBs)
  refine range_hands (F := Fence.wide) (n := 6) rfl (by omega) (gf := 91) (lb := #[.pointer (some ⟨Bs, 0, none⟩)]) rfl trivial (enters_of Tryz.func91 (by kernel_rfl) rfl)
    hhands (fun A B hst k hk => hst.elim) (fun _ => rfl) (fun h k => h.trans k) (fun W l o o' hl ho hc hw => belowK_b (by exact hP0.hb.size) _ _ _ _ hl ho hc hw)
    (PutSt 46 123 B l w) (fun _ _ => False) (PutSt.own hP0.hb.size) (fun s W W' row hs hg hr => hs.elim) (fun x s W W' row hs hg hr => hs) hP0 (fun s A B hs hst => hst.elim) (fun s A B hs _ => hs.elim)
    (fun p a' W => ∃ Ab, a' = { tmps := #[.pointer (some ⟨g, 0, none⟩), .func (.func 91) #[] #[.pointer (some ⟨Bs, 0, none⟩)], .func (.func 46) #[] #[], undef, undef, .pointer (some ⟨w.heap.size, 0, none⟩), .pointer (some ⟨w.heap.size + 1, 0, none⟩), .pointer (some ⟨w.heap.size + 1 + 1, 0, none⟩), .pointer (some ⟨Ab, 0, none⟩), .agg #[.slice none 0 0], .func (.func 91) #[] #[.pointer (some ⟨Bs, 0, none⟩)], encA p.2, undef, undef, undef, undef, undef, undef, undef, undef, undef, undef, undef, undef, undef, undef, undef, undef, undef, undef], defers := [] } ∧ W.heap[Ab]? = some (.cells p.2.toArray 122 (0, 0)))
    (fun p a' s W W' row hs hg hr => by obtain ⟨Ab, h1, h2⟩ := hs; exact ⟨Ab, h1, blk_grown h2 hg (cells_ne_row hr h2)⟩) ?assign ?body ?done ?stop
  case assign =>
    rintro lp pre ⟨x, cs⟩ W K hI ⟨hK, hm⟩ hCont
    have hK0 := hK
    simp only at hK
    obtain ⟨A_seqs, c_seqs, hcs, _⟩ := kSen_open hK; subst hcs
    simp only [encA]
    gi_wp2
    have hb := (Below.refl W.heap.size W).alloc (Nat.le_refl _) (.cells #[.string x.name, .int .i64 x.floor, .slice A_seqs x.seqs.length c_seqs] 122)
    exact hCont _ _ (KeepsOthers.alloc _ _) (hb.mono hI.hb.size) (hI.below hb) ⟨hK0, hm⟩ ⟨_, rfl, heap_alloc_new W _⟩
  case body =>
    rintro lp pre ⟨x, cs⟩ a' W hI ⟨hK, hm⟩ ⟨Ab, rfl, hab⟩ hln
    have hK0 := hK
    simp only at hK hm
    obtain ⟨A_seqs, c_seqs, hcs, _⟩ := kSen_open hK; subst hcs
    have b_bx := blk_cell hI.bx 0
    have b0 := blk_cell hab 0
    have b1 := blk_cell hab 1
    have b2 := blk_cell hab 2
    have hgx := HG.out x hm
    have hpl : (pre.flatMap (fun p => B p.1)).length ≤ M * 1000 := by
      have h2 := flat_len (fun p : Sen × List Value => B p.1) M pre (fun p hp => HM.out _ (HG.out _ (hI.gs p hp)))
      exact Nat.le_trans h2 (Nat.mul_le_mul_left M (by have := HN.out; omega))
    have hc := H1.out w (w.heap.size + 1) (pre.flatMap (fun p => B p.1)) x [.string x.name, .int .i64 x.floor, .slice A_seqs x.seqs.length c_seqs] W hK0 hgx (by have := HM.out x hgx; omega) hI.it
    have HI := Aside0.mk hI
    have HMM := Aside0.mk hm
    have hpb : pre.length < 1000 := by have := HN.out; omega
    clear hI hK hm hgx hpl hK0 hhands hln
    simp only [encA] at hc
    gi_wp2_with fail
    refine ⟨trivial, ?_⟩
    gi_at_call 46
    refine (CallsIn.inRound lp (callsIn_wide.2 hc)).mono ?_
    rintro e W1 ⟨⟨v, rfl⟩, hcs, hpf⟩
    obtain ⟨n0, n1, hst⟩ := HI.out.step (p := (x, [.string x.name, .int .i64 x.floor, .slice A_seqs x.seqs.length c_seqs])) HMM.out (by decide) hcs hpf
    have HST := Aside0.mk hst
    clear hst hcs hpf hc
    gi_wp2
    exact .inl ⟨rfl, HST.out.2.1, HST.out.2.2, HST.out.1⟩
  case done =>
    rintro D xs W hD hS hI hK
    have hlen : xs.length = l.length := by have := congrArg List.length hS; rwa [List.length_map] at this
    have hnn := hI.nn
    rw [hlen] at hnn
    have hfl : xs.flatMap (fun p => B p.1) = l.flatMap B := by rw [← hS, List.flatMap_map]
    have hit := hI.it
    rw [hfl] at hit
    have hup := cup_calls w0 g bs (l.length : Int) (by have := HN.out; omega) (by have := HL.out; omega) W (HS.out.kept hI.hb)
    have n0 := blk_cell hnn 0
    have HI := Aside0.mk hI.hb
    have HIT := Aside0.mk hit
    have HNN := Aside0.mk hnn
    have HK := Aside0.mk hK
    obtain ⟨nl, hnl⟩ : ∃ nl, l.length = nl := ⟨_, rfl⟩
    have HNL := Aside0.mk hnl
    rw [hnl] at n0 hup
    clear hI hK hS hlen hnn hfl hit hhands hnl hP0
    gi_wp2_with fail
    refine ⟨trivial, ?_⟩
    gi_at_call 49
    refine (callsIn_wide.2 hup).mono ?_
    rintro e w6 ⟨⟨ve, rfl⟩, hcs, hpf⟩
    have hgl : g < w.heap.size := HS.out.lt
    have hcw := HS.out.kept HI.out
    have HK6 := Aside0.mk (hpf.obj_at hcw HK.out rfl)
    have hCR : ∀ k, w.heap.size ≤ k → some k ≠ CR g W := fun k hk => by
      obtain ⟨_, _, cv0, hcv0, hcr0⟩ := HS.out
      rw [CR_of (blk_below hcv0 HI.out)]
      intro e
      have := own_lt (Kd.own_of_R hcr0) k e.symm
      omega
    obtain ⟨_, _, iv, hiv, hir⟩ := HIT.out
    have hiv6 := hpf.2.2.1 _ _ hiv (by omega) (hCR _ (by omega))
    have hir6 := Kd.R_mono (Kd.R_step (Kd.R_bound hir) (fun k hk hlt => by
      obtain ⟨_, hbk, _, q, _, cells, hcc⟩ := hk
      exact (hpf.2.2.1 k _ hcc (by omega) (hCR k hbk)).trans hcc.symm)) (fun _ _ => trivial)
    obtain ⟨vA, vc, e0, hvl, hvC⟩ := Kd.R_reads hir6
    subst e0
    have HCS := Aside0.mk hcs
    obtain ⟨_, _, cv, hcv, hcr⟩ := hcs
    have c0 := blk_cell hiv6 0
    have d0 := blk_cell hcv 0
    obtain ⟨m, hm⟩ : ∃ m, (l.flatMap B).length = m := ⟨_, rfl⟩
    have HLN := Aside0.mk (show ((bs ++ upB (nl : Int)).length + (l.flatMap B).length) * 1 ≤ 140737488355328 by have := HL.out; unfold listB at this; rw [HNL.out] at this; simp only [List.length_append] at this ⊢; omega)
    have HPF := Aside0.mk ((PF.of_below hgl HI.out).trans hpf)
    have HCV := Aside0.mk hcv
    have HCR := Aside0.mk hcr
    have HSZ := Aside0.mk (show w0.heap.size ≤ w6.drew.heap.size from HCS.out.1.size)
    have HRD := Aside0.mk (show ReadsRow (fun x cs => cs = [.int .u8 x]) (Kd.int .u8).sz w6.drew vA m (l.flatMap B) from by rw [← hm]; exact Kd.C_below hvC (below_drew1 (Below.refl _ _)))
    rw [hm] at HLN c0
    clear hvC hvl hir6 hir hiv hiv6 hCR hcw hpf hcv hcr n0 hup hm
    gi_wp2_with fail
    refine wpIn_wide.2 ?_
    refine wp_mono (Q := fun e a w => e = .normal ∧ _) ?_ (fun e a w h => h.2)
    refine start_ (n := 11) (S := fun w' => w'.cell? ⟨g, 0, none⟩ = some cv ∧ w'.cell? ⟨w.heap.size + 1, 0, none⟩ = some (.slice vA m vc)) (ds := [7, 10]) #[false, false, false, false, false, false, false, false, false, false, false] (by kernel_rfl) rfl rfl ⟨d0, c0⟩ (fun hHeld => ?_); refine with_tabW (T := rtab .any (opsOf Tryz.f69 7)) rfl (B := [0, 0, 2, 6, 14, 0, 32, 126, 255, 511, 1023]) (by kernel_rfl) (fun HT_ HW_ => ?_)
    refine pure_ (i := 0) (N := some 20) (v := ?_) (a' := ?_) #[true, false, false, false, false, false, false, false, false, false, false] rfl rfl (any_of HT_.out (by kernel_rfl)) (fun _ _ _ h => nomatch h.1) (Or.inl ⟨by rfl, ?_⟩) ?_ ?_
    rotate_left
    · intro w'
      go_simp
      with_reducible rfl
    rotate_left
    · simp only [Act.put, List.setIfInBounds_toArray, List.set_cons_zero, List.set_cons_succ, i64_w, i32_w]
      rfl
    refine pure_ (i := 1) (N := some 21) (v := ?_) (a' := ?_) #[true, true, false, false, false, false, false, false, false, false, false] rfl rfl (any_of HT_.out (by kernel_rfl)) (fun _ _ _ h => nomatch h.1) (Or.inl ⟨by rfl, ?_⟩) ?_ ?_
    rotate_left
    · intro w'
      go_simp
      with_reducible rfl
    rotate_left
    · simp only [Act.put, List.setIfInBounds_toArray, List.set_cons_zero, List.set_cons_succ, i64_w, i32_w]
      rfl
    refine pure_ (i := 2) (N := some 22) (v := ?_) (a' := ?_) #[true, true, true, false, false, false, false, false, false, false, false] rfl rfl (any_of HT_.out (by kernel_rfl)) (fun _ _ _ h => nomatch h.1) (Or.inl ⟨by rfl, ?_⟩) ?_ ?_
    rotate_left
    · intro w'
      go_simp
      with_reducible rfl
    rotate_left
    · simp only [Act.put, List.setIfInBounds_toArray, List.set_cons_zero, List.set_cons_succ, i64_w, i32_w]
      rfl
    refine pure_ (i := 3) (N := some 23) (v := ?_) (a' := ?_) #[true, true, true, true, false, false, false, false, false, false, false] rfl rfl (any_of HT_.out (by kernel_rfl)) (fun _ _ _ h => nomatch h.1) (Or.inl ⟨by rfl, ?_⟩) ?_ ?_
    rotate_left
    · intro w'
      go_simp
      with_reducible rfl
    rotate_left
    · simp only [Act.put, List.setIfInBounds_toArray, List.set_cons_zero, List.set_cons_succ, i64_w, i32_w]
      rfl
    refine take_ (i := 4) (N := some 24) (v := ?_) (a' := ?_) #[true, true, true, true, true, false, false, false, false, false, false] rfl rfl (take_ofW HT_.out HW_.out (by kernel_rfl)) (fun _ _ _ h => nomatch h.1) (Or.inl ⟨by rfl, ?_⟩) hHeld ?_ ?_
    rotate_left
    · rintro w' ⟨s0, s1⟩
      go_simp
      with_reducible rfl
    rotate_left
    · simp only [Act.put, List.setIfInBounds_toArray, List.set_cons_zero, List.set_cons_succ, i64_w, i32_w]
      rfl
    refine pure_ (i := 5) (N := some 25) (v := ?_) (a' := ?_) #[true, true, true, true, true, true, false, false, false, false, false] rfl rfl (any_of HT_.out (by kernel_rfl)) (fun _ _ _ h => nomatch h.1) (Or.inl ⟨by rfl, ?_⟩) ?_ ?_
    rotate_left
    · intro w'
      go_simp
      with_reducible rfl
    rotate_left
    · simp only [Act.put, List.setIfInBounds_toArray, List.set_cons_zero, List.set_cons_succ, i64_w, i32_w]
      rfl
    refine take_ (i := 6) (N := some 26) (v := ?_) (a' := ?_) #[true, true, true, true, true, true, true, false, false, false, false] rfl rfl (take_ofW HT_.out HW_.out (by kernel_rfl)) (fun _ _ _ h => nomatch h.1) (Or.inl ⟨by rfl, ?_⟩) hHeld ?_ ?_
    rotate_left
    · rintro w' ⟨s0, s1⟩
      go_simp
      with_reducible rfl
    rotate_left
    · simp only [Act.put, List.setIfInBounds_toArray, List.set_cons_zero, List.set_cons_succ, i64_w, i32_w]
      rfl
    refine last_ (i := 7) (N := some 27) #[true, true, true, true, true, true, true, true, false, false, false] rfl rfl (one_of HT_.out (by kernel_rfl)) (by decide) (fun K hK => ?_)
    refine Kd.R_append_rows_step (Rr := fun x cs => cs = [.int .u8 x]) (Kd.int .u8) (w0 := w0) w0.heap.size (by rfl) (.tmp 24) (.tmp 26) 22 5 (.int .u8 0) 1 rfl Tryz.underlying22 info5 rfl (by decide) (by omega) cv (bs ++ upB (nl : Int)) (l.flatMap B) vA m vc (fun _ => True) (fun _ => False) rfl rfl (Kd.R_below HCR.out (below_drew1 (Below.refl _ _))) HRD.out (fun _ _ h => h) (fun _ hk => hk.elim) (fun _ _ => trivial) (below_drew1 HCS.out.1) HSZ.out HLN.out ?_
    intro v1 w1 hr hb hg hat
    refine (show K (Act.put _ (some 27) _) _ from hK.out _ _ ?_)
    clear hK K
    obtain ⟨v1A, v1n, v1c, e1⟩ : ∃ A n c, v1 = .slice A n c := by obtain ⟨A, c, e⟩ := Kd.R_slice hr; exact ⟨A, _, c, e⟩
    subst e1
    have hv7 := blk_grown (blk_drew HCV.out) hg (Kd.R_ne HCR.out HCV.out (by decide))
    have d7 := blk_cell hv7 0
    have f7 := blk_frozen hv7 0
    have HR7 := Aside0.mk hr
    have HB7 := Aside0.mk hb
    have HG7 := Aside0.mk hg
    have HAT := Aside0.mk hat
    clear hr hb hg hat hv7
    simp only [Act.put, List.setIfInBounds_toArray, List.set_cons_zero, List.set_cons_succ]
    refine pure_ (i := 8) (N := some 28) (v := ?_) (a' := ?_) #[true, true, true, true, true, true, true, true, true, false, false] rfl rfl (any_of HT_.out (by kernel_rfl)) (fun _ _ _ h => nomatch h.1) (Or.inl ⟨by rfl, ?_⟩) ?_ ?_
    rotate_left
    · intro w'
      go_simp
      with_reducible rfl
    rotate_left
    · simp only [Act.put, List.setIfInBounds_toArray, List.set_cons_zero, List.set_cons_succ, i64_w, i32_w]
      rfl
    refine pure_ (i := 9) (N := some 29) (v := ?_) (a' := ?_) #[true, true, true, true, true, true, true, true, true, true, false] rfl rfl (any_of HT_.out (by kernel_rfl)) (fun _ _ _ h => nomatch h.1) (Or.inl ⟨by rfl, ?_⟩) ?_ ?_
    rotate_left
    · intro w'
      go_simp
      with_reducible rfl
    rotate_left
    · simp only [Act.put, List.setIfInBounds_toArray, List.set_cons_zero, List.set_cons_succ, i64_w, i32_w]
      rfl
    refine last_ (i := 10) (N := none) #[true, true, true, true, true, true, true, true, true, true, true] rfl rfl (one_of HT_.out (by kernel_rfl)) (by decide) (fun K hK => ?_)
    refine skip_ (w1 := ?_) (by rfl) rfl ?_ ?_
    rotate_left
    · go_simp
      rfl
    refine hK.out _ _ ?_
    clear hK K
    refine done_ (done_of HT_.out (by kernel_rfl)) ?_
    refine ⟨rfl, ?_⟩
    clear hHeld HT_ HW_
    have FIN := Aside0.mk (coil_fin2 HCS.out HPF.out HS.out.1.size HCV.out hgl HCR.out HG7.out HR7.out HB7.out HAT.out (show w.heap.size ≤ D by omega) HK6.out)
    gi_wp2
    refine ⟨by simp, .inl ⟨_, _, rfl, run_takeDeferred FIN.out.2.2.1, ?_⟩⟩
    exact ⟨.tuple #[], by simp [results, Tryz.results69, go_sem], rfl, by unfold listB; rw [HNL.out, ← List.append_assoc]; exact FIN.out.2.2.2.1, FIN.out.2.2.2.2⟩
  case stop =>
    rintro D pre W hD hS hI hK
    exact hI.elim

theorem listSen_calls (G : Sen → Prop) (B : Sen → List Int) (M : Nat) (hM : ∀ x, G x → (B x).length ≤ M) (hM2 : M ≤ 90000000) (h1 : PutOne 46 kSen encA G B) (w0 : World) (g : Nat) (bs : List Int) (A : Option Addr) (c : Nat) (l : List (Sen)) (hC : Kd.C kSen w0 A l.length l) (hG : gList G l) (hl : bs.length + (listB B l).length ≤ 100000000000)
    (w : World) (h : CS w0 g bs w) :
    Calls Tryz.prog 45 #[.pointer (some ⟨g, 0, none⟩), .slice A l.length c, .func (.func 46) #[] #[]] w fun e w' => e = .returned (.tuple #[]) ∧ CS w0 g (bs ++ listB B l) w' ∧ PF g w w' := by
  have hb := (Below.refl _ w).alloc (Nat.le_refl _) (.cells #[.slice A l.length c] 37)
  have hp := PutSen_calls G B M hM hM2 h1 w0 g bs A c l hC hG.2 hG.1 hl (w.alloc (.cells #[.slice A l.length c] 37)) (h.kept hb) w.heap.size (blk_cell (blk_new w _) 0)
  have hv := fun m => valuesSen_calls A m c w
  have HP0 := Aside0.mk (PF.of_below h.lt hb)
  obtain ⟨nl, hnl⟩ : ∃ nl, l.length = nl := ⟨_, rfl⟩
  rw [hnl] at hp HP0 ⊢
  clear hb h hl hG hC h1 hM hnl
  go_enter Tryz.func45, Tryz.ntmps45
  go_wp2_with (first
    | (go_at_call 70; refine (hv _).mono ?_; rintro e w1 ⟨rfl, rfl⟩; clear hv)
    | (go_at_call 69; refine (show Calls _ _ _ _ _ from hp).mono ?_; rintro e w2 ⟨rfl, hcs, hpf⟩; have HC := Aside0.mk hcs; have HP := Aside0.mk hpf; clear hcs hpf hp))
  go_end0
  exact ⟨rfl, HC.out, HP0.out.trans HP.out⟩

set_option maxRecDepth 100000 in
set_option maxHeartbeats 8000000 in
theorem PutCel_calls (G : Cel → Prop) (B : Cel → List Int) (M : Nat) (hM : ∀ x, G x → (B x).length ≤ M) (hM2 : M ≤ 90000000) (h1 : PutOne 48 kCel encA G B) (w0 : World) (g : Nat) (bs : List Int) (A : Option Addr) (c : Nat) (l : List (Cel)) (hC : Kd.C kCel w0 A l.length l) (hG : ∀ x ∈ l, G x) (hn : l.length ≤ 1000) (hl : bs.length + (listB B l).length ≤ 100000000000)
    (w : World) (h : CS w0 g bs w) (Bs : Nat) (hBs : w.cell? ⟨Bs, 0, none⟩ = some (.slice A l.length c)) :
    Calls Tryz.prog 73 #[.pointer (some ⟨g, 0, none⟩), .func (.func 94) #[] #[.pointer (some ⟨Bs, 0, none⟩)], .func (.func 48) #[] #[]] w fun e w' => e = .returned (.tuple #[]) ∧ CS w0 g (bs ++ listB B l) w' ∧ PF g w w' := by
  have HS := Aside0.mk h
  have HG := Aside0.mk hG
  have HL := Aside0.mk hl
  have HN := Aside0.mk hn
  have HM := Aside0.mk hM
  have H1 := Aside0.mk h1
  have hC1 := Kd.C_below hC h.1
  have hBl : Bs < w.heap.size := World.block_lt_of_cell? w _ hBs
  clear h hG hl hn hM h1 hC
  refine (callsIn_wide (n := 6)).1 ?_
  refine callsIn_of_wp_marks Tryz.func73 rfl trivial ?_ rfl
  simp only [Tryz.ntmps73, List.size_toArray, List.length_cons, List.length_nil, Nat.reduceAdd, Nat.reduceSub, Array.replicate_succ, Array.replicate_zero, List.push_toArray, List.append_toArray, List.nil_append, List.cons_append]
  have hu := Tryz.underlying139
  gi_wp2_with fail
  have hP0 : PutSt (α := Cel) 48 125 B l w [] (((w.alloc (.cells #[.func (.func 48) #[] #[]] 125)).alloc (.cells #[.slice none 0 0] 139)).alloc (.cells #[.int .i64 0] 3)) := by
    obtain ⟨w1, e1⟩ : ∃ w1, w.alloc (.cells #[.func (.func 48) #[] #[]] 125) = w1 := ⟨_, rfl⟩
    obtain ⟨w2, e2⟩ : ∃ w2, w1.alloc (.cells #[.slice none 0 0] 139) = w2 := ⟨_, rfl⟩
    obtain ⟨w3, e3⟩ : ∃ w3, w2.alloc (.cells #[.int .i64 0] 3) = w3 := ⟨_, rfl⟩
    have z1 : w1.heap.size = w.heap.size + 1 := by rw [← e1]; exact World.size_alloc _ _
    have z2 : w2.heap.size = w.heap.size + 1 + 1 := by rw [← e2, World.size_alloc, z1]
    have z3 : w3.heap.size = w.heap.size + 1 + 1 + 1 := by rw [← e3, World.size_alloc, z2]
    have b1 : Below w.heap.size w w1 := by rw [← e1]; exact (Below.refl _ _).alloc (Nat.le_refl _) _
    have b2 : Below w1.heap.size w1 w2 := by rw [← e2]; exact (Below.refl _ _).alloc (Nat.le_refl _) _
    have b3 : Below w2.heap.size w2 w3 := by rw [← e3]; exact (Below.refl _ _).alloc (Nat.le_refl _) _
    have k0 := heap_alloc_new w (.cells #[.func (.func 48) #[] #[]] 125)
    have k1 := heap_alloc_new w1 (.cells #[.slice none 0 0] 139)
    have k2 := heap_alloc_new w2 (.cells #[.int .i64 0] 3)
    rw [e1] at k0
    rw [e2, z1] at k1
    rw [e3, z2] at k2
    rw [e1, e2, e3]
    have hb := b1.trans ((b2.trans (b3.mono b2.size)).mono b1.size)
    exact ⟨hb, blk_below (blk_below k0 b2) b3, ⟨hb, by omega, _, blk_below k1 b3, Kd.R_nil _ _ _ _ _⟩, k2, by omega, by simp⟩
  generalize ((w.alloc (.cells #[.func (.func 48) #[] #[]] 125)).alloc (.cells #[.slice none 0 0] 139)).alloc (.cells #[.int .i64 0] 3) = w5 at hP0 ⊢
  have hsz5 := hP0.sz
  have hhands := valuesCel_hands (6 - 1) (by omega) Bs c w A l hC1 w5 hP0.hb (by omega) ((hP0.hb.cell (p := ⟨Bs, 0, none⟩) hBl).trans hBs)
  refine range_hands (F := Fence.wide) (n := 6) rfl (by omega) (gf := 94) (lb := #[.pointer (some ⟨Bs, 0, none⟩)]) rfl trivial (enters_of Tryz.func94 (by kernel_rfl) rfl)
    hhands (fun A B hst k hk => hst.elim) (fun _ => rfl) (fun h k => h.trans k) (fun W l o o' hl ho hc hw => belowK_b (by exact hP0.hb.size) _ _ _ _ hl ho hc hw)
    (PutSt 48 125 B l w) (fun _ _ => False) (PutSt.own hP0.hb.size) (fun s W W' row hs hg hr => hs.elim) (fun x s W W' row hs hg hr => hs) hP0 (fun s A B hs hst => hst.elim) (fun s A B hs _ => hs.elim)
    (fun p a' W => ∃ Ab, a' = { tmps := #[.pointer (some ⟨g, 0, none⟩), .func (.func 94) #[] #[.pointer (some ⟨Bs, 0, none⟩)], .func (.func 48) #[] #[], undef, undef, .pointer (some ⟨w.heap.size, 0, none⟩), .pointer (some ⟨w.heap.size + 1, 0, none⟩), .pointer (some ⟨w.heap.size + 1 + 1, 0, none⟩), .pointer (some ⟨Ab, 0, none⟩), .agg #[.slice none 0 0], .func (.func 94) #[] #[.pointer (some ⟨Bs, 0, none⟩)], encA p.2, undef, undef, undef, undef, undef, undef, undef, undef, undef, undef, undef, undef, undef, undef, undef, undef, undef, undef], defers := [] } ∧ W.heap[Ab]? = some (.cells p.2.toArray 104 (0, 0)))
    (fun p a' s W W' row hs hg hr => by obtain ⟨Ab, h1, h2⟩ := hs; exact ⟨Ab, h1, blk_grown h2 hg (cells_ne_row hr h2)⟩) ?assign ?body ?done ?stop
  case assign =>
    rintro lp pre ⟨x, cs⟩ W K hI ⟨hK, hm⟩ hCont
    have hK0 := hK
    simp only at hK
    obtain ⟨A_labels, c_labels, A_vsamples, c_vsamples, A_vmembers, c_vmembers, hcs, _⟩ := kCel_open hK; subst hcs
    simp only [encA]
    gi_wp2
    have hb := (Below.refl W.heap.size W).alloc (Nat.le_refl _) (.cells #[.string x.metric, .slice A_labels x.labels.length c_labels, .int .i64 x.policy, .int .i64 x.start, .int .i64 x.rev, .bool x.dirty, .int .i64 x.vat.kind, .int .i64 x.vat.many, .int .i64 x.vat.high, .int .i64 x.vat.low, .int .i64 x.vat.last, .int .i64 x.vat.time, .int .i64 x.vat.seq, .string x.vat.source, .slice A_vsamples x.vat.samples.length c_vsamples, .slice A_vmembers x.vat.members.length c_vmembers] 104)
    exact hCont _ _ (KeepsOthers.alloc _ _) (hb.mono hI.hb.size) (hI.below hb) ⟨hK0, hm⟩ ⟨_, rfl, heap_alloc_new W _⟩
  case body =>
    rintro lp pre ⟨x, cs⟩ a' W hI ⟨hK, hm⟩ ⟨Ab, rfl, hab⟩ hln
    have hK0 := hK
    simp only at hK hm
    obtain ⟨A_labels, c_labels, A_vsamples, c_vsamples, A_vmembers, c_vmembers, hcs, _⟩ := kCel_open hK; subst hcs
    have b_bx := blk_cell hI.bx 0
    have b0 := blk_cell hab 0
    have b1 := blk_cell hab 1
    have b2 := blk_cell hab 2
    have b3 := blk_cell hab 3
    have b4 := blk_cell hab 4
    have b5 := blk_cell hab 5
    have b6 := blk_cell hab 6
    have b7 := blk_cell hab 7
    have b8 := blk_cell hab 8
    have b9 := blk_cell hab 9
    have b10 := blk_cell hab 10
    have b11 := blk_cell hab 11
    have b12 := blk_cell hab 12
    have b13 := blk_cell hab 13
    have b14 := blk_cell hab 14
    have b15 := blk_cell hab 15
    have hgx := HG.out x hm
    have hpl : (pre.flatMap (fun p => B p.1)).length ≤ M * 1000 := by
      have h2 := flat_len (fun p : Cel × List Value => B p.1) M pre (fun p hp => HM.out _ (HG.out _ (hI.gs p hp)))
      exact Nat.le_trans h2 (Nat.mul_le_mul_left M (by have := HN.out; omega))
    have hc := H1.out w (w.heap.size + 1) (pre.flatMap (fun p => B p.1)) x [.string x.metric, .slice A_labels x.labels.length c_labels, .int .i64 x.policy, .int .i64 x.start, .int .i64 x.rev, .bool x.dirty, .int .i64 x.vat.kind, .int .i64 x.vat.many, .int .i64 x.vat.high, .int .i64 x.vat.low, .int .i64 x.vat.last, .int .i64 x.vat.time, .int .i64 x.vat.seq, .string x.vat.source, .slice A_vsamples x.vat.samples.length c_vsamples, .slice A_vmembers x.vat.members.length c_vmembers] W hK0 hgx (by have := HM.out x hgx; omega) hI.it
    have HI := Aside0.mk hI
    have HMM := Aside0.mk hm
    have hpb : pre.length < 1000 := by have := HN.out; omega
    clear hI hK hm hgx hpl hK0 hhands hln
    simp only [encA] at hc
    gi_wp2_with fail
    refine ⟨trivial, ?_⟩
    gi_at_call 48
    refine (CallsIn.inRound lp (callsIn_wide.2 hc)).mono ?_
    rintro e W1 ⟨⟨v, rfl⟩, hcs, hpf⟩
    obtain ⟨n0, n1, hst⟩ := HI.out.step (p := (x, [.string x.metric, .slice A_labels x.labels.length c_labels, .int .i64 x.policy, .int .i64 x.start, .int .i64 x.rev, .bool x.dirty, .int .i64 x.vat.kind, .int .i64 x.vat.many, .int .i64 x.vat.high, .int .i64 x.vat.low, .int .i64 x.vat.last, .int .i64 x.vat.time, .int .i64 x.vat.seq, .string x.vat.source, .slice A_vsamples x.vat.samples.length c_vsamples, .slice A_vmembers x.vat.members.length c_vmembers])) HMM.out (by decide) hcs hpf
    have HST := Aside0.mk hst
    clear hst hcs hpf hc
    gi_wp2
    exact .inl ⟨rfl, HST.out.2.1, HST.out.2.2, HST.out.1⟩
  case done =>
    rintro D xs W hD hS hI hK
    have hlen : xs.length = l.length := by have := congrArg List.length hS; rwa [List.length_map] at this
    have hnn := hI.nn
    rw [hlen] at hnn
    have hfl : xs.flatMap (fun p => B p.1) = l.flatMap B := by rw [← hS, List.flatMap_map]
    have hit := hI.it
    rw [hfl] at hit
    have hup := cup_calls w0 g bs (l.length : Int) (by have := HN.out; omega) (by have := HL.out; omega) W (HS.out.kept hI.hb)
    have n0 := blk_cell hnn 0
    have HI := Aside0.mk hI.hb
    have HIT := Aside0.mk hit
    have HNN := Aside0.mk hnn
    have HK := Aside0.mk hK
    obtain ⟨nl, hnl⟩ : ∃ nl, l.length = nl := ⟨_, rfl⟩
    have HNL := Aside0.mk hnl
    rw [hnl] at n0 hup
    clear hI hK hS hlen hnn hfl hit hhands hnl hP0
    gi_wp2_with fail
    refine ⟨trivial, ?_⟩
    gi_at_call 49
    refine (callsIn_wide.2 hup).mono ?_
    rintro e w6 ⟨⟨ve, rfl⟩, hcs, hpf⟩
    have hgl : g < w.heap.size := HS.out.lt
    have hcw := HS.out.kept HI.out
    have HK6 := Aside0.mk (hpf.obj_at hcw HK.out rfl)
    have hCR : ∀ k, w.heap.size ≤ k → some k ≠ CR g W := fun k hk => by
      obtain ⟨_, _, cv0, hcv0, hcr0⟩ := HS.out
      rw [CR_of (blk_below hcv0 HI.out)]
      intro e
      have := own_lt (Kd.own_of_R hcr0) k e.symm
      omega
    obtain ⟨_, _, iv, hiv, hir⟩ := HIT.out
    have hiv6 := hpf.2.2.1 _ _ hiv (by omega) (hCR _ (by omega))
    have hir6 := Kd.R_mono (Kd.R_step (Kd.R_bound hir) (fun k hk hlt => by
      obtain ⟨_, hbk, _, q, _, cells, hcc⟩ := hk
      exact (hpf.2.2.1 k _ hcc (by omega) (hCR k hbk)).trans hcc.symm)) (fun _ _ => trivial)
    obtain ⟨vA, vc, e0, hvl, hvC⟩ := Kd.R_reads hir6
    subst e0
    have HCS := Aside0.mk hcs
    obtain ⟨_, _, cv, hcv, hcr⟩ := hcs
    have c0 := blk_cell hiv6 0
    have d0 := blk_cell hcv 0
    obtain ⟨m, hm⟩ : ∃ m, (l.flatMap B).length = m := ⟨_, rfl⟩
    have HLN := Aside0.mk (show ((bs ++ upB (nl : Int)).length + (l.flatMap B).length) * 1 ≤ 140737488355328 by have := HL.out; unfold listB at this; rw [HNL.out] at this; simp only [List.length_append] at this ⊢; omega)
    have HPF := Aside0.mk ((PF.of_below hgl HI.out).trans hpf)
    have HCV := Aside0.mk hcv
    have HCR := Aside0.mk hcr
    have HSZ := Aside0.mk (show w0.heap.size ≤ w6.drew.heap.size from HCS.out.1.size)
    have HRD := Aside0.mk (show ReadsRow (fun x cs => cs = [.int .u8 x]) (Kd.int .u8).sz w6.drew vA m (l.flatMap B) from by rw [← hm]; exact Kd.C_below hvC (below_drew1 (Below.refl _ _)))
    rw [hm] at HLN c0
    clear hvC hvl hir6 hir hiv hiv6 hCR hcw hpf hcv hcr n0 hup hm
    gi_wp2_with fail
    refine wpIn_wide.2 ?_
    refine wp_mono (Q := fun e a w => e = .normal ∧ _) ?_ (fun e a w h => h.2)
    refine start_ (n := 11) (S := fun w' => w'.cell? ⟨g, 0, none⟩ = some cv ∧ w'.cell? ⟨w.heap.size + 1, 0, none⟩ = some (.slice vA m vc)) (ds := [7, 10]) #[false, false, false, false, false, false, false, false, false, false, false] (by kernel_rfl) rfl rfl ⟨d0, c0⟩ (fun hHeld => ?_); refine with_tabW (T := rtab .any (opsOf Tryz.f73 7)) rfl (B := [0, 0, 2, 6, 14, 0, 32, 126, 255, 511, 1023]) (by kernel_rfl) (fun HT_ HW_ => ?_)
    refine pure_ (i := 0) (N := some 20) (v := ?_) (a' := ?_) #[true, false, false, false, false, false, false, false, false, false, false] rfl rfl (any_of HT_.out (by kernel_rfl)) (fun _ _ _ h => nomatch h.1) (Or.inl ⟨by rfl, ?_⟩) ?_ ?_
    rotate_left
    · intro w'
      go_simp
      with_reducible rfl
    rotate_left
    · simp only [Act.put, List.setIfInBounds_toArray, List.set_cons_zero, List.set_cons_succ, i64_w, i32_w]
      rfl
    refine pure_ (i := 1) (N := some 21) (v := ?_) (a' := ?_) #[true, true, false, false, false, false, false, false, false, false, false] rfl rfl (any_of HT_.out (by kernel_rfl)) (fun _ _ _ h => nomatch h.1) (Or.inl ⟨by rfl, ?_⟩) ?_ ?_
    rotate_left
    · intro w'
      go_simp
      with_reducible rfl
    rotate_left
    · simp only [Act.put, List.setIfInBounds_toArray, List.set_cons_zero, List.set_cons_succ, i64_w, i32_w]
      rfl
    refine pure_ (i := 2) (N := some 22) (v := ?_) (a' := ?_) #[true, true, true, false, false, false, false, false, false, false, false] rfl rfl (any_of HT_.out (by kernel_rfl)) (fun _ _ _ h => nomatch h.1) (Or.inl ⟨by rfl, ?_⟩) ?_ ?_
    rotate_left
    · intro w'
      go_simp
      with_reducible rfl
    rotate_left
    · simp only [Act.put, List.setIfInBounds_toArray, List.set_cons_zero, List.set_cons_succ, i64_w, i32_w]
      rfl
    refine pure_ (i := 3) (N := some 23) (v := ?_) (a' := ?_) #[true, true, true, true, false, false, false, false, false, false, false] rfl rfl (any_of HT_.out (by kernel_rfl)) (fun _ _ _ h => nomatch h.1) (Or.inl ⟨by rfl, ?_⟩) ?_ ?_
    rotate_left
    · intro w'
      go_simp
      with_reducible rfl
    rotate_left
    · simp only [Act.put, List.setIfInBounds_toArray, List.set_cons_zero, List.set_cons_succ, i64_w, i32_w]
      rfl
    refine take_ (i := 4) (N := some 24) (v := ?_) (a' := ?_) #[true, true, true, true, true, false, false, false, false, false, false] rfl rfl (take_ofW HT_.out HW_.out (by kernel_rfl)) (fun _ _ _ h => nomatch h.1) (Or.inl ⟨by rfl, ?_⟩) hHeld ?_ ?_
    rotate_left
    · rintro w' ⟨s0, s1⟩
      go_simp
      with_reducible rfl
    rotate_left
    · simp only [Act.put, List.setIfInBounds_toArray, List.set_cons_zero, List.set_cons_succ, i64_w, i32_w]
      rfl
    refine pure_ (i := 5) (N := some 25) (v := ?_) (a' := ?_) #[true, true, true, true, true, true, false, false, false, false, false] rfl rfl (any_of HT_.out (by kernel_rfl)) (fun _ _ _ h => nomatch h.1) (Or.inl ⟨by rfl, ?_⟩) ?_ ?_
    rotate_left
    · intro w'
      go_simp
      with_reducible rfl
    rotate_left
    · simp only [Act.put, List.setIfInBounds_toArray, List.set_cons_zero, List.set_cons_succ, i64_w, i32_w]
      rfl
    refine take_ (i := 6) (N := some 26) (v := ?_) (a' := ?_) #[true, true, true, true, true, true, true, false, false, false, false] rfl rfl (take_ofW HT_.out HW_.out (by kernel_rfl)) (fun _ _ _ h => nomatch h.1) (Or.inl ⟨by rfl, ?_⟩) hHeld ?_ ?_
    rotate_left
    · rintro w' ⟨s0, s1⟩
      go_simp
      with_reducible rfl
    rotate_left
    · simp only [Act.put, List.setIfInBounds_toArray, List.set_cons_zero, List.set_cons_succ, i64_w, i32_w]
      rfl
    refine last_ (i := 7) (N := some 27) #[true, true, true, true, true, true, true, true, false, false, false] rfl rfl (one_of HT_.out (by kernel_rfl)) (by decide) (fun K hK => ?_)
    refine Kd.R_append_rows_step (Rr := fun x cs => cs = [.int .u8 x]) (Kd.int .u8) (w0 := w0) w0.heap.size (by rfl) (.tmp 24) (.tmp 26) 22 5 (.int .u8 0) 1 rfl Tryz.underlying22 info5 rfl (by decide) (by omega) cv (bs ++ upB (nl : Int)) (l.flatMap B) vA m vc (fun _ => True) (fun _ => False) rfl rfl (Kd.R_below HCR.out (below_drew1 (Below.refl _ _))) HRD.out (fun _ _ h => h) (fun _ hk => hk.elim) (fun _ _ => trivial) (below_drew1 HCS.out.1) HSZ.out HLN.out ?_
    intro v1 w1 hr hb hg hat
    refine (show K (Act.put _ (some 27) _) _ from hK.out _ _ ?_)
    clear hK K
    obtain ⟨v1A, v1n, v1c, e1⟩ : ∃ A n c, v1 = .slice A n c := by obtain ⟨A, c, e⟩ := Kd.R_slice hr; exact ⟨A, _, c, e⟩
    subst e1
    have hv7 := blk_grown (blk_drew HCV.out) hg (Kd.R_ne HCR.out HCV.out (by decide))
    have d7 := blk_cell hv7 0
    have f7 := blk_frozen hv7 0
    have HR7 := Aside0.mk hr
    have HB7 := Aside0.mk hb
    have HG7 := Aside0.mk hg
    have HAT := Aside0.mk hat
    clear hr hb hg hat hv7
    simp only [Act.put, List.setIfInBounds_toArray, List.set_cons_zero, List.set_cons_succ]
    refine pure_ (i := 8) (N := some 28) (v := ?_) (a' := ?_) #[true, true, true, true, true, true, true, true, true, false, false] rfl rfl (any_of HT_.out (by kernel_rfl)) (fun _ _ _ h => nomatch h.1) (Or.inl ⟨by rfl, ?_⟩) ?_ ?_
    rotate_left
    · intro w'
      go_simp
      with_reducible rfl
    rotate_left
    · simp only [Act.put, List.setIfInBounds_toArray, List.set_cons_zero, List.set_cons_succ, i64_w, i32_w]
      rfl
    refine pure_ (i := 9) (N := some 29) (v := ?_) (a' := ?_) #[true, true, true, true, true, true, true, true, true, true, false] rfl rfl (any_of HT_.out (by kernel_rfl)) (fun _ _ _ h => nomatch h.1) (Or.inl ⟨by rfl, ?_⟩) ?_ ?_
    rotate_left
    · intro w'
      go_simp
      with_reducible rfl
    rotate_left
    · simp only [Act.put, List.setIfInBounds_toArray, List.set_cons_zero, List.set_cons_succ, i64_w, i32_w]
      rfl
    refine last_ (i := 10) (N := none) #[true, true, true, true, true, true, true, true, true, true, true] rfl rfl (one_of HT_.out (by kernel_rfl)) (by decide) (fun K hK => ?_)
    refine skip_ (w1 := ?_) (by rfl) rfl ?_ ?_
    rotate_left
    · go_simp
      rfl
    refine hK.out _ _ ?_
    clear hK K
    refine done_ (done_of HT_.out (by kernel_rfl)) ?_
    refine ⟨rfl, ?_⟩
    clear hHeld HT_ HW_
    have FIN := Aside0.mk (coil_fin2 HCS.out HPF.out HS.out.1.size HCV.out hgl HCR.out HG7.out HR7.out HB7.out HAT.out (show w.heap.size ≤ D by omega) HK6.out)
    gi_wp2
    refine ⟨by simp, .inl ⟨_, _, rfl, run_takeDeferred FIN.out.2.2.1, ?_⟩⟩
    exact ⟨.tuple #[], by simp [results, Tryz.results73, go_sem], rfl, by unfold listB; rw [HNL.out, ← List.append_assoc]; exact FIN.out.2.2.2.1, FIN.out.2.2.2.2⟩
  case stop =>
    rintro D pre W hD hS hI hK
    exact hI.elim

theorem listCel_calls (G : Cel → Prop) (B : Cel → List Int) (M : Nat) (hM : ∀ x, G x → (B x).length ≤ M) (hM2 : M ≤ 90000000) (h1 : PutOne 48 kCel encA G B) (w0 : World) (g : Nat) (bs : List Int) (A : Option Addr) (c : Nat) (l : List (Cel)) (hC : Kd.C kCel w0 A l.length l) (hG : gList G l) (hl : bs.length + (listB B l).length ≤ 100000000000)
    (w : World) (h : CS w0 g bs w) :
    Calls Tryz.prog 47 #[.pointer (some ⟨g, 0, none⟩), .slice A l.length c, .func (.func 48) #[] #[]] w fun e w' => e = .returned (.tuple #[]) ∧ CS w0 g (bs ++ listB B l) w' ∧ PF g w w' := by
  have hb := (Below.refl _ w).alloc (Nat.le_refl _) (.cells #[.slice A l.length c] 40)
  have hp := PutCel_calls G B M hM hM2 h1 w0 g bs A c l hC hG.2 hG.1 hl (w.alloc (.cells #[.slice A l.length c] 40)) (h.kept hb) w.heap.size (blk_cell (blk_new w _) 0)
  have hv := fun m => valuesCel_calls A m c w
  have HP0 := Aside0.mk (PF.of_below h.lt hb)
  obtain ⟨nl, hnl⟩ : ∃ nl, l.length = nl := ⟨_, rfl⟩
  rw [hnl] at hp HP0 ⊢
  clear hb h hl hG hC h1 hM hnl
  go_enter Tryz.func47, Tryz.ntmps47
  go_wp2_with (first
    | (go_at_call 74; refine (hv _).mono ?_; rintro e w1 ⟨rfl, rfl⟩; clear hv)
    | (go_at_call 73; refine (show Calls _ _ _ _ _ from hp).mono ?_; rintro e w2 ⟨rfl, hcs, hpf⟩; have HC := Aside0.mk hcs; have HP := Aside0.mk hpf; clear hcs hpf hp))
  go_end0
  exact ⟨rfl, HC.out, HP0.out.trans HP.out⟩

set_option maxRecDepth 100000 in
set_option maxHeartbeats 8000000 in
theorem PutEmi_calls (G : Emi → Prop) (B : Emi → List Int) (M : Nat) (hM : ∀ x, G x → (B x).length ≤ M) (hM2 : M ≤ 90000000) (h1 : PutOne 13 kEmi encA G B) (w0 : World) (g : Nat) (bs : List Int) (A : Option Addr) (c : Nat) (l : List (Emi)) (hC : Kd.C kEmi w0 A l.length l) (hG : ∀ x ∈ l, G x) (hn : l.length ≤ 1000) (hl : bs.length + (listB B l).length ≤ 100000000000)
    (w : World) (h : CS w0 g bs w) (Bs : Nat) (hBs : w.cell? ⟨Bs, 0, none⟩ = some (.slice A l.length c)) :
    Calls Tryz.prog 79 #[.pointer (some ⟨g, 0, none⟩), .func (.func 102) #[] #[.pointer (some ⟨Bs, 0, none⟩)], .func (.func 13) #[] #[]] w fun e w' => e = .returned (.tuple #[]) ∧ CS w0 g (bs ++ listB B l) w' ∧ PF g w w' := by
  have HS := Aside0.mk h
  have HG := Aside0.mk hG
  have HL := Aside0.mk hl
  have HN := Aside0.mk hn
  have HM := Aside0.mk hM
  have H1 := Aside0.mk h1
  have hC1 := Kd.C_below hC h.1
  have hBl : Bs < w.heap.size := World.block_lt_of_cell? w _ hBs
  clear h hG hl hn hM h1 hC
  refine (callsIn_wide (n := 6)).1 ?_
  refine callsIn_of_wp_marks Tryz.func79 rfl trivial ?_ rfl
  simp only [Tryz.ntmps79, List.size_toArray, List.length_cons, List.length_nil, Nat.reduceAdd, Nat.reduceSub, Array.replicate_succ, Array.replicate_zero, List.push_toArray, List.append_toArray, List.nil_append, List.cons_append]
  have hu := Tryz.underlying139
  gi_wp2_with fail
  have hP0 : PutSt (α := Emi) 13 69 B l w [] (((w.alloc (.cells #[.func (.func 13) #[] #[]] 69)).alloc (.cells #[.slice none 0 0] 139)).alloc (.cells #[.int .i64 0] 3)) := by
    obtain ⟨w1, e1⟩ : ∃ w1, w.alloc (.cells #[.func (.func 13) #[] #[]] 69) = w1 := ⟨_, rfl⟩
    obtain ⟨w2, e2⟩ : ∃ w2, w1.alloc (.cells #[.slice none 0 0] 139) = w2 := ⟨_, rfl⟩
    obtain ⟨w3, e3⟩ : ∃ w3, w2.alloc (.cells #[.int .i64 0] 3) = w3 := ⟨_, rfl⟩
    have z1 : w1.heap.size = w.heap.size + 1 := by rw [← e1]; exact World.size_alloc _ _
    have z2 : w2.heap.size = w.heap.size + 1 + 1 := by rw [← e2, World.size_alloc, z1]
    have z3 : w3.heap.size = w.heap.size + 1 + 1 + 1 := by rw [← e3, World.size_alloc, z2]
    have b1 : Below w.heap.size w w1 := by rw [← e1]; exact (Below.refl _ _).alloc (Nat.le_refl _) _
    have b2 : Below w1.heap.size w1 w2 := by rw [← e2]; exact (Below.refl _ _).alloc (Nat.le_refl _) _
    have b3 : Below w2.heap.size w2 w3 := by rw [← e3]; exact (Below.refl _ _).alloc (Nat.le_refl _) _
    have k0 := heap_alloc_new w (.cells #[.func (.func 13) #[] #[]] 69)
    have k1 := heap_alloc_new w1 (.cells #[.slice none 0 0] 139)
    have k2 := heap_alloc_new w2 (.cells #[.int .i64 0] 3)
    rw [e1] at k0
    rw [e2, z1] at k1
    rw [e3, z2] at k2
    rw [e1, e2, e3]
    have hb := b1.trans ((b2.trans (b3.mono b2.size)).mono b1.size)
    exact ⟨hb, blk_below (blk_below k0 b2) b3, ⟨hb, by omega, _, blk_below k1 b3, Kd.R_nil _ _ _ _ _⟩, k2, by omega, by simp⟩
  generalize ((w.alloc (.cells #[.func (.func 13) #[] #[]] 69)).alloc (.cells #[.slice none 0 0] 139)).alloc (.cells #[.int .i64 0] 3) = w5 at hP0 ⊢
  have hsz5 := hP0.sz
  have hhands := valuesEmi_hands (6 - 1) (by omega) Bs c w A l hC1 w5 hP0.hb (by omega) ((hP0.hb.cell (p := ⟨Bs, 0, none⟩) hBl).trans hBs)
  refine range_hands (F := Fence.wide) (n := 6) rfl (by omega) (gf := 102) (lb := #[.pointer (some ⟨Bs, 0, none⟩)]) rfl trivial (enters_of Tryz.func102 (by kernel_rfl) rfl)
    hhands (fun A B hst k hk => hst.elim) (fun _ => rfl) (fun h k => h.trans k) (fun W l o o' hl ho hc hw => belowK_b (by exact hP0.hb.size) _ _ _ _ hl ho hc hw)
    (PutSt 13 69 B l w) (fun _ _ => False) (PutSt.own hP0.hb.size) (fun s W W' row hs hg hr => hs.elim) (fun x s W W' row hs hg hr => hs) hP0 (fun s A B hs hst => hst.elim) (fun s A B hs _ => hs.elim)
    (fun p a' W => ∃ Ab, a' = { tmps := #[.pointer (some ⟨g, 0, none⟩), .func (.func 102) #[] #[.pointer (some ⟨Bs, 0, none⟩)], .func (.func 13) #[] #[], undef, undef, .pointer (some ⟨w.heap.size, 0, none⟩), .pointer (some ⟨w.heap.size + 1, 0, none⟩), .pointer (some ⟨w.heap.size + 1 + 1, 0, none⟩), .pointer (some ⟨Ab, 0, none⟩), .agg #[.slice none 0 0], .func (.func 102) #[] #[.pointer (some ⟨Bs, 0, none⟩)], encA p.2, undef, undef, undef, undef, undef, undef, undef, undef, undef, undef, undef, undef, undef, undef, undef, undef, undef, undef], defers := [] } ∧ W.heap[Ab]? = some (.cells p.2.toArray 30 (0, 0)))
    (fun p a' s W W' row hs hg hr => by obtain ⟨Ab, h1, h2⟩ := hs; exact ⟨Ab, h1, blk_grown h2 hg (cells_ne_row hr h2)⟩) ?assign ?body ?done ?stop
  case assign =>
    rintro lp pre ⟨x, cs⟩ W K hI ⟨hK, hm⟩ hCont
    have hK0 := hK
    simp only at hK
    have hcs := kEmi_open hK; subst hcs
    simp only [encA]
    gi_wp2
    have hb := (Below.refl W.heap.size W).alloc (Nat.le_refl _) (.cells #[.string x.key, .string x.policy, .int .i64 x.kind, .int .i64 x.start, .int .i64 x.rev, .bool x.final, .int .i64 x.rkind, .int .i64 x.count, .int .i64 x.sum, .int .i64 x.min, .int .i64 x.max, .int .i64 x.q0, .int .i64 x.q1, .int .i64 x.q2, .bool x.over] 30)
    exact hCont _ _ (KeepsOthers.alloc _ _) (hb.mono hI.hb.size) (hI.below hb) ⟨hK0, hm⟩ ⟨_, rfl, heap_alloc_new W _⟩
  case body =>
    rintro lp pre ⟨x, cs⟩ a' W hI ⟨hK, hm⟩ ⟨Ab, rfl, hab⟩ hln
    have hK0 := hK
    simp only at hK hm
    have hcs := kEmi_open hK; subst hcs
    have b_bx := blk_cell hI.bx 0
    have b0 := blk_cell hab 0
    have b1 := blk_cell hab 1
    have b2 := blk_cell hab 2
    have b3 := blk_cell hab 3
    have b4 := blk_cell hab 4
    have b5 := blk_cell hab 5
    have b6 := blk_cell hab 6
    have b7 := blk_cell hab 7
    have b8 := blk_cell hab 8
    have b9 := blk_cell hab 9
    have b10 := blk_cell hab 10
    have b11 := blk_cell hab 11
    have b12 := blk_cell hab 12
    have b13 := blk_cell hab 13
    have b14 := blk_cell hab 14
    have hgx := HG.out x hm
    have hpl : (pre.flatMap (fun p => B p.1)).length ≤ M * 1000 := by
      have h2 := flat_len (fun p : Emi × List Value => B p.1) M pre (fun p hp => HM.out _ (HG.out _ (hI.gs p hp)))
      exact Nat.le_trans h2 (Nat.mul_le_mul_left M (by have := HN.out; omega))
    have hc := H1.out w (w.heap.size + 1) (pre.flatMap (fun p => B p.1)) x [.string x.key, .string x.policy, .int .i64 x.kind, .int .i64 x.start, .int .i64 x.rev, .bool x.final, .int .i64 x.rkind, .int .i64 x.count, .int .i64 x.sum, .int .i64 x.min, .int .i64 x.max, .int .i64 x.q0, .int .i64 x.q1, .int .i64 x.q2, .bool x.over] W hK0 hgx (by have := HM.out x hgx; omega) hI.it
    have HI := Aside0.mk hI
    have HMM := Aside0.mk hm
    have hpb : pre.length < 1000 := by have := HN.out; omega
    clear hI hK hm hgx hpl hK0 hhands hln
    simp only [encA] at hc
    gi_wp2_with fail
    refine ⟨trivial, ?_⟩
    gi_at_call 13
    refine (CallsIn.inRound lp (callsIn_wide.2 hc)).mono ?_
    rintro e W1 ⟨⟨v, rfl⟩, hcs, hpf⟩
    obtain ⟨n0, n1, hst⟩ := HI.out.step (p := (x, [.string x.key, .string x.policy, .int .i64 x.kind, .int .i64 x.start, .int .i64 x.rev, .bool x.final, .int .i64 x.rkind, .int .i64 x.count, .int .i64 x.sum, .int .i64 x.min, .int .i64 x.max, .int .i64 x.q0, .int .i64 x.q1, .int .i64 x.q2, .bool x.over])) HMM.out (by decide) hcs hpf
    have HST := Aside0.mk hst
    clear hst hcs hpf hc
    gi_wp2
    exact .inl ⟨rfl, HST.out.2.1, HST.out.2.2, HST.out.1⟩
  case done =>
    rintro D xs W hD hS hI hK
    have hlen : xs.length = l.length := by have := congrArg List.length hS; rwa [List.length_map] at this
    have hnn := hI.nn
    rw [hlen] at hnn
    have hfl : xs.flatMap (fun p => B p.1) = l.flatMap B := by rw [← hS, List.flatMap_map]
    have hit := hI.it
    rw [hfl] at hit
    have hup := cup_calls w0 g bs (l.length : Int) (by have := HN.out; omega) (by have := HL.out; omega) W (HS.out.kept hI.hb)
    have n0 := blk_cell hnn 0
    have HI := Aside0.mk hI.hb
    have HIT := Aside0.mk hit
    have HNN := Aside0.mk hnn
    have HK := Aside0.mk hK
    obtain ⟨nl, hnl⟩ : ∃ nl, l.length = nl := ⟨_, rfl⟩
    have HNL := Aside0.mk hnl
    rw [hnl] at n0 hup
    clear hI hK hS hlen hnn hfl hit hhands hnl hP0
    gi_wp2_with fail
    refine ⟨trivial, ?_⟩
    gi_at_call 49
    refine (callsIn_wide.2 hup).mono ?_
    rintro e w6 ⟨⟨ve, rfl⟩, hcs, hpf⟩
    have hgl : g < w.heap.size := HS.out.lt
    have hcw := HS.out.kept HI.out
    have HK6 := Aside0.mk (hpf.obj_at hcw HK.out rfl)
    have hCR : ∀ k, w.heap.size ≤ k → some k ≠ CR g W := fun k hk => by
      obtain ⟨_, _, cv0, hcv0, hcr0⟩ := HS.out
      rw [CR_of (blk_below hcv0 HI.out)]
      intro e
      have := own_lt (Kd.own_of_R hcr0) k e.symm
      omega
    obtain ⟨_, _, iv, hiv, hir⟩ := HIT.out
    have hiv6 := hpf.2.2.1 _ _ hiv (by omega) (hCR _ (by omega))
    have hir6 := Kd.R_mono (Kd.R_step (Kd.R_bound hir) (fun k hk hlt => by
      obtain ⟨_, hbk, _, q, _, cells, hcc⟩ := hk
      exact (hpf.2.2.1 k _ hcc (by omega) (hCR k hbk)).trans hcc.symm)) (fun _ _ => trivial)
    obtain ⟨vA, vc, e0, hvl, hvC⟩ := Kd.R_reads hir6
    subst e0
    have HCS := Aside0.mk hcs
    obtain ⟨_, _, cv, hcv, hcr⟩ := hcs
    have c0 := blk_cell hiv6 0
    have d0 := blk_cell hcv 0
    obtain ⟨m, hm⟩ : ∃ m, (l.flatMap B).length = m := ⟨_, rfl⟩
    have HLN := Aside0.mk (show ((bs ++ upB (nl : Int)).length + (l.flatMap B).length) * 1 ≤ 140737488355328 by have := HL.out; unfold listB at this; rw [HNL.out] at this; simp only [List.length_append] at this ⊢; omega)
    have HPF := Aside0.mk ((PF.of_below hgl HI.out).trans hpf)
    have HCV := Aside0.mk hcv
    have HCR := Aside0.mk hcr
    have HSZ := Aside0.mk (show w0.heap.size ≤ w6.drew.heap.size from HCS.out.1.size)
    have HRD := Aside0.mk (show ReadsRow (fun x cs => cs = [.int .u8 x]) (Kd.int .u8).sz w6.drew vA m (l.flatMap B) from by rw [← hm]; exact Kd.C_below hvC (below_drew1 (Below.refl _ _)))
    rw [hm] at HLN c0
    clear hvC hvl hir6 hir hiv hiv6 hCR hcw hpf hcv hcr n0 hup hm
    gi_wp2_with fail
    refine wpIn_wide.2 ?_
    refine wp_mono (Q := fun e a w => e = .normal ∧ _) ?_ (fun e a w h => h.2)
    refine start_ (n := 11) (S := fun w' => w'.cell? ⟨g, 0, none⟩ = some cv ∧ w'.cell? ⟨w.heap.size + 1, 0, none⟩ = some (.slice vA m vc)) (ds := [7, 10]) #[false, false, false, false, false, false, false, false, false, false, false] (by kernel_rfl) rfl rfl ⟨d0, c0⟩ (fun hHeld => ?_); refine with_tabW (T := rtab .any (opsOf Tryz.f79 7)) rfl (B := [0, 0, 2, 6, 14, 0, 32, 126, 255, 511, 1023]) (by kernel_rfl) (fun HT_ HW_ => ?_)
    refine pure_ (i := 0) (N := some 20) (v := ?_) (a' := ?_) #[true, false, false, false, false, false, false, false, false, false, false] rfl rfl (any_of HT_.out (by kernel_rfl)) (fun _ _ _ h => nomatch h.1) (Or.inl ⟨by rfl, ?_⟩) ?_ ?_
    rotate_left
    · intro w'
      go_simp
      with_reducible rfl
    rotate_left
    · simp only [Act.put, List.setIfInBounds_toArray, List.set_cons_zero, List.set_cons_succ, i64_w, i32_w]
      rfl
    refine pure_ (i := 1) (N := some 21) (v := ?_) (a' := ?_) #[true, true, false, false, false, false, false, false, false, false, false] rfl rfl (any_of HT_.out (by kernel_rfl)) (fun _ _ _ h => nomatch h.1) (Or.inl ⟨by rfl, ?_⟩) ?_ ?_
    rotate_left
    · intro w'
      go_simp
      with_reducible rfl
    rotate_left
    · simp only [Act.put, List.setIfInBounds_toArray, List.set_cons_zero, List.set_cons_succ, i64_w, i32_w]
      rfl
    refine pure_ (i := 2) (N := some 22) (v := ?_) (a' := ?_) #[true, true, true, false, false, false, false, false, false, false, false] rfl rfl (any_of HT_.out (by kernel_rfl)) (fun _ _ _ h => nomatch h.1) (Or.inl ⟨by rfl, ?_⟩) ?_ ?_
    rotate_left
    · intro w'
      go_simp
      with_reducible rfl
    rotate_left
    · simp only [Act.put, List.setIfInBounds_toArray, List.set_cons_zero, List.set_cons_succ, i64_w, i32_w]
      rfl
    refine pure_ (i := 3) (N := some 23) (v := ?_) (a' := ?_) #[true, true, true, true, false, false, false, false, false, false, false] rfl rfl (any_of HT_.out (by kernel_rfl)) (fun _ _ _ h => nomatch h.1) (Or.inl ⟨by rfl, ?_⟩) ?_ ?_
    rotate_left
    · intro w'
      go_simp
      with_reducible rfl
    rotate_left
    · simp only [Act.put, List.setIfInBounds_toArray, List.set_cons_zero, List.set_cons_succ, i64_w, i32_w]
      rfl
    refine take_ (i := 4) (N := some 24) (v := ?_) (a' := ?_) #[true, true, true, true, true, false, false, false, false, false, false] rfl rfl (take_ofW HT_.out HW_.out (by kernel_rfl)) (fun _ _ _ h => nomatch h.1) (Or.inl ⟨by rfl, ?_⟩) hHeld ?_ ?_
    rotate_left
    · rintro w' ⟨s0, s1⟩
      go_simp
      with_reducible rfl
    rotate_left
    · simp only [Act.put, List.setIfInBounds_toArray, List.set_cons_zero, List.set_cons_succ, i64_w, i32_w]
      rfl
    refine pure_ (i := 5) (N := some 25) (v := ?_) (a' := ?_) #[true, true, true, true, true, true, false, false, false, false, false] rfl rfl (any_of HT_.out (by kernel_rfl)) (fun _ _ _ h => nomatch h.1) (Or.inl ⟨by rfl, ?_⟩) ?_ ?_
    rotate_left
    · intro w'
      go_simp
      with_reducible rfl
    rotate_left
    · simp only [Act.put, List.setIfInBounds_toArray, List.set_cons_zero, List.set_cons_succ, i64_w, i32_w]
      rfl
    refine take_ (i := 6) (N := some 26) (v := ?_) (a' := ?_) #[true, true, true, true, true, true, true, false, false, false, false] rfl rfl (take_ofW HT_.out HW_.out (by kernel_rfl)) (fun _ _ _ h => nomatch h.1) (Or.inl ⟨by rfl, ?_⟩) hHeld ?_ ?_
    rotate_left
    · rintro w' ⟨s0, s1⟩
      go_simp
      with_reducible rfl
    rotate_left
    · simp only [Act.put, List.setIfInBounds_toArray, List.set_cons_zero, List.set_cons_succ, i64_w, i32_w]
      rfl
    refine last_ (i := 7) (N := some 27) #[true, true, true, true, true, true, true, true, false, false, false] rfl rfl (one_of HT_.out (by kernel_rfl)) (by decide) (fun K hK => ?_)
    refine Kd.R_append_rows_step (Rr := fun x cs => cs = [.int .u8 x]) (Kd.int .u8) (w0 := w0) w0.heap.size (by rfl) (.tmp 24) (.tmp 26) 22 5 (.int .u8 0) 1 rfl Tryz.underlying22 info5 rfl (by decide) (by omega) cv (bs ++ upB (nl : Int)) (l.flatMap B) vA m vc (fun _ => True) (fun _ => False) rfl rfl (Kd.R_below HCR.out (below_drew1 (Below.refl _ _))) HRD.out (fun _ _ h => h) (fun _ hk => hk.elim) (fun _ _ => trivial) (below_drew1 HCS.out.1) HSZ.out HLN.out ?_
    intro v1 w1 hr hb hg hat
    refine (show K (Act.put _ (some 27) _) _ from hK.out _ _ ?_)
    clear hK K
    obtain ⟨v1A, v1n, v1c, e1⟩ : ∃ A n c, v1 = .slice A n c := by obtain ⟨A, c, e⟩ := Kd.R_slice hr; exact ⟨A, _, c, e⟩
    subst e1
    have hv7 := blk_grown (blk_drew HCV.out) hg (Kd.R_ne HCR.out HCV.out (by decide))
    have d7 := blk_cell hv7 0
    have f7 := blk_frozen hv7 0
    have HR7 := Aside0.mk hr
    have HB7 := Aside0.mk hb
    have HG7 := Aside0.mk hg
    have HAT := Aside0.mk hat
    clear hr hb hg hat hv7
    simp only [Act.put, List.setIfInBounds_toArray, List.set_cons_zero, List.set_cons_succ]
    refine pure_ (i := 8) (N := some 28) (v := ?_) (a' := ?_) #[true, true, true, true, true, true, true, true, true, false, false] rfl rfl (any_of HT_.out (by kernel_rfl)) (fun _ _ _ h => nomatch h.1) (Or.inl ⟨by rfl, ?_⟩) ?_ ?_
    rotate_left
    · intro w'
      go_simp
      with_reducible rfl
    rotate_left
    · simp only [Act.put, List.setIfInBounds_toArray, List.set_cons_zero, List.set_cons_succ, i64_w, i32_w]
      rfl
    refine pure_ (i := 9) (N := some 29) (v := ?_) (a' := ?_) #[true, true, true, true, true, true, true, true, true, true, false] rfl rfl (any_of HT_.out (by kernel_rfl)) (fun _ _ _ h => nomatch h.1) (Or.inl ⟨by rfl, ?_⟩) ?_ ?_
    rotate_left
    · intro w'
      go_simp
      with_reducible rfl
    rotate_left
    · simp only [Act.put, List.setIfInBounds_toArray, List.set_cons_zero, List.set_cons_succ, i64_w, i32_w]
      rfl
    refine last_ (i := 10) (N := none) #[true, true, true, true, true, true, true, true, true, true, true] rfl rfl (one_of HT_.out (by kernel_rfl)) (by decide) (fun K hK => ?_)
    refine skip_ (w1 := ?_) (by rfl) rfl ?_ ?_
    rotate_left
    · go_simp
      rfl
    refine hK.out _ _ ?_
    clear hK K
    refine done_ (done_of HT_.out (by kernel_rfl)) ?_
    refine ⟨rfl, ?_⟩
    clear hHeld HT_ HW_
    have FIN := Aside0.mk (coil_fin2 HCS.out HPF.out HS.out.1.size HCV.out hgl HCR.out HG7.out HR7.out HB7.out HAT.out (show w.heap.size ≤ D by omega) HK6.out)
    gi_wp2
    refine ⟨by simp, .inl ⟨_, _, rfl, run_takeDeferred FIN.out.2.2.1, ?_⟩⟩
    exact ⟨.tuple #[], by simp [results, Tryz.results79, go_sem], rfl, by unfold listB; rw [HNL.out, ← List.append_assoc]; exact FIN.out.2.2.2.1, FIN.out.2.2.2.2⟩
  case stop =>
    rintro D pre W hD hS hI hK
    exact hI.elim

theorem listEmi_calls (G : Emi → Prop) (B : Emi → List Int) (M : Nat) (hM : ∀ x, G x → (B x).length ≤ M) (hM2 : M ≤ 90000000) (h1 : PutOne 13 kEmi encA G B) (w0 : World) (g : Nat) (bs : List Int) (A : Option Addr) (c : Nat) (l : List (Emi)) (hC : Kd.C kEmi w0 A l.length l) (hG : gList G l) (hl : bs.length + (listB B l).length ≤ 100000000000)
    (w : World) (h : CS w0 g bs w) :
    Calls Tryz.prog 50 #[.pointer (some ⟨g, 0, none⟩), .slice A l.length c, .func (.func 13) #[] #[]] w fun e w' => e = .returned (.tuple #[]) ∧ CS w0 g (bs ++ listB B l) w' ∧ PF g w w' := by
  have hb := (Below.refl _ w).alloc (Nat.le_refl _) (.cells #[.slice A l.length c] 41)
  have hp := PutEmi_calls G B M hM hM2 h1 w0 g bs A c l hC hG.2 hG.1 hl (w.alloc (.cells #[.slice A l.length c] 41)) (h.kept hb) w.heap.size (blk_cell (blk_new w _) 0)
  have hv := fun m => valuesEmi_calls A m c w
  have HP0 := Aside0.mk (PF.of_below h.lt hb)
  obtain ⟨nl, hnl⟩ : ∃ nl, l.length = nl := ⟨_, rfl⟩
  rw [hnl] at hp HP0 ⊢
  clear hb h hl hG hC h1 hM hnl
  go_enter Tryz.func50, Tryz.ntmps50
  go_wp2_with (first
    | (go_at_call 80; refine (hv _).mono ?_; rintro e w1 ⟨rfl, rfl⟩; clear hv)
    | (go_at_call 79; refine (show Calls _ _ _ _ _ from hp).mono ?_; rintro e w2 ⟨rfl, hcs, hpf⟩; have HC := Aside0.mk hcs; have HP := Aside0.mk hpf; clear hcs hpf hp))
  go_end0
  exact ⟨rfl, HC.out, HP0.out.trans HP.out⟩

set_option maxRecDepth 100000 in
set_option maxHeartbeats 8000000 in
theorem PutLab_calls (G : Lab → Prop) (B : Lab → List Int) (M : Nat) (hM : ∀ x, G x → (B x).length ≤ M) (hM2 : M ≤ 90000000) (h1 : PutOne 76 kLab encA G B) (w0 : World) (g : Nat) (bs : List Int) (A : Option Addr) (c : Nat) (l : List (Lab)) (hC : Kd.C kLab w0 A l.length l) (hG : ∀ x ∈ l, G x) (hn : l.length ≤ 1000) (hl : bs.length + (listB B l).length ≤ 100000000000)
    (w : World) (h : CS w0 g bs w) (Bs : Nat) (hBs : w.cell? ⟨Bs, 0, none⟩ = some (.slice A l.length c)) :
    Calls Tryz.prog 95 #[.pointer (some ⟨g, 0, none⟩), .func (.func 107) #[] #[.pointer (some ⟨Bs, 0, none⟩)], .func (.func 76) #[] #[]] w fun e w' => e = .returned (.tuple #[]) ∧ CS w0 g (bs ++ listB B l) w' ∧ PF g w w' := by
  have HS := Aside0.mk h
  have HG := Aside0.mk hG
  have HL := Aside0.mk hl
  have HN := Aside0.mk hn
  have HM := Aside0.mk hM
  have H1 := Aside0.mk h1
  have hC1 := Kd.C_below hC h.1
  have hBl : Bs < w.heap.size := World.block_lt_of_cell? w _ hBs
  clear h hG hl hn hM h1 hC
  refine (callsIn_wide (n := 6)).1 ?_
  refine callsIn_of_wp_marks Tryz.func95 rfl trivial ?_ rfl
  simp only [Tryz.ntmps95, List.size_toArray, List.length_cons, List.length_nil, Nat.reduceAdd, Nat.reduceSub, Array.replicate_succ, Array.replicate_zero, List.push_toArray, List.append_toArray, List.nil_append, List.cons_append]
  have hu := Tryz.underlying139
  gi_wp2_with fail
  have hP0 : PutSt (α := Lab) 76 163 B l w [] (((w.alloc (.cells #[.func (.func 76) #[] #[]] 163)).alloc (.cells #[.slice none 0 0] 139)).alloc (.cells #[.int .i64 0] 3)) := by
    obtain ⟨w1, e1⟩ : ∃ w1, w.alloc (.cells #[.func (.func 76) #[] #[]] 163) = w1 := ⟨_, rfl⟩
    obtain ⟨w2, e2⟩ : ∃ w2, w1.alloc (.cells #[.slice none 0 0] 139) = w2 := ⟨_, rfl⟩
    obtain ⟨w3, e3⟩ : ∃ w3, w2.alloc (.cells #[.int .i64 0] 3) = w3 := ⟨_, rfl⟩
    have z1 : w1.heap.size = w.heap.size + 1 := by rw [← e1]; exact World.size_alloc _ _
    have z2 : w2.heap.size = w.heap.size + 1 + 1 := by rw [← e2, World.size_alloc, z1]
    have z3 : w3.heap.size = w.heap.size + 1 + 1 + 1 := by rw [← e3, World.size_alloc, z2]
    have b1 : Below w.heap.size w w1 := by rw [← e1]; exact (Below.refl _ _).alloc (Nat.le_refl _) _
    have b2 : Below w1.heap.size w1 w2 := by rw [← e2]; exact (Below.refl _ _).alloc (Nat.le_refl _) _
    have b3 : Below w2.heap.size w2 w3 := by rw [← e3]; exact (Below.refl _ _).alloc (Nat.le_refl _) _
    have k0 := heap_alloc_new w (.cells #[.func (.func 76) #[] #[]] 163)
    have k1 := heap_alloc_new w1 (.cells #[.slice none 0 0] 139)
    have k2 := heap_alloc_new w2 (.cells #[.int .i64 0] 3)
    rw [e1] at k0
    rw [e2, z1] at k1
    rw [e3, z2] at k2
    rw [e1, e2, e3]
    have hb := b1.trans ((b2.trans (b3.mono b2.size)).mono b1.size)
    exact ⟨hb, blk_below (blk_below k0 b2) b3, ⟨hb, by omega, _, blk_below k1 b3, Kd.R_nil _ _ _ _ _⟩, k2, by omega, by simp⟩
  generalize ((w.alloc (.cells #[.func (.func 76) #[] #[]] 163)).alloc (.cells #[.slice none 0 0] 139)).alloc (.cells #[.int .i64 0] 3) = w5 at hP0 ⊢
  have hsz5 := hP0.sz
  have hhands := valuesLab_hands (6 - 1) (by omega) Bs c w A l hC1 w5 hP0.hb (by omega) ((hP0.hb.cell (p := ⟨Bs, 0, none⟩) hBl).trans hBs)
  refine range_hands (F := Fence.wide) (n := 6) rfl (by omega) (gf := 107) (lb := #[.pointer (some ⟨Bs, 0, none⟩)]) rfl trivial (enters_of Tryz.func107 (by kernel_rfl) rfl)
    hhands (fun A B hst k hk => hst.elim) (fun _ => rfl) (fun h k => h.trans k) (fun W l o o' hl ho hc hw => belowK_b (by exact hP0.hb.size) _ _ _ _ hl ho hc hw)
    (PutSt 76 163 B l w) (fun _ _ => False) (PutSt.own hP0.hb.size) (fun s W W' row hs hg hr => hs.elim) (fun x s W W' row hs hg hr => hs) hP0 (fun s A B hs hst => hst.elim) (fun s A B hs _ => hs.elim)
    (fun p a' W => ∃ Ab, a' = { tmps := #[.pointer (some ⟨g, 0, none⟩), .func (.func 107) #[] #[.pointer (some ⟨Bs, 0, none⟩)], .func (.func 76) #[] #[], undef, undef, .pointer (some ⟨w.heap.size, 0, none⟩), .pointer (some ⟨w.heap.size + 1, 0, none⟩), .pointer (some ⟨w.heap.size + 1 + 1, 0, none⟩), .pointer (some ⟨Ab, 0, none⟩), .agg #[.slice none 0 0], .func (.func 107) #[] #[.pointer (some ⟨Bs, 0, none⟩)], encA p.2, undef, undef, undef, undef, undef, undef, undef, undef, undef, undef, undef, undef, undef, undef, undef, undef, undef, undef], defers := [] } ∧ W.heap[Ab]? = some (.cells p.2.toArray 98 (0, 0)))
    (fun p a' s W W' row hs hg hr => by obtain ⟨Ab, h1, h2⟩ := hs; exact ⟨Ab, h1, blk_grown h2 hg (cells_ne_row hr h2)⟩) ?assign ?body ?done ?stop
  case assign =>
    rintro lp pre ⟨x, cs⟩ W K hI ⟨hK, hm⟩ hCont
    have hK0 := hK
    simp only at hK
    have hcs := kLab_open hK; subst hcs
    simp only [encA]
    gi_wp2
    have hb := (Below.refl W.heap.size W).alloc (Nat.le_refl _) (.cells #[.string x.name, .string x.value] 98)
    exact hCont _ _ (KeepsOthers.alloc _ _) (hb.mono hI.hb.size) (hI.below hb) ⟨hK0, hm⟩ ⟨_, rfl, heap_alloc_new W _⟩
  case body =>
    rintro lp pre ⟨x, cs⟩ a' W hI ⟨hK, hm⟩ ⟨Ab, rfl, hab⟩ hln
    have hK0 := hK
    simp only at hK hm
    have hcs := kLab_open hK; subst hcs
    have b_bx := blk_cell hI.bx 0
    have b0 := blk_cell hab 0
    have b1 := blk_cell hab 1
    have hgx := HG.out x hm
    have hpl : (pre.flatMap (fun p => B p.1)).length ≤ M * 1000 := by
      have h2 := flat_len (fun p : Lab × List Value => B p.1) M pre (fun p hp => HM.out _ (HG.out _ (hI.gs p hp)))
      exact Nat.le_trans h2 (Nat.mul_le_mul_left M (by have := HN.out; omega))
    have hc := H1.out w (w.heap.size + 1) (pre.flatMap (fun p => B p.1)) x [.string x.name, .string x.value] W hK0 hgx (by have := HM.out x hgx; omega) hI.it
    have HI := Aside0.mk hI
    have HMM := Aside0.mk hm
    have hpb : pre.length < 1000 := by have := HN.out; omega
    clear hI hK hm hgx hpl hK0 hhands hln
    simp only [encA] at hc
    gi_wp2_with fail
    refine ⟨trivial, ?_⟩
    gi_at_call 76
    refine (CallsIn.inRound lp (callsIn_wide.2 hc)).mono ?_
    rintro e W1 ⟨⟨v, rfl⟩, hcs, hpf⟩
    obtain ⟨n0, n1, hst⟩ := HI.out.step (p := (x, [.string x.name, .string x.value])) HMM.out (by decide) hcs hpf
    have HST := Aside0.mk hst
    clear hst hcs hpf hc
    gi_wp2
    exact .inl ⟨rfl, HST.out.2.1, HST.out.2.2, HST.out.1⟩
  case done =>
    rintro D xs W hD hS hI hK
    have hlen : xs.length = l.length := by have := congrArg List.length hS; rwa [List.length_map] at this
    have hnn := hI.nn
    rw [hlen] at hnn
    have hfl : xs.flatMap (fun p => B p.1) = l.flatMap B := by rw [← hS, List.flatMap_map]
    have hit := hI.it
    rw [hfl] at hit
    have hup := cup_calls w0 g bs (l.length : Int) (by have := HN.out; omega) (by have := HL.out; omega) W (HS.out.kept hI.hb)
    have n0 := blk_cell hnn 0
    have HI := Aside0.mk hI.hb
    have HIT := Aside0.mk hit
    have HNN := Aside0.mk hnn
    have HK := Aside0.mk hK
    obtain ⟨nl, hnl⟩ : ∃ nl, l.length = nl := ⟨_, rfl⟩
    have HNL := Aside0.mk hnl
    rw [hnl] at n0 hup
    clear hI hK hS hlen hnn hfl hit hhands hnl hP0
    gi_wp2_with fail
    refine ⟨trivial, ?_⟩
    gi_at_call 49
    refine (callsIn_wide.2 hup).mono ?_
    rintro e w6 ⟨⟨ve, rfl⟩, hcs, hpf⟩
    have hgl : g < w.heap.size := HS.out.lt
    have hcw := HS.out.kept HI.out
    have HK6 := Aside0.mk (hpf.obj_at hcw HK.out rfl)
    have hCR : ∀ k, w.heap.size ≤ k → some k ≠ CR g W := fun k hk => by
      obtain ⟨_, _, cv0, hcv0, hcr0⟩ := HS.out
      rw [CR_of (blk_below hcv0 HI.out)]
      intro e
      have := own_lt (Kd.own_of_R hcr0) k e.symm
      omega
    obtain ⟨_, _, iv, hiv, hir⟩ := HIT.out
    have hiv6 := hpf.2.2.1 _ _ hiv (by omega) (hCR _ (by omega))
    have hir6 := Kd.R_mono (Kd.R_step (Kd.R_bound hir) (fun k hk hlt => by
      obtain ⟨_, hbk, _, q, _, cells, hcc⟩ := hk
      exact (hpf.2.2.1 k _ hcc (by omega) (hCR k hbk)).trans hcc.symm)) (fun _ _ => trivial)
    obtain ⟨vA, vc, e0, hvl, hvC⟩ := Kd.R_reads hir6
    subst e0
    have HCS := Aside0.mk hcs
    obtain ⟨_, _, cv, hcv, hcr⟩ := hcs
    have c0 := blk_cell hiv6 0
    have d0 := blk_cell hcv 0
    obtain ⟨m, hm⟩ : ∃ m, (l.flatMap B).length = m := ⟨_, rfl⟩
    have HLN := Aside0.mk (show ((bs ++ upB (nl : Int)).length + (l.flatMap B).length) * 1 ≤ 140737488355328 by have := HL.out; unfold listB at this; rw [HNL.out] at this; simp only [List.length_append] at this ⊢; omega)
    have HPF := Aside0.mk ((PF.of_below hgl HI.out).trans hpf)
    have HCV := Aside0.mk hcv
    have HCR := Aside0.mk hcr
    have HSZ := Aside0.mk (show w0.heap.size ≤ w6.drew.heap.size from HCS.out.1.size)
    have HRD := Aside0.mk (show ReadsRow (fun x cs => cs = [.int .u8 x]) (Kd.int .u8).sz w6.drew vA m (l.flatMap B) from by rw [← hm]; exact Kd.C_below hvC (below_drew1 (Below.refl _ _)))
    rw [hm] at HLN c0
    clear hvC hvl hir6 hir hiv hiv6 hCR hcw hpf hcv hcr n0 hup hm
    gi_wp2_with fail
    refine wpIn_wide.2 ?_
    refine wp_mono (Q := fun e a w => e = .normal ∧ _) ?_ (fun e a w h => h.2)
    refine start_ (n := 11) (S := fun w' => w'.cell? ⟨g, 0, none⟩ = some cv ∧ w'.cell? ⟨w.heap.size + 1, 0, none⟩ = some (.slice vA m vc)) (ds := [7, 10]) #[false, false, false, false, false, false, false, false, false, false, false] (by kernel_rfl) rfl rfl ⟨d0, c0⟩ (fun hHeld => ?_); refine with_tabW (T := rtab .any (opsOf Tryz.f95 7)) rfl (B := [0, 0, 2, 6, 14, 0, 32, 126, 255, 511, 1023]) (by kernel_rfl) (fun HT_ HW_ => ?_)
    refine pure_ (i := 0) (N := some 20) (v := ?_) (a' := ?_) #[true, false, false, false, false, false, false, false, false, false, false] rfl rfl (any_of HT_.out (by kernel_rfl)) (fun _ _ _ h => nomatch h.1) (Or.inl ⟨by rfl, ?_⟩) ?_ ?_
    rotate_left
    · intro w'
      go_simp
      with_reducible rfl
    rotate_left
    · simp only [Act.put, List.setIfInBounds_toArray, List.set_cons_zero, List.set_cons_succ, i64_w, i32_w]
      rfl
    refine pure_ (i := 1) (N := some 21) (v := ?_) (a' := ?_) #[true, true, false, false, false, false, false, false, false, false, false] rfl rfl (any_of HT_.out (by kernel_rfl)) (fun _ _ _ h => nomatch h.1) (Or.inl ⟨by rfl, ?_⟩) ?_ ?_
    rotate_left
    · intro w'
      go_simp
      with_reducible rfl
    rotate_left
    · simp only [Act.put, List.setIfInBounds_toArray, List.set_cons_zero, List.set_cons_succ, i64_w, i32_w]
      rfl
    refine pure_ (i := 2) (N := some 22) (v := ?_) (a' := ?_) #[true, true, true, false, false, false, false, false, false, false, false] rfl rfl (any_of HT_.out (by kernel_rfl)) (fun _ _ _ h => nomatch h.1) (Or.inl ⟨by rfl, ?_⟩) ?_ ?_
    rotate_left
    · intro w'
      go_simp
      with_reducible rfl
    rotate_left
    · simp only [Act.put, List.setIfInBounds_toArray, List.set_cons_zero, List.set_cons_succ, i64_w, i32_w]
      rfl
    refine pure_ (i := 3) (N := some 23) (v := ?_) (a' := ?_) #[true, true, true, true, false, false, false, false, false, false, false] rfl rfl (any_of HT_.out (by kernel_rfl)) (fun _ _ _ h => nomatch h.1) (Or.inl ⟨by rfl, ?_⟩) ?_ ?_
    rotate_left
    · intro w'
      go_simp
      with_reducible rfl
    rotate_left
    · simp only [Act.put, List.setIfInBounds_toArray, List.set_cons_zero, List.set_cons_succ, i64_w, i32_w]
      rfl
    refine take_ (i := 4) (N := some 24) (v := ?_) (a' := ?_) #[true, true, true, true, true, false, false, false, false, false, false] rfl rfl (take_ofW HT_.out HW_.out (by kernel_rfl)) (fun _ _ _ h => nomatch h.1) (Or.inl ⟨by rfl, ?_⟩) hHeld ?_ ?_
    rotate_left
    · rintro w' ⟨s0, s1⟩
      go_simp
      with_reducible rfl
    rotate_left
    · simp only [Act.put, List.setIfInBounds_toArray, List.set_cons_zero, List.set_cons_succ, i64_w, i32_w]
      rfl
    refine pure_ (i := 5) (N := some 25) (v := ?_) (a' := ?_) #[true, true, true, true, true, true, false, false, false, false, false] rfl rfl (any_of HT_.out (by kernel_rfl)) (fun _ _ _ h => nomatch h.1) (Or.inl ⟨by rfl, ?_⟩) ?_ ?_
    rotate_left
    · intro w'
      go_simp
      with_reducible rfl
    rotate_left
    · simp only [Act.put, List.setIfInBounds_toArray, List.set_cons_zero, List.set_cons_succ, i64_w, i32_w]
      rfl
    refine take_ (i := 6) (N := some 26) (v := ?_) (a' := ?_) #[true, true, true, true, true, true, true, false, false, false, false] rfl rfl (take_ofW HT_.out HW_.out (by kernel_rfl)) (fun _ _ _ h => nomatch h.1) (Or.inl ⟨by rfl, ?_⟩) hHeld ?_ ?_
    rotate_left
    · rintro w' ⟨s0, s1⟩
      go_simp
      with_reducible rfl
    rotate_left
    · simp only [Act.put, List.setIfInBounds_toArray, List.set_cons_zero, List.set_cons_succ, i64_w, i32_w]
      rfl
    refine last_ (i := 7) (N := some 27) #[true, true, true, true, true, true, true, true, false, false, false] rfl rfl (one_of HT_.out (by kernel_rfl)) (by decide) (fun K hK => ?_)
    refine Kd.R_append_rows_step (Rr := fun x cs => cs = [.int .u8 x]) (Kd.int .u8) (w0 := w0) w0.heap.size (by rfl) (.tmp 24) (.tmp 26) 22 5 (.int .u8 0) 1 rfl Tryz.underlying22 info5 rfl (by decide) (by omega) cv (bs ++ upB (nl : Int)) (l.flatMap B) vA m vc (fun _ => True) (fun _ => False) rfl rfl (Kd.R_below HCR.out (below_drew1 (Below.refl _ _))) HRD.out (fun _ _ h => h) (fun _ hk => hk.elim) (fun _ _ => trivial) (below_drew1 HCS.out.1) HSZ.out HLN.out ?_
    intro v1 w1 hr hb hg hat
    refine (show K (Act.put _ (some 27) _) _ from hK.out _ _ ?_)
    clear hK K
    obtain ⟨v1A, v1n, v1c, e1⟩ : ∃ A n c, v1 = .slice A n c := by obtain ⟨A, c, e⟩ := Kd.R_slice hr; exact ⟨A, _, c, e⟩
    subst e1
    have hv7 := blk_grown (blk_drew HCV.out) hg (Kd.R_ne HCR.out HCV.out (by decide))
    have d7 := blk_cell hv7 0
    have f7 := blk_frozen hv7 0
    have HR7 := Aside0.mk hr
    have HB7 := Aside0.mk hb
    have HG7 := Aside0.mk hg
    have HAT := Aside0.mk hat
    clear hr hb hg hat hv7
    simp only [Act.put, List.setIfInBounds_toArray, List.set_cons_zero, List.set_cons_succ]
    refine pure_ (i := 8) (N := some 28) (v := ?_) (a' := ?_) #[true, true, true, true, true, true, true, true, true, false, false] rfl rfl (any_of HT_.out (by kernel_rfl)) (fun _ _ _ h => nomatch h.1) (Or.inl ⟨by rfl, ?_⟩) ?_ ?_
    rotate_left
    · intro w'
      go_simp
      with_reducible rfl
    rotate_left
    · simp only [Act.put, List.setIfInBounds_toArray, List.set_cons_zero, List.set_cons_succ, i64_w, i32_w]
      rfl
    refine pure_ (i := 9) (N := some 29) (v := ?_) (a' := ?_) #[true, true, true, true, true, true, true, true, true, true, false] rfl rfl (any_of HT_.out (by kernel_rfl)) (fun _ _ _ h => nomatch h.1) (Or.inl ⟨by rfl, ?_⟩) ?_ ?_
    rotate_left
    · intro w'
      go_simp
      with_reducible rfl
    rotate_left
    · simp only [Act.put, List.setIfInBounds_toArray, List.set_cons_zero, List.set_cons_succ, i64_w, i32_w]
      rfl
    refine last_ (i := 10) (N := none) #[true, true, true, true, true, true, true, true, true, true, true] rfl rfl (one_of HT_.out (by kernel_rfl)) (by decide) (fun K hK => ?_)
    refine skip_ (w1 := ?_) (by rfl) rfl ?_ ?_
    rotate_left
    · go_simp
      rfl
    refine hK.out _ _ ?_
    clear hK K
    refine done_ (done_of HT_.out (by kernel_rfl)) ?_
    refine ⟨rfl, ?_⟩
    clear hHeld HT_ HW_
    have FIN := Aside0.mk (coil_fin2 HCS.out HPF.out HS.out.1.size HCV.out hgl HCR.out HG7.out HR7.out HB7.out HAT.out (show w.heap.size ≤ D by omega) HK6.out)
    gi_wp2
    refine ⟨by simp, .inl ⟨_, _, rfl, run_takeDeferred FIN.out.2.2.1, ?_⟩⟩
    exact ⟨.tuple #[], by simp [results, Tryz.results95, go_sem], rfl, by unfold listB; rw [HNL.out, ← List.append_assoc]; exact FIN.out.2.2.2.1, FIN.out.2.2.2.2⟩
  case stop =>
    rintro D pre W hD hS hI hK
    exact hI.elim

theorem listLab_calls (G : Lab → Prop) (B : Lab → List Int) (M : Nat) (hM : ∀ x, G x → (B x).length ≤ M) (hM2 : M ≤ 90000000) (h1 : PutOne 76 kLab encA G B) (w0 : World) (g : Nat) (bs : List Int) (A : Option Addr) (c : Nat) (l : List (Lab)) (hC : Kd.C kLab w0 A l.length l) (hG : gList G l) (hl : bs.length + (listB B l).length ≤ 100000000000)
    (w : World) (h : CS w0 g bs w) :
    Calls Tryz.prog 75 #[.pointer (some ⟨g, 0, none⟩), .slice A l.length c, .func (.func 76) #[] #[]] w fun e w' => e = .returned (.tuple #[]) ∧ CS w0 g (bs ++ listB B l) w' ∧ PF g w w' := by
  have hb := (Below.refl _ w).alloc (Nat.le_refl _) (.cells #[.slice A l.length c] 89)
  have hp := PutLab_calls G B M hM hM2 h1 w0 g bs A c l hC hG.2 hG.1 hl (w.alloc (.cells #[.slice A l.length c] 89)) (h.kept hb) w.heap.size (blk_cell (blk_new w _) 0)
  have hv := fun m => valuesLab_calls A m c w
  have HP0 := Aside0.mk (PF.of_below h.lt hb)
  obtain ⟨nl, hnl⟩ : ∃ nl, l.length = nl := ⟨_, rfl⟩
  rw [hnl] at hp HP0 ⊢
  clear hb h hl hG hC h1 hM hnl
  go_enter Tryz.func75, Tryz.ntmps75
  go_wp2_with (first
    | (go_at_call 96; refine (hv _).mono ?_; rintro e w1 ⟨rfl, rfl⟩; clear hv)
    | (go_at_call 95; refine (show Calls _ _ _ _ _ from hp).mono ?_; rintro e w2 ⟨rfl, hcs, hpf⟩; have HC := Aside0.mk hcs; have HP := Aside0.mk hpf; clear hcs hpf hp))
  go_end0
  exact ⟨rfl, HC.out, HP0.out.trans HP.out⟩

set_option maxRecDepth 100000 in
set_option maxHeartbeats 8000000 in
theorem PutIntU_calls (G : Int → Prop) (B : Int → List Int) (M : Nat) (hM : ∀ x, G x → (B x).length ≤ M) (hM2 : M ≤ 90000000) (h1 : PutOne 72 (Kd.int .i64) enc1 G B) (w0 : World) (g : Nat) (bs : List Int) (A : Option Addr) (c : Nat) (l : List (Int)) (hC : Kd.C (Kd.int .i64) w0 A l.length l) (hG : ∀ x ∈ l, G x) (hn : l.length ≤ 1000) (hl : bs.length + (listB B l).length ≤ 100000000000)
    (w : World) (h : CS w0 g bs w) (Bs : Nat) (hBs : w.cell? ⟨Bs, 0, none⟩ = some (.slice A l.length c)) :
    Calls Tryz.prog 92 #[.pointer (some ⟨g, 0, none⟩), .func (.func 106) #[] #[.pointer (some ⟨Bs, 0, none⟩)], .func (.func 72) #[] #[]] w fun e w' => e = .returned (.tuple #[]) ∧ CS w0 g (bs ++ listB B l) w' ∧ PF g w w' := by
  have HS := Aside0.mk h
  have HG := Aside0.mk hG
  have HL := Aside0.mk hl
  have HN := Aside0.mk hn
  have HM := Aside0.mk hM
  have H1 := Aside0.mk h1
  have hC1 := Kd.C_below hC h.1
  have hBl : Bs < w.heap.size := World.block_lt_of_cell? w _ hBs
  clear h hG hl hn hM h1 hC
  refine (callsIn_wide (n := 6)).1 ?_
  refine callsIn_of_wp_marks Tryz.func92 rfl trivial ?_ rfl
  simp only [Tryz.ntmps92, List.size_toArray, List.length_cons, List.length_nil, Nat.reduceAdd, Nat.reduceSub, Array.replicate_succ, Array.replicate_zero, List.push_toArray, List.append_toArray, List.nil_append, List.cons_append]
  have hu := Tryz.underlying139
  gi_wp2_with fail
  have hP0 : PutSt (α := Int) 72 157 B l w [] (((w.alloc (.cells #[.func (.func 72) #[] #[]] 157)).alloc (.cells #[.slice none 0 0] 139)).alloc (.cells #[.int .i64 0] 3)) := by
    obtain ⟨w1, e1⟩ : ∃ w1, w.alloc (.cells #[.func (.func 72) #[] #[]] 157) = w1 := ⟨_, rfl⟩
    obtain ⟨w2, e2⟩ : ∃ w2, w1.alloc (.cells #[.slice none 0 0] 139) = w2 := ⟨_, rfl⟩
    obtain ⟨w3, e3⟩ : ∃ w3, w2.alloc (.cells #[.int .i64 0] 3) = w3 := ⟨_, rfl⟩
    have z1 : w1.heap.size = w.heap.size + 1 := by rw [← e1]; exact World.size_alloc _ _
    have z2 : w2.heap.size = w.heap.size + 1 + 1 := by rw [← e2, World.size_alloc, z1]
    have z3 : w3.heap.size = w.heap.size + 1 + 1 + 1 := by rw [← e3, World.size_alloc, z2]
    have b1 : Below w.heap.size w w1 := by rw [← e1]; exact (Below.refl _ _).alloc (Nat.le_refl _) _
    have b2 : Below w1.heap.size w1 w2 := by rw [← e2]; exact (Below.refl _ _).alloc (Nat.le_refl _) _
    have b3 : Below w2.heap.size w2 w3 := by rw [← e3]; exact (Below.refl _ _).alloc (Nat.le_refl _) _
    have k0 := heap_alloc_new w (.cells #[.func (.func 72) #[] #[]] 157)
    have k1 := heap_alloc_new w1 (.cells #[.slice none 0 0] 139)
    have k2 := heap_alloc_new w2 (.cells #[.int .i64 0] 3)
    rw [e1] at k0
    rw [e2, z1] at k1
    rw [e3, z2] at k2
    rw [e1, e2, e3]
    have hb := b1.trans ((b2.trans (b3.mono b2.size)).mono b1.size)
    exact ⟨hb, blk_below (blk_below k0 b2) b3, ⟨hb, by omega, _, blk_below k1 b3, Kd.R_nil _ _ _ _ _⟩, k2, by omega, by simp⟩
  generalize ((w.alloc (.cells #[.func (.func 72) #[] #[]] 157)).alloc (.cells #[.slice none 0 0] 139)).alloc (.cells #[.int .i64 0] 3) = w5 at hP0 ⊢
  have hsz5 := hP0.sz
  have hhands := valuesInt_hands (6 - 1) (by omega) Bs c w A l hC1 w5 hP0.hb (by omega) ((hP0.hb.cell (p := ⟨Bs, 0, none⟩) hBl).trans hBs)
  refine range_hands (F := Fence.wide) (n := 6) rfl (by omega) (gf := 106) (lb := #[.pointer (some ⟨Bs, 0, none⟩)]) rfl trivial (enters_of Tryz.func106 (by kernel_rfl) rfl)
    hhands (fun A B hst k hk => hst.elim) (fun _ => rfl) (fun h k => h.trans k) (fun W l o o' hl ho hc hw => belowK_b (by exact hP0.hb.size) _ _ _ _ hl ho hc hw)
    (PutSt 72 157 B l w) (fun _ _ => False) (PutSt.own hP0.hb.size) (fun s W W' row hs hg hr => hs.elim) (fun x s W W' row hs hg hr => hs) hP0 (fun s A B hs hst => hst.elim) (fun s A B hs _ => hs.elim)
    (fun p a' W => a' = { tmps := #[.pointer (some ⟨g, 0, none⟩), .func (.func 106) #[] #[.pointer (some ⟨Bs, 0, none⟩)], .func (.func 72) #[] #[], undef, undef, .pointer (some ⟨w.heap.size, 0, none⟩), .pointer (some ⟨w.heap.size + 1, 0, none⟩), .pointer (some ⟨w.heap.size + 1 + 1, 0, none⟩), enc1 p.2, .agg #[.slice none 0 0], .func (.func 106) #[] #[.pointer (some ⟨Bs, 0, none⟩)], enc1 p.2, undef, undef, undef, undef, undef, undef, undef, undef, undef, undef, undef, undef, undef, undef, undef, undef, undef, undef], defers := [] })
    (fun p a' s W W' row hs hg hr => hs) ?assign ?body ?done ?stop
  case assign =>
    rintro lp pre ⟨x, cs⟩ W K hI ⟨hK, hm⟩ hCont
    have hK0 := hK
    simp only at hK
    have hcs : cs = [.int .i64 x] := hK; subst hcs
    simp only [enc1, List.headD_cons]
    gi_wp2
    exact hCont _ _ (KeepsOthers.refl _) (Below.refl _ _) hI ⟨hK0, hm⟩ rfl
  case body =>
    rintro lp pre ⟨x, cs⟩ a' W hI ⟨hK, hm⟩ rfl hln
    have hK0 := hK
    simp only at hK hm
    have hcs : cs = [.int .i64 x] := hK; subst hcs
    have b_bx := blk_cell hI.bx 0
    have hgx := HG.out x hm
    have hpl : (pre.flatMap (fun p => B p.1)).length ≤ M * 1000 := by
      have h2 := flat_len (fun p : Int × List Value => B p.1) M pre (fun p hp => HM.out _ (HG.out _ (hI.gs p hp)))
      exact Nat.le_trans h2 (Nat.mul_le_mul_left M (by have := HN.out; omega))
    have hc := H1.out w (w.heap.size + 1) (pre.flatMap (fun p => B p.1)) x [.int .i64 x] W hK0 hgx (by have := HM.out x hgx; omega) hI.it
    have HI := Aside0.mk hI
    have HMM := Aside0.mk hm
    have hpb : pre.length < 1000 := by have := HN.out; omega
    clear hI hK hm hgx hpl hK0 hhands hln
    simp only [enc1, List.headD_cons] at hc
    gi_wp2_with fail
    refine ⟨trivial, ?_⟩
    gi_at_call 72
    refine (CallsIn.inRound lp (callsIn_wide.2 hc)).mono ?_
    rintro e W1 ⟨⟨v, rfl⟩, hcs, hpf⟩
    obtain ⟨n0, n1, hst⟩ := HI.out.step (p := (x, [.int .i64 x])) HMM.out (by decide) hcs hpf
    have HST := Aside0.mk hst
    clear hst hcs hpf hc
    gi_wp2
    exact .inl ⟨rfl, HST.out.2.1, HST.out.2.2, HST.out.1⟩
  case done =>
    rintro D xs W hD hS hI hK
    have hlen : xs.length = l.length := by have := congrArg List.length hS; rwa [List.length_map] at this
    have hnn := hI.nn
    rw [hlen] at hnn
    have hfl : xs.flatMap (fun p => B p.1) = l.flatMap B := by rw [← hS, List.flatMap_map]
    have hit := hI.it
    rw [hfl] at hit
    have hup := cup_calls w0 g bs (l.length : Int) (by have := HN.out; omega) (by have := HL.out; omega) W (HS.out.kept hI.hb)
    have n0 := blk_cell hnn 0
    have HI := Aside0.mk hI.hb
    have HIT := Aside0.mk hit
    have HNN := Aside0.mk hnn
    have HK := Aside0.mk hK
    obtain ⟨nl, hnl⟩ : ∃ nl, l.length = nl := ⟨_, rfl⟩
    have HNL := Aside0.mk hnl
    rw [hnl] at n0 hup
    clear hI hK hS hlen hnn hfl hit hhands hnl hP0
    gi_wp2_with fail
    refine ⟨trivial, ?_⟩
    gi_at_call 49
    refine (callsIn_wide.2 hup).mono ?_
    rintro e w6 ⟨⟨ve, rfl⟩, hcs, hpf⟩
    have hgl : g < w.heap.size := HS.out.lt
    have hcw := HS.out.kept HI.out
    have HK6 := Aside0.mk (hpf.obj_at hcw HK.out rfl)
    have hCR : ∀ k, w.heap.size ≤ k → some k ≠ CR g W := fun k hk => by
      obtain ⟨_, _, cv0, hcv0, hcr0⟩ := HS.out
      rw [CR_of (blk_below hcv0 HI.out)]
      intro e
      have := own_lt (Kd.own_of_R hcr0) k e.symm
      omega
    obtain ⟨_, _, iv, hiv, hir⟩ := HIT.out
    have hiv6 := hpf.2.2.1 _ _ hiv (by omega) (hCR _ (by omega))
    have hir6 := Kd.R_mono (Kd.R_step (Kd.R_bound hir) (fun k hk hlt => by
      obtain ⟨_, hbk, _, q, _, cells, hcc⟩ := hk
      exact (hpf.2.2.1 k _ hcc (by omega) (hCR k hbk)).trans hcc.symm)) (fun _ _ => trivial)
    obtain ⟨vA, vc, e0, hvl, hvC⟩ := Kd.R_reads hir6
    subst e0
    have HCS := Aside0.mk hcs
    obtain ⟨_, _, cv, hcv, hcr⟩ := hcs
    have c0 := blk_cell hiv6 0
    have d0 := blk_cell hcv 0
    obtain ⟨m, hm⟩ : ∃ m, (l.flatMap B).length = m := ⟨_, rfl⟩
    have HLN := Aside0.mk (show ((bs ++ upB (nl : Int)).length + (l.flatMap B).length) * 1 ≤ 140737488355328 by have := HL.out; unfold listB at this; rw [HNL.out] at this; simp only [List.length_append] at this ⊢; omega)
    have HPF := Aside0.mk ((PF.of_below hgl HI.out).trans hpf)
    have HCV := Aside0.mk hcv
    have HCR := Aside0.mk hcr
    have HSZ := Aside0.mk (show w0.heap.size ≤ w6.drew.heap.size from HCS.out.1.size)
    have HRD := Aside0.mk (show ReadsRow (fun x cs => cs = [.int .u8 x]) (Kd.int .u8).sz w6.drew vA m (l.flatMap B) from by rw [← hm]; exact Kd.C_below hvC (below_drew1 (Below.refl _ _)))
    rw [hm] at HLN c0
    clear hvC hvl hir6 hir hiv hiv6 hCR hcw hpf hcv hcr n0 hup hm
    gi_wp2_with fail
    refine wpIn_wide.2 ?_
    refine wp_mono (Q := fun e a w => e = .normal ∧ _) ?_ (fun e a w h => h.2)
    refine start_ (n := 11) (S := fun w' => w'.cell? ⟨g, 0, none⟩ = some cv ∧ w'.cell? ⟨w.heap.size + 1, 0, none⟩ = some (.slice vA m vc)) (ds := [7, 10]) #[false, false, false, false, false, false, false, false, false, false, false] (by kernel_rfl) rfl rfl ⟨d0, c0⟩ (fun hHeld => ?_); refine with_tabW (T := rtab .any (opsOf Tryz.f92 7)) rfl (B := [0, 0, 2, 6, 14, 0, 32, 126, 255, 511, 1023]) (by kernel_rfl) (fun HT_ HW_ => ?_)
    refine pure_ (i := 0) (N := some 20) (v := ?_) (a' := ?_) #[true, false, false, false, false, false, false, false, false, false, false] rfl rfl (any_of HT_.out (by kernel_rfl)) (fun _ _ _ h => nomatch h.1) (Or.inl ⟨by rfl, ?_⟩) ?_ ?_
    rotate_left
    · intro w'
      go_simp
      with_reducible rfl
    rotate_left
    · simp only [Act.put, List.setIfInBounds_toArray, List.set_cons_zero, List.set_cons_succ, i64_w, i32_w]
      rfl
    refine pure_ (i := 1) (N := some 21) (v := ?_) (a' := ?_) #[true, true, false, false, false, false, false, false, false, false, false] rfl rfl (any_of HT_.out (by kernel_rfl)) (fun _ _ _ h => nomatch h.1) (Or.inl ⟨by rfl, ?_⟩) ?_ ?_
    rotate_left
    · intro w'
      go_simp
      with_reducible rfl
    rotate_left
    · simp only [Act.put, List.setIfInBounds_toArray, List.set_cons_zero, List.set_cons_succ, i64_w, i32_w]
      rfl
    refine pure_ (i := 2) (N := some 22) (v := ?_) (a' := ?_) #[true, true, true, false, false, false, false, false, false, false, false] rfl rfl (any_of HT_.out (by kernel_rfl)) (fun _ _ _ h => nomatch h.1) (Or.inl ⟨by rfl, ?_⟩) ?_ ?_
    rotate_left
    · intro w'
      go_simp
      with_reducible rfl
    rotate_left
    · simp only [Act.put, List.setIfInBounds_toArray, List.set_cons_zero, List.set_cons_succ, i64_w, i32_w]
      rfl
    refine pure_ (i := 3) (N := some 23) (v := ?_) (a' := ?_) #[true, true, true, true, false, false, false, false, false, false, false] rfl rfl (any_of HT_.out (by kernel_rfl)) (fun _ _ _ h => nomatch h.1) (Or.inl ⟨by rfl, ?_⟩) ?_ ?_
    rotate_left
    · intro w'
      go_simp
      with_reducible rfl
    rotate_left
    · simp only [Act.put, List.setIfInBounds_toArray, List.set_cons_zero, List.set_cons_succ, i64_w, i32_w]
      rfl
    refine take_ (i := 4) (N := some 24) (v := ?_) (a' := ?_) #[true, true, true, true, true, false, false, false, false, false, false] rfl rfl (take_ofW HT_.out HW_.out (by kernel_rfl)) (fun _ _ _ h => nomatch h.1) (Or.inl ⟨by rfl, ?_⟩) hHeld ?_ ?_
    rotate_left
    · rintro w' ⟨s0, s1⟩
      go_simp
      with_reducible rfl
    rotate_left
    · simp only [Act.put, List.setIfInBounds_toArray, List.set_cons_zero, List.set_cons_succ, i64_w, i32_w]
      rfl
    refine pure_ (i := 5) (N := some 25) (v := ?_) (a' := ?_) #[true, true, true, true, true, true, false, false, false, false, false] rfl rfl (any_of HT_.out (by kernel_rfl)) (fun _ _ _ h => nomatch h.1) (Or.inl ⟨by rfl, ?_⟩) ?_ ?_
    rotate_left
    · intro w'
      go_simp
      with_reducible rfl
    rotate_left
    · simp only [Act.put, List.setIfInBounds_toArray, List.set_cons_zero, List.set_cons_succ, i64_w, i32_w]
      rfl
    refine take_ (i := 6) (N := some 26) (v := ?_) (a' := ?_) #[true, true, true, true, true, true, true, false, false, false, false] rfl rfl (take_ofW HT_.out HW_.out (by kernel_rfl)) (fun _ _ _ h => nomatch h.1) (Or.inl ⟨by rfl, ?_⟩) hHeld ?_ ?_
    rotate_left
    · rintro w' ⟨s0, s1⟩
      go_simp
      with_reducible rfl
    rotate_left
    · simp only [Act.put, List.setIfInBounds_toArray, List.set_cons_zero, List.set_cons_succ, i64_w, i32_w]
      rfl
    refine last_ (i := 7) (N := some 27) #[true, true, true, true, true, true, true, true, false, false, false] rfl rfl (one_of HT_.out (by kernel_rfl)) (by decide) (fun K hK => ?_)
    refine Kd.R_append_rows_step (Rr := fun x cs => cs = [.int .u8 x]) (Kd.int .u8) (w0 := w0) w0.heap.size (by rfl) (.tmp 24) (.tmp 26) 22 5 (.int .u8 0) 1 rfl Tryz.underlying22 info5 rfl (by decide) (by omega) cv (bs ++ upB (nl : Int)) (l.flatMap B) vA m vc (fun _ => True) (fun _ => False) rfl rfl (Kd.R_below HCR.out (below_drew1 (Below.refl _ _))) HRD.out (fun _ _ h => h) (fun _ hk => hk.elim) (fun _ _ => trivial) (below_drew1 HCS.out.1) HSZ.out HLN.out ?_
    intro v1 w1 hr hb hg hat
    refine (show K (Act.put _ (some 27) _) _ from hK.out _ _ ?_)
    clear hK K
    obtain ⟨v1A, v1n, v1c, e1⟩ : ∃ A n c, v1 = .slice A n c := by obtain ⟨A, c, e⟩ := Kd.R_slice hr; exact ⟨A, _, c, e⟩
    subst e1
    have hv7 := blk_grown (blk_drew HCV.out) hg (Kd.R_ne HCR.out HCV.out (by decide))
    have d7 := blk_cell hv7 0
    have f7 := blk_frozen hv7 0
    have HR7 := Aside0.mk hr
    have HB7 := Aside0.mk hb
    have HG7 := Aside0.mk hg
    have HAT := Aside0.mk hat
    clear hr hb hg hat hv7
    simp only [Act.put, List.setIfInBounds_toArray, List.set_cons_zero, List.set_cons_succ]
    refine pure_ (i := 8) (N := some 28) (v := ?_) (a' := ?_) #[true, true, true, true, true, true, true, true, true, false, false] rfl rfl (any_of HT_.out (by kernel_rfl)) (fun _ _ _ h => nomatch h.1) (Or.inl ⟨by rfl, ?_⟩) ?_ ?_
    rotate_left
    · intro w'
      go_simp
      with_reducible rfl
    rotate_left
    · simp only [Act.put, List.setIfInBounds_toArray, List.set_cons_zero, List.set_cons_succ, i64_w, i32_w]
      rfl
    refine pure_ (i := 9) (N := some 29) (v := ?_) (a' := ?_) #[true, true, true, true, true, true, true, true, true, true, false] rfl rfl (any_of HT_.out (by kernel_rfl)) (fun _ _ _ h => nomatch h.1) (Or.inl ⟨by rfl, ?_⟩) ?_ ?_
    rotate_left
    · intro w'
      go_simp
      with_reducible rfl
    rotate_left
    · simp only [Act.put, List.setIfInBounds_toArray, List.set_cons_zero, List.set_cons_succ, i64_w, i32_w]
      rfl
    refine last_ (i := 10) (N := none) #[true, true, true, true, true, true, true, true, true, true, true] rfl rfl (one_of HT_.out (by kernel_rfl)) (by decide) (fun K hK => ?_)
    refine skip_ (w1 := ?_) (by rfl) rfl ?_ ?_
    rotate_left
    · go_simp
      rfl
    refine hK.out _ _ ?_
    clear hK K
    refine done_ (done_of HT_.out (by kernel_rfl)) ?_
    refine ⟨rfl, ?_⟩
    clear hHeld HT_ HW_
    have FIN := Aside0.mk (coil_fin2 HCS.out HPF.out HS.out.1.size HCV.out hgl HCR.out HG7.out HR7.out HB7.out HAT.out (show w.heap.size ≤ D by omega) HK6.out)
    gi_wp2
    refine ⟨by simp, .inl ⟨_, _, rfl, run_takeDeferred FIN.out.2.2.1, ?_⟩⟩
    exact ⟨.tuple #[], by simp [results, Tryz.results92, go_sem], rfl, by unfold listB; rw [HNL.out, ← List.append_assoc]; exact FIN.out.2.2.2.1, FIN.out.2.2.2.2⟩
  case stop =>
    rintro D pre W hD hS hI hK
    exact hI.elim

theorem listIntU_calls (G : Int → Prop) (B : Int → List Int) (M : Nat) (hM : ∀ x, G x → (B x).length ≤ M) (hM2 : M ≤ 90000000) (h1 : PutOne 72 (Kd.int .i64) enc1 G B) (w0 : World) (g : Nat) (bs : List Int) (A : Option Addr) (c : Nat) (l : List (Int)) (hC : Kd.C (Kd.int .i64) w0 A l.length l) (hG : gList G l) (hl : bs.length + (listB B l).length ≤ 100000000000)
    (w : World) (h : CS w0 g bs w) :
    Calls Tryz.prog 71 #[.pointer (some ⟨g, 0, none⟩), .slice A l.length c, .func (.func 72) #[] #[]] w fun e w' => e = .returned (.tuple #[]) ∧ CS w0 g (bs ++ listB B l) w' ∧ PF g w w' := by
  have hb := (Below.refl _ w).alloc (Nat.le_refl _) (.cells #[.slice A l.length c] 86)
  have hp := PutIntU_calls G B M hM hM2 h1 w0 g bs A c l hC hG.2 hG.1 hl (w.alloc (.cells #[.slice A l.length c] 86)) (h.kept hb) w.heap.size (blk_cell (blk_new w _) 0)
  have hv := fun m => valuesInt_calls A m c w
  have HP0 := Aside0.mk (PF.of_below h.lt hb)
  obtain ⟨nl, hnl⟩ : ∃ nl, l.length = nl := ⟨_, rfl⟩
  rw [hnl] at hp HP0 ⊢
  clear hb h hl hG hC h1 hM hnl
  go_enter Tryz.func71, Tryz.ntmps71
  go_wp2_with (first
    | (go_at_call 93; refine (hv _).mono ?_; rintro e w1 ⟨rfl, rfl⟩; clear hv)
    | (go_at_call 92; refine (show Calls _ _ _ _ _ from hp).mono ?_; rintro e w2 ⟨rfl, hcs, hpf⟩; have HC := Aside0.mk hcs; have HP := Aside0.mk hpf; clear hcs hpf hp))
  go_end0
  exact ⟨rfl, HC.out, HP0.out.trans HP.out⟩

set_option maxRecDepth 100000 in
set_option maxHeartbeats 8000000 in
theorem PutIntI_calls (G : Int → Prop) (B : Int → List Int) (M : Nat) (hM : ∀ x, G x → (B x).length ≤ M) (hM2 : M ≤ 90000000) (h1 : PutOne 97 (Kd.int .i64) enc1 G B) (w0 : World) (g : Nat) (bs : List Int) (A : Option Addr) (c : Nat) (l : List (Int)) (hC : Kd.C (Kd.int .i64) w0 A l.length l) (hG : ∀ x ∈ l, G x) (hn : l.length ≤ 1000) (hl : bs.length + (listB B l).length ≤ 100000000000)
    (w : World) (h : CS w0 g bs w) (Bs : Nat) (hBs : w.cell? ⟨Bs, 0, none⟩ = some (.slice A l.length c)) :
    Calls Tryz.prog 92 #[.pointer (some ⟨g, 0, none⟩), .func (.func 106) #[] #[.pointer (some ⟨Bs, 0, none⟩)], .func (.func 97) #[] #[]] w fun e w' => e = .returned (.tuple #[]) ∧ CS w0 g (bs ++ listB B l) w' ∧ PF g w w' := by
  have HS := Aside0.mk h
  have HG := Aside0.mk hG
  have HL := Aside0.mk hl
  have HN := Aside0.mk hn
  have HM := Aside0.mk hM
  have H1 := Aside0.mk h1
  have hC1 := Kd.C_below hC h.1
  have hBl : Bs < w.heap.size := World.block_lt_of_cell? w _ hBs
  clear h hG hl hn hM h1 hC
  refine (callsIn_wide (n := 6)).1 ?_
  refine callsIn_of_wp_marks Tryz.func92 rfl trivial ?_ rfl
  simp only [Tryz.ntmps92, List.size_toArray, List.length_cons, List.length_nil, Nat.reduceAdd, Nat.reduceSub, Array.replicate_succ, Array.replicate_zero, List.push_toArray, List.append_toArray, List.nil_append, List.cons_append]
  have hu := Tryz.underlying139
  gi_wp2_with fail
  have hP0 : PutSt (α := Int) 97 157 B l w [] (((w.alloc (.cells #[.func (.func 97) #[] #[]] 157)).alloc (.cells #[.slice none 0 0] 139)).alloc (.cells #[.int .i64 0] 3)) := by
    obtain ⟨w1, e1⟩ : ∃ w1, w.alloc (.cells #[.func (.func 97) #[] #[]] 157) = w1 := ⟨_, rfl⟩
    obtain ⟨w2, e2⟩ : ∃ w2, w1.alloc (.cells #[.slice none 0 0] 139) = w2 := ⟨_, rfl⟩
    obtain ⟨w3, e3⟩ : ∃ w3, w2.alloc (.cells #[.int .i64 0] 3) = w3 := ⟨_, rfl⟩
    have z1 : w1.heap.size = w.heap.size + 1 := by rw [← e1]; exact World.size_alloc _ _
    have z2 : w2.heap.size = w.heap.size + 1 + 1 := by rw [← e2, World.size_alloc, z1]
    have z3 : w3.heap.size = w.heap.size + 1 + 1 + 1 := by rw [← e3, World.size_alloc, z2]
    have b1 : Below w.heap.size w w1 := by rw [← e1]; exact (Below.refl _ _).alloc (Nat.le_refl _) _
    have b2 : Below w1.heap.size w1 w2 := by rw [← e2]; exact (Below.refl _ _).alloc (Nat.le_refl _) _
    have b3 : Below w2.heap.size w2 w3 := by rw [← e3]; exact (Below.refl _ _).alloc (Nat.le_refl _) _
    have k0 := heap_alloc_new w (.cells #[.func (.func 97) #[] #[]] 157)
    have k1 := heap_alloc_new w1 (.cells #[.slice none 0 0] 139)
    have k2 := heap_alloc_new w2 (.cells #[.int .i64 0] 3)
    rw [e1] at k0
    rw [e2, z1] at k1
    rw [e3, z2] at k2
    rw [e1, e2, e3]
    have hb := b1.trans ((b2.trans (b3.mono b2.size)).mono b1.size)
    exact ⟨hb, blk_below (blk_below k0 b2) b3, ⟨hb, by omega, _, blk_below k1 b3, Kd.R_nil _ _ _ _ _⟩, k2, by omega, by simp⟩
  generalize ((w.alloc (.cells #[.func (.func 97) #[] #[]] 157)).alloc (.cells #[.slice none 0 0] 139)).alloc (.cells #[.int .i64 0] 3) = w5 at hP0 ⊢
  have hsz5 := hP0.sz
  have hhands := valuesInt_hands (6 - 1) (by omega) Bs c w A l hC1 w5 hP0.hb (by omega) ((hP0.hb.cell (p := ⟨Bs, 0, none⟩) hBl).trans hBs)
  refine range_hands (F := Fence.wide) (n := 6) rfl (by omega) (gf := 106) (lb := #[.pointer (some ⟨Bs, 0, none⟩)]) rfl trivial (enters_of Tryz.func106 (by kernel_rfl) rfl)
    hhands (fun A B hst k hk => hst.elim) (fun _ => rfl) (fun h k => h.trans k) (fun W l o o' hl ho hc hw => belowK_b (by exact hP0.hb.size) _ _ _ _ hl ho hc hw)
    (PutSt 97 157 B l w) (fun _ _ => False) (PutSt.own hP0.hb.size) (fun s W W' row hs hg hr => hs.elim) (fun x s W W' row hs hg hr => hs) hP0 (fun s A B hs hst => hst.elim) (fun s A B hs _ => hs.elim)
    (fun p a' W => a' = { tmps := #[.pointer (some ⟨g, 0, none⟩), .func (.func 106) #[] #[.pointer (some ⟨Bs, 0, none⟩)], .func (.func 97) #[] #[], undef, undef, .pointer (some ⟨w.heap.size, 0, none⟩), .pointer (some ⟨w.heap.size + 1, 0, none⟩), .pointer (some ⟨w.heap.size + 1 + 1, 0, none⟩), enc1 p.2, .agg #[.slice none 0 0], .func (.func 106) #[] #[.pointer (some ⟨Bs, 0, none⟩)], enc1 p.2, undef, undef, undef, undef, undef, undef, undef, undef, undef, undef, undef, undef, undef, undef, undef, undef, undef, undef], defers := [] })
    (fun p a' s W W' row hs hg hr => hs) ?assign ?body ?done ?stop
  case assign =>
    rintro lp pre ⟨x, cs⟩ W K hI ⟨hK, hm⟩ hCont
    have hK0 := hK
    simp only at hK
    have hcs : cs = [.int .i64 x] := hK; subst hcs
    simp only [enc1, List.headD_cons]
    gi_wp2
    exact hCont _ _ (KeepsOthers.refl _) (Below.refl _ _) hI ⟨hK0, hm⟩ rfl
  case body =>
    rintro lp pre ⟨x, cs⟩ a' W hI ⟨hK, hm⟩ rfl hln
    have hK0 := hK
    simp only at hK hm
    have hcs : cs = [.int .i64 x] := hK; subst hcs
    have b_bx := blk_cell hI.bx 0
    have hgx := HG.out x hm
    have hpl : (pre.flatMap (fun p => B p.1)).length ≤ M * 1000 := by
      have h2 := flat_len (fun p : Int × List Value => B p.1) M pre (fun p hp => HM.out _ (HG.out _ (hI.gs p hp)))
      exact Nat.le_trans h2 (Nat.mul_le_mul_left M (by have := HN.out; omega))
    have hc := H1.out w (w.heap.size + 1) (pre.flatMap (fun p => B p.1)) x [.int .i64 x] W hK0 hgx (by have := HM.out x hgx; omega) hI.it
    have HI := Aside0.mk hI
    have HMM := Aside0.mk hm
    have hpb : pre.length < 1000 := by have := HN.out; omega
    clear hI hK hm hgx hpl hK0 hhands hln
    simp only [enc1, List.headD_cons] at hc
    gi_wp2_with fail
    refine ⟨trivial, ?_⟩
    gi_at_call 97
    refine (CallsIn.inRound lp (callsIn_wide.2 hc)).mono ?_
    rintro e W1 ⟨⟨v, rfl⟩, hcs, hpf⟩
    obtain ⟨n0, n1, hst⟩ := HI.out.step (p := (x, [.int .i64 x])) HMM.out (by decide) hcs hpf
    have HST := Aside0.mk hst
    clear hst hcs hpf hc
    gi_wp2
    exact .inl ⟨rfl, HST.out.2.1, HST.out.2.2, HST.out.1⟩
  case done =>
    rintro D xs W hD hS hI hK
    have hlen : xs.length = l.length := by have := congrArg List.length hS; rwa [List.length_map] at this
    have hnn := hI.nn
    rw [hlen] at hnn
    have hfl : xs.flatMap (fun p => B p.1) = l.flatMap B := by rw [← hS, List.flatMap_map]
    have hit := hI.it
    rw [hfl] at hit
    have hup := cup_calls w0 g bs (l.length : Int) (by have := HN.out; omega) (by have := HL.out; omega) W (HS.out.kept hI.hb)
    have n0 := blk_cell hnn 0
    have HI := Aside0.mk hI.hb
    have HIT := Aside0.mk hit
    have HNN := Aside0.mk hnn
    have HK := Aside0.mk hK
    obtain ⟨nl, hnl⟩ : ∃ nl, l.length = nl := ⟨_, rfl⟩
    have HNL := Aside0.mk hnl
    rw [hnl] at n0 hup
    clear hI hK hS hlen hnn hfl hit hhands hnl hP0
    gi_wp2_with fail
    refine ⟨trivial, ?_⟩
    gi_at_call 49
    refine (callsIn_wide.2 hup).mono ?_
    rintro e w6 ⟨⟨ve, rfl⟩, hcs, hpf⟩
    have hgl : g < w.heap.size := HS.out.lt
    have hcw := HS.out.kept HI.out
    have HK6 := Aside0.mk (hpf.obj_at hcw HK.out rfl)
    have hCR : ∀ k, w.heap.size ≤ k → some k ≠ CR g W := fun k hk => by
      obtain ⟨_, _, cv0, hcv0, hcr0⟩ := HS.out
      rw [CR_of (blk_below hcv0 HI.out)]
      intro e
      have := own_lt (Kd.own_of_R hcr0) k e.symm
      omega
    obtain ⟨_, _, iv, hiv, hir⟩ := HIT.out
    have hiv6 := hpf.2.2.1 _ _ hiv (by omega) (hCR _ (by omega))
    have hir6 := Kd.R_mono (Kd.R_step (Kd.R_bound hir) (fun k hk hlt => by
      obtain ⟨_, hbk, _, q, _, cells, hcc⟩ := hk
      exact (hpf.2.2.1 k _ hcc (by omega) (hCR k hbk)).trans hcc.symm)) (fun _ _ => trivial)
    obtain ⟨vA, vc, e0, hvl, hvC⟩ := Kd.R_reads hir6
    subst e0
    have HCS := Aside0.mk hcs
    obtain ⟨_, _, cv, hcv, hcr⟩ := hcs
    have c0 := blk_cell hiv6 0
    have d0 := blk_cell hcv 0
    obtain ⟨m, hm⟩ : ∃ m, (l.flatMap B).length = m := ⟨_, rfl⟩
    have HLN := Aside0.mk (show ((bs ++ upB (nl : Int)).length + (l.flatMap B).length) * 1 ≤ 140737488355328 by have := HL.out; unfold listB at this; rw [HNL.out] at this; simp only [List.length_append] at this ⊢; omega)
    have HPF := Aside0.mk ((PF.of_below hgl HI.out).trans hpf)
    have HCV := Aside0.mk hcv
    have HCR := Aside0.mk hcr
    have HSZ := Aside0.mk (show w0.heap.size ≤ w6.drew.heap.size from HCS.out.1.size)
    have HRD := Aside0.mk (show ReadsRow (fun x cs => cs = [.int .u8 x]) (Kd.int .u8).sz w6.drew vA m (l.flatMap B) from by rw [← hm]; exact Kd.C_below hvC (below_drew1 (Below.refl _ _)))
    rw [hm] at HLN c0
    clear hvC hvl hir6 hir hiv hiv6 hCR hcw hpf hcv hcr n0 hup hm
    gi_wp2_with fail
    refine wpIn_wide.2 ?_
    refine wp_mono (Q := fun e a w => e = .normal ∧ _) ?_ (fun e a w h => h.2)
    refine start_ (n := 11) (S := fun w' => w'.cell? ⟨g, 0, none⟩ = some cv ∧ w'.cell? ⟨w.heap.size + 1, 0, none⟩ = some (.slice vA m vc)) (ds := [7, 10]) #[false, false, false, false, false, false, false, false, false, false, false] (by kernel_rfl) rfl rfl ⟨d0, c0⟩ (fun hHeld => ?_); refine with_tabW (T := rtab .any (opsOf Tryz.f92 7)) rfl (B := [0, 0, 2, 6, 14, 0, 32, 126, 255, 511, 1023]) (by kernel_rfl) (fun HT_ HW_ => ?_)
    refine pure_ (i := 0) (N := some 20) (v := ?_) (a' := ?_) #[true, false, false, false, false, false, false, false, false, false, false] rfl rfl (any_of HT_.out (by kernel_rfl)) (fun _ _ _ h => nomatch h.1) (Or.inl ⟨by rfl, ?_⟩) ?_ ?_
    rotate_left
    · intro w'
      go_simp
      with_reducible rfl
    rotate_left
    · simp only [Act.put, List.setIfInBounds_toArray, List.set_cons_zero, List.set_cons_succ, i64_w, i32_w]
      rfl
    refine pure_ (i := 1) (N := some 21) (v := ?_) (a' := ?_) #[true, true, false, false, false, false, false, false, false, false, false] rfl rfl (any_of HT_.out (by kernel_rfl)) (fun _ _ _ h => nomatch h.1) (Or.inl ⟨by rfl, ?_⟩) ?_ ?_
    rotate_left
    · intro w'
      go_simp
      with_reducible rfl
    rotate_left
    · simp only [Act.put, List.setIfInBounds_toArray, List.set_cons_zero, List.set_cons_succ, i64_w, i32_w]
      rfl
    refine pure_ (i := 2) (N := some 22) (v := ?_) (a' := ?_) #[true, true, true, false, false, false, false, false, false, false, false] rfl rfl (any_of HT_.out (by kernel_rfl)) (fun _ _ _ h => nomatch h.1) (Or.inl ⟨by rfl, ?_⟩) ?_ ?_
    rotate_left
    · intro w'
      go_simp
      with_reducible rfl
    rotate_left
    · simp only [Act.put, List.setIfInBounds_toArray, List.set_cons_zero, List.set_cons_succ, i64_w, i32_w]
      rfl
    refine pure_ (i := 3) (N := some 23) (v := ?_) (a' := ?_) #[true, true, true, true, false, false, false, false, false, false, false] rfl rfl (any_of HT_.out (by kernel_rfl)) (fun _ _ _ h => nomatch h.1) (Or.inl ⟨by rfl, ?_⟩) ?_ ?_
    rotate_left
    · intro w'
      go_simp
      with_reducible rfl
    rotate_left
    · simp only [Act.put, List.setIfInBounds_toArray, List.set_cons_zero, List.set_cons_succ, i64_w, i32_w]
      rfl
    refine take_ (i := 4) (N := some 24) (v := ?_) (a' := ?_) #[true, true, true, true, true, false, false, false, false, false, false] rfl rfl (take_ofW HT_.out HW_.out (by kernel_rfl)) (fun _ _ _ h => nomatch h.1) (Or.inl ⟨by rfl, ?_⟩) hHeld ?_ ?_
    rotate_left
    · rintro w' ⟨s0, s1⟩
      go_simp
      with_reducible rfl
    rotate_left
    · simp only [Act.put, List.setIfInBounds_toArray, List.set_cons_zero, List.set_cons_succ, i64_w, i32_w]
      rfl
    refine pure_ (i := 5) (N := some 25) (v := ?_) (a' := ?_) #[true, true, true, true, true, true, false, false, false, false, false] rfl rfl (any_of HT_.out (by kernel_rfl)) (fun _ _ _ h => nomatch h.1) (Or.inl ⟨by rfl, ?_⟩) ?_ ?_
    rotate_left
    · intro w'
      go_simp
      with_reducible rfl
    rotate_left
    · simp only [Act.put, List.setIfInBounds_toArray, List.set_cons_zero, List.set_cons_succ, i64_w, i32_w]
      rfl
    refine take_ (i := 6) (N := some 26) (v := ?_) (a' := ?_) #[true, true, true, true, true, true, true, false, false, false, false] rfl rfl (take_ofW HT_.out HW_.out (by kernel_rfl)) (fun _ _ _ h => nomatch h.1) (Or.inl ⟨by rfl, ?_⟩) hHeld ?_ ?_
    rotate_left
    · rintro w' ⟨s0, s1⟩
      go_simp
      with_reducible rfl
    rotate_left
    · simp only [Act.put, List.setIfInBounds_toArray, List.set_cons_zero, List.set_cons_succ, i64_w, i32_w]
      rfl
    refine last_ (i := 7) (N := some 27) #[true, true, true, true, true, true, true, true, false, false, false] rfl rfl (one_of HT_.out (by kernel_rfl)) (by decide) (fun K hK => ?_)
    refine Kd.R_append_rows_step (Rr := fun x cs => cs = [.int .u8 x]) (Kd.int .u8) (w0 := w0) w0.heap.size (by rfl) (.tmp 24) (.tmp 26) 22 5 (.int .u8 0) 1 rfl Tryz.underlying22 info5 rfl (by decide) (by omega) cv (bs ++ upB (nl : Int)) (l.flatMap B) vA m vc (fun _ => True) (fun _ => False) rfl rfl (Kd.R_below HCR.out (below_drew1 (Below.refl _ _))) HRD.out (fun _ _ h => h) (fun _ hk => hk.elim) (fun _ _ => trivial) (below_drew1 HCS.out.1) HSZ.out HLN.out ?_
    intro v1 w1 hr hb hg hat
    refine (show K (Act.put _ (some 27) _) _ from hK.out _ _ ?_)
    clear hK K
    obtain ⟨v1A, v1n, v1c, e1⟩ : ∃ A n c, v1 = .slice A n c := by obtain ⟨A, c, e⟩ := Kd.R_slice hr; exact ⟨A, _, c, e⟩
    subst e1
    have hv7 := blk_grown (blk_drew HCV.out) hg (Kd.R_ne HCR.out HCV.out (by decide))
    have d7 := blk_cell hv7 0
    have f7 := blk_frozen hv7 0
    have HR7 := Aside0.mk hr
    have HB7 := Aside0.mk hb
    have HG7 := Aside0.mk hg
    have HAT := Aside0.mk hat
    clear hr hb hg hat hv7
    simp only [Act.put, List.setIfInBounds_toArray, List.set_cons_zero, List.set_cons_succ]
    refine pure_ (i := 8) (N := some 28) (v := ?_) (a' := ?_) #[true, true, true, true, true, true, true, true, true, false, false] rfl rfl (any_of HT_.out (by kernel_rfl)) (fun _ _ _ h => nomatch h.1) (Or.inl ⟨by rfl, ?_⟩) ?_ ?_
    rotate_left
    · intro w'
      go_simp
      with_reducible rfl
    rotate_left
    · simp only [Act.put, List.setIfInBounds_toArray, List.set_cons_zero, List.set_cons_succ, i64_w, i32_w]
      rfl
    refine pure_ (i := 9) (N := some 29) (v := ?_) (a' := ?_) #[true, true, true, true, true, true, true, true, true, true, false] rfl rfl (any_of HT_.out (by kernel_rfl)) (fun _ _ _ h => nomatch h.1) (Or.inl ⟨by rfl, ?_⟩) ?_ ?_
    rotate_left
    · intro w'
      go_simp
      with_reducible rfl
    rotate_left
    · simp only [Act.put, List.setIfInBounds_toArray, List.set_cons_zero, List.set_cons_succ, i64_w, i32_w]
      rfl
    refine last_ (i := 10) (N := none) #[true, true, true, true, true, true, true, true, true, true, true] rfl rfl (one_of HT_.out (by kernel_rfl)) (by decide) (fun K hK => ?_)
    refine skip_ (w1 := ?_) (by rfl) rfl ?_ ?_
    rotate_left
    · go_simp
      rfl
    refine hK.out _ _ ?_
    clear hK K
    refine done_ (done_of HT_.out (by kernel_rfl)) ?_
    refine ⟨rfl, ?_⟩
    clear hHeld HT_ HW_
    have FIN := Aside0.mk (coil_fin2 HCS.out HPF.out HS.out.1.size HCV.out hgl HCR.out HG7.out HR7.out HB7.out HAT.out (show w.heap.size ≤ D by omega) HK6.out)
    gi_wp2
    refine ⟨by simp, .inl ⟨_, _, rfl, run_takeDeferred FIN.out.2.2.1, ?_⟩⟩
    exact ⟨.tuple #[], by simp [results, Tryz.results92, go_sem], rfl, by unfold listB; rw [HNL.out, ← List.append_assoc]; exact FIN.out.2.2.2.1, FIN.out.2.2.2.2⟩
  case stop =>
    rintro D pre W hD hS hI hK
    exact hI.elim

theorem listIntI_calls (G : Int → Prop) (B : Int → List Int) (M : Nat) (hM : ∀ x, G x → (B x).length ≤ M) (hM2 : M ≤ 90000000) (h1 : PutOne 97 (Kd.int .i64) enc1 G B) (w0 : World) (g : Nat) (bs : List Int) (A : Option Addr) (c : Nat) (l : List (Int)) (hC : Kd.C (Kd.int .i64) w0 A l.length l) (hG : gList G l) (hl : bs.length + (listB B l).length ≤ 100000000000)
    (w : World) (h : CS w0 g bs w) :
    Calls Tryz.prog 71 #[.pointer (some ⟨g, 0, none⟩), .slice A l.length c, .func (.func 97) #[] #[]] w fun e w' => e = .returned (.tuple #[]) ∧ CS w0 g (bs ++ listB B l) w' ∧ PF g w w' := by
  have hb := (Below.refl _ w).alloc (Nat.le_refl _) (.cells #[.slice A l.length c] 86)
  have hp := PutIntI_calls G B M hM hM2 h1 w0 g bs A c l hC hG.2 hG.1 hl (w.alloc (.cells #[.slice A l.length c] 86)) (h.kept hb) w.heap.size (blk_cell (blk_new w _) 0)
  have hv := fun m => valuesInt_calls A m c w
  have HP0 := Aside0.mk (PF.of_below h.lt hb)
  obtain ⟨nl, hnl⟩ : ∃ nl, l.length = nl := ⟨_, rfl⟩
  rw [hnl] at hp HP0 ⊢
  clear hb h hl hG hC h1 hM hnl
  go_enter Tryz.func71, Tryz.ntmps71
  go_wp2_with (first
    | (go_at_call 93; refine (hv _).mono ?_; rintro e w1 ⟨rfl, rfl⟩; clear hv)
    | (go_at_call 92; refine (show Calls _ _ _ _ _ from hp).mono ?_; rintro e w2 ⟨rfl, hcs, hpf⟩; have HC := Aside0.mk hcs; have HP := Aside0.mk hpf; clear hcs hpf hp))
  go_end0
  exact ⟨rfl, HC.out, HP0.out.trans HP.out⟩

set_option maxRecDepth 100000 in
set_option maxHeartbeats 8000000 in
theorem PutStr_calls (G : ByteArray → Prop) (B : ByteArray → List Int) (M : Nat) (hM : ∀ x, G x → (B x).length ≤ M) (hM2 : M ≤ 90000000) (h1 : PutOne 99 Kd.string enc1 G B) (w0 : World) (g : Nat) (bs : List Int) (A : Option Addr) (c : Nat) (l : List (ByteArray)) (hC : Kd.C Kd.string w0 A l.length l) (hG : ∀ x ∈ l, G x) (hn : l.length ≤ 1000) (hl : bs.length + (listB B l).length ≤ 100000000000)
    (w : World) (h : CS w0 g bs w) (Bs : Nat) (hBs : w.cell? ⟨Bs, 0, none⟩ = some (.slice A l.length c)) :
    Calls Tryz.prog 108 #[.pointer (some ⟨g, 0, none⟩), .func (.func 112) #[] #[.pointer (some ⟨Bs, 0, none⟩)], .func (.func 99) #[] #[]] w fun e w' => e = .returned (.tuple #[]) ∧ CS w0 g (bs ++ listB B l) w' ∧ PF g w w' := by
  have HS := Aside0.mk h
  have HG := Aside0.mk hG
  have HL := Aside0.mk hl
  have HN := Aside0.mk hn
  have HM := Aside0.mk hM
  have H1 := Aside0.mk h1
  have hC1 := Kd.C_below hC h.1
  have hBl : Bs < w.heap.size := World.block_lt_of_cell? w _ hBs
  clear h hG hl hn hM h1 hC
  refine (callsIn_wide (n := 6)).1 ?_
  refine callsIn_of_wp_marks Tryz.func108 rfl trivial ?_ rfl
  simp only [Tryz.ntmps108, List.size_toArray, List.length_cons, List.length_nil, Nat.reduceAdd, Nat.reduceSub, Array.replicate_succ, Array.replicate_zero, List.push_toArray, List.append_toArray, List.nil_append, List.cons_append]
  have hu := Tryz.underlying139
  gi_wp2_with fail
  have hP0 : PutSt (α := ByteArray) 99 192 B l w [] (((w.alloc (.cells #[.func (.func 99) #[] #[]] 192)).alloc (.cells #[.slice none 0 0] 139)).alloc (.cells #[.int .i64 0] 3)) := by
    obtain ⟨w1, e1⟩ : ∃ w1, w.alloc (.cells #[.func (.func 99) #[] #[]] 192) = w1 := ⟨_, rfl⟩
    obtain ⟨w2, e2⟩ : ∃ w2, w1.alloc (.cells #[.slice none 0 0] 139) = w2 := ⟨_, rfl⟩
    obtain ⟨w3, e3⟩ : ∃ w3, w2.alloc (.cells #[.int .i64 0] 3) = w3 := ⟨_, rfl⟩
    have z1 : w1.heap.size = w.heap.size + 1 := by rw [← e1]; exact World.size_alloc _ _
    have z2 : w2.heap.size = w.heap.size + 1 + 1 := by rw [← e2, World.size_alloc, z1]
    have z3 : w3.heap.size = w.heap.size + 1 + 1 + 1 := by rw [← e3, World.size_alloc, z2]
    have b1 : Below w.heap.size w w1 := by rw [← e1]; exact (Below.refl _ _).alloc (Nat.le_refl _) _
    have b2 : Below w1.heap.size w1 w2 := by rw [← e2]; exact (Below.refl _ _).alloc (Nat.le_refl _) _
    have b3 : Below w2.heap.size w2 w3 := by rw [← e3]; exact (Below.refl _ _).alloc (Nat.le_refl _) _
    have k0 := heap_alloc_new w (.cells #[.func (.func 99) #[] #[]] 192)
    have k1 := heap_alloc_new w1 (.cells #[.slice none 0 0] 139)
    have k2 := heap_alloc_new w2 (.cells #[.int .i64 0] 3)
    rw [e1] at k0
    rw [e2, z1] at k1
    rw [e3, z2] at k2
    rw [e1, e2, e3]
    have hb := b1.trans ((b2.trans (b3.mono b2.size)).mono b1.size)
    exact ⟨hb, blk_below (blk_below k0 b2) b3, ⟨hb, by omega, _, blk_below k1 b3, Kd.R_nil _ _ _ _ _⟩, k2, by omega, by simp⟩
  generalize ((w.alloc (.cells #[.func (.func 99) #[] #[]] 192)).alloc (.cells #[.slice none 0 0] 139)).alloc (.cells #[.int .i64 0] 3) = w5 at hP0 ⊢
  have hsz5 := hP0.sz
  have hhands := valuesStr_hands (6 - 1) (by omega) Bs c w A l hC1 w5 hP0.hb (by omega) ((hP0.hb.cell (p := ⟨Bs, 0, none⟩) hBl).trans hBs)
  refine range_hands (F := Fence.wide) (n := 6) rfl (by omega) (gf := 112) (lb := #[.pointer (some ⟨Bs, 0, none⟩)]) rfl trivial (enters_of Tryz.func112 (by kernel_rfl) rfl)
    hhands (fun A B hst k hk => hst.elim) (fun _ => rfl) (fun h k => h.trans k) (fun W l o o' hl ho hc hw => belowK_b (by exact hP0.hb.size) _ _ _ _ hl ho hc hw)
    (PutSt 99 192 B l w) (fun _ _ => False) (PutSt.own hP0.hb.size) (fun s W W' row hs hg hr => hs.elim) (fun x s W W' row hs hg hr => hs) hP0 (fun s A B hs hst => hst.elim) (fun s A B hs _ => hs.elim)
    (fun p a' W => a' = { tmps := #[.pointer (some ⟨g, 0, none⟩), .func (.func 112) #[] #[.pointer (some ⟨Bs, 0, none⟩)], .func (.func 99) #[] #[], undef, undef, .pointer (some ⟨w.heap.size, 0, none⟩), .pointer (some ⟨w.heap.size + 1, 0, none⟩), .pointer (some ⟨w.heap.size + 1 + 1, 0, none⟩), enc1 p.2, .agg #[.slice none 0 0], .func (.func 112) #[] #[.pointer (some ⟨Bs, 0, none⟩)], enc1 p.2, undef, undef, undef, undef, undef, undef, undef, undef, undef, undef, undef, undef, undef, undef, undef, undef, undef, undef], defers := [] })
    (fun p a' s W W' row hs hg hr => hs) ?assign ?body ?done ?stop
  case assign =>
    rintro lp pre ⟨x, cs⟩ W K hI ⟨hK, hm⟩ hCont
    have hK0 := hK
    simp only at hK
    have hcs : cs = [.string x] := hK; subst hcs
    simp only [enc1, List.headD_cons]
    gi_wp2
    exact hCont _ _ (KeepsOthers.refl _) (Below.refl _ _) hI ⟨hK0, hm⟩ rfl
  case body =>
    rintro lp pre ⟨x, cs⟩ a' W hI ⟨hK, hm⟩ rfl hln
    have hK0 := hK
    simp only at hK hm
    have hcs : cs = [.string x] := hK; subst hcs
    have b_bx := blk_cell hI.bx 0
    have hgx := HG.out x hm
    have hpl : (pre.flatMap (fun p => B p.1)).length ≤ M * 1000 := by
      have h2 := flat_len (fun p : ByteArray × List Value => B p.1) M pre (fun p hp => HM.out _ (HG.out _ (hI.gs p hp)))
      exact Nat.le_trans h2 (Nat.mul_le_mul_left M (by have := HN.out; omega))
    have hc := H1.out w (w.heap.size + 1) (pre.flatMap (fun p => B p.1)) x [.string x] W hK0 hgx (by have := HM.out x hgx; omega) hI.it
    have HI := Aside0.mk hI
    have HMM := Aside0.mk hm
    have hpb : pre.length < 1000 := by have := HN.out; omega
    clear hI hK hm hgx hpl hK0 hhands hln
    simp only [enc1, List.headD_cons] at hc
    gi_wp2_with fail
    refine ⟨trivial, ?_⟩
    gi_at_call 99
    refine (CallsIn.inRound lp (callsIn_wide.2 hc)).mono ?_
    rintro e W1 ⟨⟨v, rfl⟩, hcs, hpf⟩
    obtain ⟨n0, n1, hst⟩ := HI.out.step (p := (x, [.string x])) HMM.out (by decide) hcs hpf
    have HST := Aside0.mk hst
    clear hst hcs hpf hc
    gi_wp2
    exact .inl ⟨rfl, HST.out.2.1, HST.out.2.2, HST.out.1⟩
  case done =>
    rintro D xs W hD hS hI hK
    have hlen : xs.length = l.length := by have := congrArg List.length hS; rwa [List.length_map] at this
    have hnn := hI.nn
    rw [hlen] at hnn
    have hfl : xs.flatMap (fun p => B p.1) = l.flatMap B := by rw [← hS, List.flatMap_map]
    have hit := hI.it
    rw [hfl] at hit
    have hup := cup_calls w0 g bs (l.length : Int) (by have := HN.out; omega) (by have := HL.out; omega) W (HS.out.kept hI.hb)
    have n0 := blk_cell hnn 0
    have HI := Aside0.mk hI.hb
    have HIT := Aside0.mk hit
    have HNN := Aside0.mk hnn
    have HK := Aside0.mk hK
    obtain ⟨nl, hnl⟩ : ∃ nl, l.length = nl := ⟨_, rfl⟩
    have HNL := Aside0.mk hnl
    rw [hnl] at n0 hup
    clear hI hK hS hlen hnn hfl hit hhands hnl hP0
    gi_wp2_with fail
    refine ⟨trivial, ?_⟩
    gi_at_call 49
    refine (callsIn_wide.2 hup).mono ?_
    rintro e w6 ⟨⟨ve, rfl⟩, hcs, hpf⟩
    have hgl : g < w.heap.size := HS.out.lt
    have hcw := HS.out.kept HI.out
    have HK6 := Aside0.mk (hpf.obj_at hcw HK.out rfl)
    have hCR : ∀ k, w.heap.size ≤ k → some k ≠ CR g W := fun k hk => by
      obtain ⟨_, _, cv0, hcv0, hcr0⟩ := HS.out
      rw [CR_of (blk_below hcv0 HI.out)]
      intro e
      have := own_lt (Kd.own_of_R hcr0) k e.symm
      omega
    obtain ⟨_, _, iv, hiv, hir⟩ := HIT.out
    have hiv6 := hpf.2.2.1 _ _ hiv (by omega) (hCR _ (by omega))
    have hir6 := Kd.R_mono (Kd.R_step (Kd.R_bound hir) (fun k hk hlt => by
      obtain ⟨_, hbk, _, q, _, cells, hcc⟩ := hk
      exact (hpf.2.2.1 k _ hcc (by omega) (hCR k hbk)).trans hcc.symm)) (fun _ _ => trivial)
    obtain ⟨vA, vc, e0, hvl, hvC⟩ := Kd.R_reads hir6
    subst e0
    have HCS := Aside0.mk hcs
    obtain ⟨_, _, cv, hcv, hcr⟩ := hcs
    have c0 := blk_cell hiv6 0
    have d0 := blk_cell hcv 0
    obtain ⟨m, hm⟩ : ∃ m, (l.flatMap B).length = m := ⟨_, rfl⟩
    have HLN := Aside0.mk (show ((bs ++ upB (nl : Int)).length + (l.flatMap B).length) * 1 ≤ 140737488355328 by have := HL.out; unfold listB at this; rw [HNL.out] at this; simp only [List.length_append] at this ⊢; omega)
    have HPF := Aside0.mk ((PF.of_below hgl HI.out).trans hpf)
    have HCV := Aside0.mk hcv
    have HCR := Aside0.mk hcr
    have HSZ := Aside0.mk (show w0.heap.size ≤ w6.drew.heap.size from HCS.out.1.size)
    have HRD := Aside0.mk (show ReadsRow (fun x cs => cs = [.int .u8 x]) (Kd.int .u8).sz w6.drew vA m (l.flatMap B) from by rw [← hm]; exact Kd.C_below hvC (below_drew1 (Below.refl _ _)))
    rw [hm] at HLN c0
    clear hvC hvl hir6 hir hiv hiv6 hCR hcw hpf hcv hcr n0 hup hm
    gi_wp2_with fail
    refine wpIn_wide.2 ?_
    refine wp_mono (Q := fun e a w => e = .normal ∧ _) ?_ (fun e a w h => h.2)
    refine start_ (n := 11) (S := fun w' => w'.cell? ⟨g, 0, none⟩ = some cv ∧ w'.cell? ⟨w.heap.size + 1, 0, none⟩ = some (.slice vA m vc)) (ds := [7, 10]) #[false, false, false, false, false, false, false, false, false, false, false] (by kernel_rfl) rfl rfl ⟨d0, c0⟩ (fun hHeld => ?_); refine with_tabW (T := rtab .any (opsOf Tryz.f108 7)) rfl (B := [0, 0, 2, 6, 14, 0, 32, 126, 255, 511, 1023]) (by kernel_rfl) (fun HT_ HW_ => ?_)
    refine pure_ (i := 0) (N := some 20) (v := ?_) (a' := ?_) #[true, false, false, false, false, false, false, false, false, false, false] rfl rfl (any_of HT_.out (by kernel_rfl)) (fun _ _ _ h => nomatch h.1) (Or.inl ⟨by rfl, ?_⟩) ?_ ?_
    rotate_left
    · intro w'
      go_simp
      with_reducible rfl
    rotate_left
    · simp only [Act.put, List.setIfInBounds_toArray, List.set_cons_zero, List.set_cons_succ, i64_w, i32_w]
      rfl
    refine pure_ (i := 1) (N := some 21) (v := ?_) (a' := ?_) #[true, true, false, false, false, false, false, false, false, false, false] rfl rfl (any_of HT_.out (by kernel_rfl)) (fun _ _ _ h => nomatch h.1) (Or.inl ⟨by rfl, ?_⟩) ?_ ?_
    rotate_left
    · intro w'
      go_simp
      with_reducible rfl
    rotate_left
    · simp only [Act.put, List.setIfInBounds_toArray, List.set_cons_zero, List.set_cons_succ, i64_w, i32_w]
      rfl
    refine pure_ (i := 2) (N := some 22) (v := ?_) (a' := ?_) #[true, true, true, false, false, false, false, false, false, false, false] rfl rfl (any_of HT_.out (by kernel_rfl)) (fun _ _ _ h => nomatch h.1) (Or.inl ⟨by rfl, ?_⟩) ?_ ?_
    rotate_left
    · intro w'
      go_simp
      with_reducible rfl
    rotate_left
    · simp only [Act.put, List.setIfInBounds_toArray, List.set_cons_zero, List.set_cons_succ, i64_w, i32_w]
      rfl
    refine pure_ (i := 3) (N := some 23) (v := ?_) (a' := ?_) #[true, true, true, true, false, false, false, false, false, false, false] rfl rfl (any_of HT_.out (by kernel_rfl)) (fun _ _ _ h => nomatch h.1) (Or.inl ⟨by rfl, ?_⟩) ?_ ?_
    rotate_left
    · intro w'
      go_simp
      with_reducible rfl
    rotate_left
    · simp only [Act.put, List.setIfInBounds_toArray, List.set_cons_zero, List.set_cons_succ, i64_w, i32_w]
      rfl
    refine take_ (i := 4) (N := some 24) (v := ?_) (a' := ?_) #[true, true, true, true, true, false, false, false, false, false, false] rfl rfl (take_ofW HT_.out HW_.out (by kernel_rfl)) (fun _ _ _ h => nomatch h.1) (Or.inl ⟨by rfl, ?_⟩) hHeld ?_ ?_
    rotate_left
    · rintro w' ⟨s0, s1⟩
      go_simp
      with_reducible rfl
    rotate_left
    · simp only [Act.put, List.setIfInBounds_toArray, List.set_cons_zero, List.set_cons_succ, i64_w, i32_w]
      rfl
    refine pure_ (i := 5) (N := some 25) (v := ?_) (a' := ?_) #[true, true, true, true, true, true, false, false, false, false, false] rfl rfl (any_of HT_.out (by kernel_rfl)) (fun _ _ _ h => nomatch h.1) (Or.inl ⟨by rfl, ?_⟩) ?_ ?_
    rotate_left
    · intro w'
      go_simp
      with_reducible rfl
    rotate_left
    · simp only [Act.put, List.setIfInBounds_toArray, List.set_cons_zero, List.set_cons_succ, i64_w, i32_w]
      rfl
    refine take_ (i := 6) (N := some 26) (v := ?_) (a' := ?_) #[true, true, true, true, true, true, true, false, false, false, false] rfl rfl (take_ofW HT_.out HW_.out (by kernel_rfl)) (fun _ _ _ h => nomatch h.1) (Or.inl ⟨by rfl, ?_⟩) hHeld ?_ ?_
    rotate_left
    · rintro w' ⟨s0, s1⟩
      go_simp
      with_reducible rfl
    rotate_left
    · simp only [Act.put, List.setIfInBounds_toArray, List.set_cons_zero, List.set_cons_succ, i64_w, i32_w]
      rfl
    refine last_ (i := 7) (N := some 27) #[true, true, true, true, true, true, true, true, false, false, false] rfl rfl (one_of HT_.out (by kernel_rfl)) (by decide) (fun K hK => ?_)
    refine Kd.R_append_rows_step (Rr := fun x cs => cs = [.int .u8 x]) (Kd.int .u8) (w0 := w0) w0.heap.size (by rfl) (.tmp 24) (.tmp 26) 22 5 (.int .u8 0) 1 rfl Tryz.underlying22 info5 rfl (by decide) (by omega) cv (bs ++ upB (nl : Int)) (l.flatMap B) vA m vc (fun _ => True) (fun _ => False) rfl rfl (Kd.R_below HCR.out (below_drew1 (Below.refl _ _))) HRD.out (fun _ _ h => h) (fun _ hk => hk.elim) (fun _ _ => trivial) (below_drew1 HCS.out.1) HSZ.out HLN.out ?_
    intro v1 w1 hr hb hg hat
    refine (show K (Act.put _ (some 27) _) _ from hK.out _ _ ?_)
    clear hK K
    obtain ⟨v1A, v1n, v1c, e1⟩ : ∃ A n c, v1 = .slice A n c := by obtain ⟨A, c, e⟩ := Kd.R_slice hr; exact ⟨A, _, c, e⟩
    subst e1
    have hv7 := blk_grown (blk_drew HCV.out) hg (Kd.R_ne HCR.out HCV.out (by decide))
    have d7 := blk_cell hv7 0
    have f7 := blk_frozen hv7 0
    have HR7 := Aside0.mk hr
    have HB7 := Aside0.mk hb
    have HG7 := Aside0.mk hg
    have HAT := Aside0.mk hat
    clear hr hb hg hat hv7
    simp only [Act.put, List.setIfInBounds_toArray, List.set_cons_zero, List.set_cons_succ]
    refine pure_ (i := 8) (N := some 28) (v := ?_) (a' := ?_) #[true, true, true, true, true, true, true, true, true, false, false] rfl rfl (any_of HT_.out (by kernel_rfl)) (fun _ _ _ h => nomatch h.1) (Or.inl ⟨by rfl, ?_⟩) ?_ ?_
    rotate_left
    · intro w'
      go_simp
      with_reducible rfl
    rotate_left
    · simp only [Act.put, List.setIfInBounds_toArray, List.set_cons_zero, List.set_cons_succ, i64_w, i32_w]
      rfl
    refine pure_ (i := 9) (N := some 29) (v := ?_) (a' := ?_) #[true, true, true, true, true, true, true, true, true, true, false] rfl rfl (any_of HT_.out (by kernel_rfl)) (fun _ _ _ h => nomatch h.1) (Or.inl ⟨by rfl, ?_⟩) ?_ ?_
    rotate_left
    · intro w'
      go_simp
      with_reducible rfl
    rotate_left
    · simp only [Act.put, List.setIfInBounds_toArray, List.set_cons_zero, List.set_cons_succ, i64_w, i32_w]
      rfl
    refine last_ (i := 10) (N := none) #[true, true, true, true, true, true, true, true, true, true, true] rfl rfl (one_of HT_.out (by kernel_rfl)) (by decide) (fun K hK => ?_)
    refine skip_ (w1 := ?_) (by rfl) rfl ?_ ?_
    rotate_left
    · go_simp
      rfl
    refine hK.out _ _ ?_
    clear hK K
    refine done_ (done_of HT_.out (by kernel_rfl)) ?_
    refine ⟨rfl, ?_⟩
    clear hHeld HT_ HW_
    have FIN := Aside0.mk (coil_fin2 HCS.out HPF.out HS.out.1.size HCV.out hgl HCR.out HG7.out HR7.out HB7.out HAT.out (show w.heap.size ≤ D by omega) HK6.out)
    gi_wp2
    refine ⟨by simp, .inl ⟨_, _, rfl, run_takeDeferred FIN.out.2.2.1, ?_⟩⟩
    exact ⟨.tuple #[], by simp [results, Tryz.results108, go_sem], rfl, by unfold listB; rw [HNL.out, ← List.append_assoc]; exact FIN.out.2.2.2.1, FIN.out.2.2.2.2⟩
  case stop =>
    rintro D pre W hD hS hI hK
    exact hI.elim

theorem listStr_calls (G : ByteArray → Prop) (B : ByteArray → List Int) (M : Nat) (hM : ∀ x, G x → (B x).length ≤ M) (hM2 : M ≤ 90000000) (h1 : PutOne 99 Kd.string enc1 G B) (w0 : World) (g : Nat) (bs : List Int) (A : Option Addr) (c : Nat) (l : List (ByteArray)) (hC : Kd.C Kd.string w0 A l.length l) (hG : gList G l) (hl : bs.length + (listB B l).length ≤ 100000000000)
    (w : World) (h : CS w0 g bs w) :
    Calls Tryz.prog 98 #[.pointer (some ⟨g, 0, none⟩), .slice A l.length c, .func (.func 99) #[] #[]] w fun e w' => e = .returned (.tuple #[]) ∧ CS w0 g (bs ++ listB B l) w' ∧ PF g w w' := by
  have hb := (Below.refl _ w).alloc (Nat.le_refl _) (.cells #[.slice A l.length c] 92)
  have hp := PutStr_calls G B M hM hM2 h1 w0 g bs A c l hC hG.2 hG.1 hl (w.alloc (.cells #[.slice A l.length c] 92)) (h.kept hb) w.heap.size (blk_cell (blk_new w _) 0)
  have hv := fun m => valuesStr_calls A m c w
  have HP0 := Aside0.mk (PF.of_below h.lt hb)
  obtain ⟨nl, hnl⟩ : ∃ nl, l.length = nl := ⟨_, rfl⟩
  rw [hnl] at hp HP0 ⊢
  clear hb h hl hG hC h1 hM hnl
  go_enter Tryz.func98, Tryz.ntmps98
  go_wp2_with (first
    | (go_at_call 109; refine (hv _).mono ?_; rintro e w1 ⟨rfl, rfl⟩; clear hv)
    | (go_at_call 108; refine (show Calls _ _ _ _ _ from hp).mono ?_; rintro e w2 ⟨rfl, hcs, hpf⟩; have HC := Aside0.mk hcs; have HP := Aside0.mk hpf; clear hcs hpf hp))
  go_end0
  exact ⟨rfl, HC.out, HP0.out.trans HP.out⟩
end Go.Proofs.YtpdppfihpnfblaaGreat.H
