/- A disk: what comes of it at a stop. Laid by wip/su4_bl.py. -/
import Derived.Test.YtdooajmgfoobfaaGreatDoorZz
import Derived.Test.YtdooajmgfoobfaaGreatDoorSuA
import Derived.Test.YtdooajmgfoobfaaGreatDoorRkR
import Derived.Sort.CutIn
namespace Go.Proofs.YtdooajmgfoobfaaGreatDoor.H
attribute [local go_sem] Oper.semAt_some
open Go.RowKit Go.Shelf Go.Proofs.YtdooajmgfoobfaaGreatDoor.PA Go.Proofs.YtdooajmgfoobfaaGreatDoorW.PrintWords Go.Proofs.YtdooajmgfoobfaaGreatDoorW.PrintLast Go.Proofs.YtdooajmgfoobfaaGreatDoorW.PrintMore
set_option linter.unusedVariables false
set_option linter.unusedSimpArgs false
/-- What a stop leaves of a file. -/
def Left (f g : Fl) : Prop := f.s ≤ g.s ∧ g.s ≤ f.b.length ∧ g.b = f.b.take g.s.toNat
/-- .. and of a disk. -/
def Stopped (D E : Dk) : Prop := E.lim = D.lim ∧ E.fused = false ∧ E.steps = 0 ∧ Both Left D.L E.L
def R1 (w : World) (v : FV) (g : Fl) : Prop := ∃ f, FvAt w v f ∧ FlOk f ∧ f.b.length ≤ 1048576 ∧ Left f g
theorem fv_uniq {w : World} {v : FV} {f g : Fl} (h : FvAt w v f) (k : FvAt w v g) : f = g := by
 obtain ⟨b1, s1⟩ := f
 obtain ⟨b2, s2⟩ := g
 have hs : s1 = s2 := h.s.symm.trans k.s
 subst hs
 have hl : b1.length = b2.length := h.n.symm.trans k.n
 have h1 := reads_of_C h.rd
 have h2 := reads_of_C k.rd
 congr
 apply List.ext_getElem hl
 intro j hj hj2
 obtain ⟨a1, e1, c1⟩ := h1.2.2 (Nat.lt_of_le_of_lt (Nat.zero_le _) hj)
 obtain ⟨a2, e2, c2⟩ := h2.2.2 (Nat.lt_of_le_of_lt (Nat.zero_le _) hj2)
 rw [e1] at e2
 cases e2
 have := (c1 j hj).symm.trans (c2 j hj2)
 simp only [Option.some.injEq, Value.int.injEq, true_and] at this
 rw [List.getD_eq_getElem?_getD, List.getD_eq_getElem?_getD, List.getElem?_eq_getElem hj, List.getElem?_eq_getElem hj2] at this
 exact this
theorem both_left {w : World} {L : List (ByteArray × FV)} {M N : Fls} (h : Both (FvAt w) L M) (k : Both (R1 w) L N) : Both Left M N := by
 induction h generalizing N with
 | nil => cases k; exact .nil
 | cons h _ ih =>
  cases k with
  | cons h2 t2 =>
   obtain ⟨f, hf, _, _, hl⟩ := h2
   exact .cons (fv_uniq hf h ▸ hl) (ih t2)
theorem below_cell_eq {w W : World} {p : Addr} {v : Value} (h : Below w.heap.size w W) (hc : w.cell? p = some v) : W.cell? p = some v := (h.cell (World.block_lt_of_cell? _ _ hc)).trans hc
theorem ins_last {α : Type} {k : ByteArray} {v : α} (L : List (ByteArray × α)) (h : ∀ a ∈ L, cmpS a.1 k < 0) : ins k v L = L ++ [(k, v)] := by
 have := ins_append (v := v) L [] h
 rwa [List.append_nil] at this
theorem both_append {α β : Type} {R : α → β → Prop} {L : List (ByteArray × α)} {M : List (ByteArray × β)} (h : Both R L M) {k : ByteArray} {x : α} {y : β} (hxy : R x y) : Both R (L ++ [(k, x)]) (M ++ [(k, y)]) := by
 induction h with
 | nil => exact .cons hxy .nil
 | cons h1 _ ih => exact .cons h1 ih
theorem both_mem {α β : Type} {R : α → β → Prop} {L : List (ByteArray × α)} {M : List (ByteArray × β)} (h : Both R L M) {x : ByteArray × α} (hx : x ∈ L) : ∃ y, (x.1, y) ∈ M ∧ R x.2 y := by
 induction h with
 | nil => simp at hx
 | cons h1 _ ih =>
  rcases List.mem_cons.1 hx with rfl | hx
  ·exact ⟨_, List.mem_cons_self, h1⟩
  ·obtain ⟨y, hy, hr⟩ := ih hx
   exact ⟨y, List.mem_cons_of_mem _ hy, hr⟩
theorem used_left {L M : Fls} (h : Both Left L M) : usedL M ≤ usedL L := by
 induction h with
 | nil => exact Int.le_refl _
 | @cons k x y L M h1 _ ih =>
  have : y.b.length ≤ x.b.length := by rw [h1.2.2, List.length_take]; omega
  simp only [usedL]
  omega
theorem SumpAt.grown {w w' : World} {s : Nat} {F : Nat → Prop} {D : Dk} {row : Option Nat} (h : SumpAt w s F D) (hg : w.grownBy w' row) (hr : ∀ r, row = some r → ∃ o : Obj, w.heap[r]? = some o ∧ o.isCells = false) : SumpAt w' s F D := by
 have key : ∀ (i : Nat) (cs : Array Value) (t : Nat), w.heap[i]? = some (.cells cs t (0, 0)) → w'.heap[i]? = w.heap[i]? := fun i cs t hc => hg.block i (blk_lt hc) (fun e => by
  obtain ⟨o, ho, hz⟩ := hr i e.symm
  rw [hc] at ho
  cases ho
  cases hz)
 exact h.keep (fun i hi => by obtain ⟨cs, t, hc, _⟩ := h.foot i hi; exact key i cs t hc) (fun i cs hc => key i cs _ hc)
theorem both_split {α β : Type} {R : α → β → Prop} : ∀ {A B : List (ByteArray × α)} {M : List (ByteArray × β)}, Both R (A ++ B) M → ∃ M1 M2, M = M1 ++ M2 ∧ Both R A M1 ∧ Both R B M2
 | [], B, M, h => ⟨[], M, rfl, .nil, h⟩
 | a :: A, B, M, h => by
  cases h with
  | cons h1 t1 =>
   obtain ⟨M1, M2, e, h2, h3⟩ := both_split t1
   exact ⟨_ :: M1, M2, by rw [e]; rfl, .cons h1 h2, h3⟩
theorem used_append (A B : Fls) : usedL (A ++ B) = usedL A + usedL B := by
 induction A with
 | nil => simp [usedL]
 | cons x A ih => simp only [List.cons_append, usedL, ih]; omega
theorem both_key {α β : Type} {R : α → β → Prop} {A : List (ByteArray × α)} {M : List (ByteArray × β)} (h : Both R A M) {p : ByteArray → Prop} (hp : ∀ a ∈ A, p a.1) : ∀ a ∈ M, p a.1 := by
 induction h with
 | nil => simp
 | cons h1 _ ih =>
  intro a ha
  rcases List.mem_cons.1 ha with rfl | ha
  ·exact hp _ List.mem_cons_self
  ·exact ih (fun a ha => hp a (List.mem_cons_of_mem _ ha)) a ha
theorem stop_put_ok {w : World} {T : Tr FV} {D : Dk} {pre : List (ByteArray × FV)} {k : ByteArray} {v : FV} {g : Fl} {L : Fls} (hx : pre ++ [(k, v)] <+: T.toL) (hv : Both (FvAt w) T.toL D.L) (hr : Rise T.toL) (ok : DkOk D) (hL : Both (R1 w) pre L) (okL : DkOk ⟨D.lim, false, 0, L⟩) (hg : R1 w v g) (fg : FlOk g) :
  DkOk ((⟨D.lim, false, 0, L⟩ : Dk).put k g) ∧ ins k g L = L ++ [(k, g)] ∧ Both (R1 w) (pre ++ [(k, v)]) (L ++ [(k, g)]) := by
 obtain ⟨rest, he⟩ := hx
 have hp : Rise (pre ++ [(k, v)]) := by
  rw [← he] at hr
  exact (List.pairwise_append.1 hr).1
 have hlt : ∀ a ∈ pre, cmpS a.1 k < 0 := fun a ha => (List.pairwise_append.1 hp).2.2 a ha (k, v) (by simp)
 have hlt2 : ∀ a ∈ L, cmpS a.1 k < 0 := both_key (p := fun x => cmpS x k < 0) hL hlt
 have hi := ins_last (v := g) L hlt2
 have hB := both_append (k := k) hL hg
 refine ⟨?_, hi, hB⟩
 rw [← he] at hv
 obtain ⟨M1, M2, e, h1, h2⟩ := both_split hv
 have hu := used_left (both_left h1 hB)
 have hu2 := used_append M1 M2
 rw [← e] at hu2
 have := used_nonneg M2
 have := ok.used
 have hlen := hv.length
 have hlen2 := hB.length
 have := ok.few
 exact ⟨okL.lim0, okL.lim1, by show usedL (ins k g L) ≤ D.lim; rw [hi]; omega, by show (ins k g L).length ≤ 16; rw [hi]; simp only [List.length_append] at hlen hlen2 ⊢; omega, rise_ins okL.rise, Int.le_refl 0, okL.st1, fun x hx => by
  rcases ins_mem hx with rfl | hx
  ·exact fg
  ·exact okL.ok x hx⟩
theorem keeps_mut {F : Nat → Prop} {w w' : World} (hm : Mut F w w') (hF : ∀ i, F i → ∃ cs t, w.heap[i]? = some (.cells cs t (0, 0))) : KeepsOthers w w' :=
 ⟨hm.size, fun k o hk ho => (hm.block k (blk_lt hk) (fun e => by
  obtain ⟨cs, t, h2⟩ := hF k e
  rw [hk] at h2
  cases h2
  cases ho)).trans hk⟩
theorem mut_below {F : Nat → Prop} {w w1 w2 : World} (h : Below w.heap.size w w1) (hm : Mut F w1 w2) (hF : ∀ i, F i → w.heap.size ≤ i) : Below w.heap.size w w2 :=
 ⟨hm.os.trans h.os, hm.tape.trans h.tape, hm.output.trans h.output, Nat.le_trans h.size hm.size, fun i hi => (hm.block i (Nat.lt_of_lt_of_le hi h.size) (fun e => by have := hF i e; omega)).trans (h.block i hi)⟩
theorem SumpAt.set {w : World} {s : Nat} {F : Nat → Prop} {D : Dk} (h : SumpAt w s F D) {b t : Nat} {cs : Array Value} (hb : w.heap[b]? = some (.cells cs t (0, 0))) (h1 : t ≠ 54) (h2 : t ≠ 79) (h3 : t ≠ 121) (h4 : t ≠ 5) (j : Nat) (v : Value) : SumpAt (w.setCell ⟨b, j, none⟩ v) s F D := by
 have key : ∀ (i : Nat) (cs' : Array Value) (t' : Nat), w.heap[i]? = some (.cells cs' t' (0, 0)) → t ≠ t' → (w.setCell ⟨b, j, none⟩ v).heap[i]? = w.heap[i]? := fun i cs' t' hc hne => Below.heap_setCell w ⟨b, j, none⟩ v i (by
  rintro rfl
  rw [hb] at hc
  cases hc
  exact hne rfl)
 obtain ⟨rk, T, hs, hr, hv, hF⟩ := h.ex
 refine h.keep (fun i hi => ?_) (fun i cs' hc => key i cs' _ hc h4)
 rcases (hF i).1 hi with rfl | hi
 ·exact key _ _ _ hs h1
 ·obtain ⟨cs', t', hc, ht⟩ := RF_typed hr i hi
  exact key _ _ _ hc (by rcases ht with rfl | rfl <;> assumption)
theorem SumpAt.putObj {w : World} {s : Nat} {F : Nat → Prop} {D : Dk} (h : SumpAt w s F D) {l : Nat} {o o' : Obj} (hl : w.heap[l]? = some o) (ho : o.isCells = false) : SumpAt (w.putObj l o') s F D := by
 have key : ∀ (i : Nat) (cs' : Array Value) (t' : Nat), w.heap[i]? = some (.cells cs' t' (0, 0)) → (w.putObj l o').heap[i]? = w.heap[i]? := fun i cs' t' hc => World.putObj_heap_other (by
  rintro rfl
  rw [hl] at hc
  cases hc
  cases ho)
 exact h.keep (fun i hi => by obtain ⟨cs, t, hc, _⟩ := h.foot i hi; exact key i cs t hc) (fun i cs hc => key i cs _ hc)
theorem keeps_below {w w' : World} (h : Below w.heap.size w w') : KeepsOthers w w' := ⟨h.size, fun k o hk ho => (h.block k (blk_lt hk)).trans hk⟩
structure StopOut (D : Dk) (w : World) (e : Ending) (w' : World) : Prop where
 ex : ∃ s2 F2 E, e = .returned (.pointer (some ⟨s2, 0, none⟩)) ∧ Below w.heap.size w w' ∧ SumpAt w' s2 F2 E ∧ (∀ i, F2 i → w.heap.size ≤ i) ∧ Stopped D E
/-- Where Stop's loop stands. -/
structure StopSt (w : World) (s2 kb ob ib : Nat) (kv : Value) (lim : Int) (T : Tr FV) (pre : List (ByteArray × FV)) (W : World) : Prop where
 hb : Below w.heap.size w W
 ge : w.heap.size ≤ kb ∧ w.heap.size ≤ ob ∧ w.heap.size ≤ ib
 kb_ : W.heap[kb]? = some (.cells #[kv] 41 (0, 0))
 ob_ : W.heap[ob]? = some (.cells #[.pointer (some ⟨s2, 0, none⟩)] 23 (0, 0))
 ib_ : W.heap[ib]? = some (.cells #[.int .i64 (pre.length : Int)] 3 (0, 0))
 disk : ∃ F L, SumpAt W s2 F ⟨lim, false, 0, L⟩ ∧ (∀ i, F i → w.heap.size ≤ i) ∧ Both (R1 w) pre L
 pf : pre <+: T.toL
 sz : ib + 2 ≤ W.heap.size
theorem StopSt.own_drew {w W : World} {s2 kb ob ib : Nat} {kv : Value} {lim : Int} {T : Tr FV} {pre : List (ByteArray × FV)} (h : StopSt w s2 kb ob ib kv lim T pre W) : StopSt w s2 kb ob ib kv lim T pre W.drew := by
 obtain ⟨F, L, h1, h2, h3⟩ := h.disk
 exact ⟨below_drew1 h.hb, h.ge, blk_drew h.kb_, blk_drew h.ob_, blk_drew h.ib_, ⟨F, L, h1.below ⟨rfl, rfl, rfl, Nat.le_refl _, fun _ _ => rfl⟩, h2, h3⟩, h.pf, h.sz⟩
theorem StopSt.own {w : World} {s2 kb ob ib : Nat} {kv : Value} {lim : Int} {T : Tr FV} {B : Nat} (hB : w.heap.size ≤ B) : OwnFrom B (StopSt w s2 kb ob ib kv lim T) := fun pre W W' row hs hg hr => by
 have k1 := cells_ne_row (B := B) hr hs.kb_
 have k2 := cells_ne_row (B := B) hr hs.ob_
 have k3 := cells_ne_row (B := B) hr hs.ib_
 obtain ⟨F, L, h1, h2, h3⟩ := hs.disk
 exact ⟨hs.hb.grown hg hs.hb.size (fun k hk => Nat.le_trans hB (hr k hk).1), hs.ge, (hg.block _ (blk_lt hs.kb_) k1).trans hs.kb_, (hg.block _ (blk_lt hs.ob_) k2).trans hs.ob_, (hg.block _ (blk_lt hs.ib_) k3).trans hs.ib_, ⟨F, L, h1.grown hg (fun r e => (hr r e).2), h2, h3⟩, hs.pf, Nat.le_trans hs.sz hg.size⟩

set_option maxRecDepth 100000 in
set_option maxHeartbeats 8000000 in
theorem Stop_disk (w : World) (s : Nat) (F : Nat → Prop) (D : Dk) (kA : Option Addr) (kc : Nat) (kl : List Int) (hk : Kd.C (Kd.int .i64) w kA kl.length kl) (hkc : kl.length ≤ kc) (h : SumpAt w s F D) :
  Calls Tryz.prog 12 #[.pointer (some ⟨s, 0, none⟩), .slice kA kl.length kc] w (StopOut D w) := by
 obtain ⟨rk, T, hb, hr, hv, hF⟩ := h.ex
 have HS := Aside0.mk h
 have HV := Aside0.mk hv
 have HR := Aside0.mk hr
 have HK := Aside0.mk hk
 obtain ⟨kn, hkn⟩ : ∃ kn, kn = kl.length := ⟨_, rfl⟩
 have HKN := Aside0.mk (And.intro hkn hkc)
 rw [← hkn]
 have hnew := fun W => New_calls W D.lim h.ok.lim0 h.ok.lim1
 have hB0 : Below w.heap.size w (w.alloc (.cells #[.slice kA kn kc] 41)) := (Below.refl _ w).alloc (Nat.le_refl _) _
 have d0 : (w.alloc (.cells #[.slice kA kn kc] 41)).cell? ⟨s, 0, none⟩ = some (.int .i64 D.lim) := (blk_cell (blk_below hb hB0) 0).trans rfl
 have HBK := Aside0.mk hb
 have HKB := Aside0.mk (heap_alloc_new w (.cells #[.slice kA kn kc] 41))
 have HB0 := Aside0.mk hB0
 clear h hv hF hk hkc hkn hb hB0 hr
 refine (callsIn_wide (n := 8)).1 ?_
 refine callsIn_of_wp_marks Tryz.func12 rfl trivial ?_ rfl
 simp only [Tryz.ntmps12, List.size_toArray, List.length_cons, List.length_nil, Nat.reduceAdd, Nat.reduceSub, Array.replicate_succ, Array.replicate_zero, List.push_toArray, List.append_toArray, List.nil_append, List.cons_append]
 gi_wp2_with fail
 refine ⟨trivial, ?_⟩
 gi_at_call 6
 refine (callsIn_wide.2 (hnew _)).mono ?_
 rintro e w1 ⟨s2, F2, rfl, hb1, hs2, hf2⟩
 have hb2 := HB0.out.trans (hb1.mono HB0.out.size)
 have a0 := heap_alloc2_old w1 (.cells #[.pointer (some ⟨s2, 0, none⟩)] 23) (.cells #[.int .i64 0] 3)
 have a1 := heap_alloc2_new w1 (.cells #[.pointer (some ⟨s2, 0, none⟩)] 23) (.cells #[.int .i64 0] 3)
 have hb3 : Below w1.heap.size w1 ((w1.alloc (.cells #[.pointer (some ⟨s2, 0, none⟩)] 23)).alloc (.cells #[.int .i64 0] 3)) := ((Below.refl _ w1).alloc (Nat.le_refl _) _).alloc (by simp) _
 have hb4 := hb2.trans (hb3.mono hb2.size)
 have d1 : ((w1.alloc (.cells #[.pointer (some ⟨s2, 0, none⟩)] 23)).alloc (.cells #[.int .i64 0] 3)).cell? ⟨s, 1, none⟩ = some (.pointer (some ⟨rk, 0, none⟩)) := (blk_cell (blk_below HBK.out hb4) 1).trans rfl
 gi_wp2_with fail
 refine ⟨trivial, ?_⟩
 gi_at_call 31
 refine (callsIn_wide.2 (All_calls rk _)).mono ?_
 rintro e w4 ⟨rfl, rfl⟩
 gi_wp2_with fail
 obtain ⟨ob, hob⟩ : ∃ ob, ob = w1.heap.size := ⟨_, rfl⟩
 have hoe : w.heap.size ≤ ob := by rw [hob]; exact hb2.size
 have hP0 : StopSt w s2 w.heap.size ob (ob + 1) (.slice kA kn kc) D.lim T [] (((w1.alloc (.cells #[.pointer (some ⟨s2, 0, none⟩)] 23)).alloc (.cells #[.int .i64 0] 3)).alloc (.cells #[.pointer (some ⟨rk, 0, none⟩)] 48)) := by
  have hbA : Below ((w1.alloc (.cells #[.pointer (some ⟨s2, 0, none⟩)] 23)).alloc (.cells #[.int .i64 0] 3)).heap.size ((w1.alloc (.cells #[.pointer (some ⟨s2, 0, none⟩)] 23)).alloc (.cells #[.int .i64 0] 3)) (((w1.alloc (.cells #[.pointer (some ⟨s2, 0, none⟩)] 23)).alloc (.cells #[.int .i64 0] 3)).alloc (.cells #[.pointer (some ⟨rk, 0, none⟩)] 48)) := (Below.refl _ _).alloc (Nat.le_refl _) _
  refine ⟨hb4.trans (hbA.mono hb4.size), ⟨Nat.le_refl _, hoe, by omega⟩, blk_below (blk_below (blk_below HKB.out hb1) hb3) hbA, by rw [hob]; exact blk_below a0 hbA, by rw [hob]; exact blk_below a1 hbA, ⟨F2, [], (hs2.below hb3).below hbA, fun i hi => Nat.le_trans HB0.out.size (hf2 i hi), .nil⟩, List.nil_prefix, by simp; omega⟩
 have hbx : (((w1.alloc (.cells #[.pointer (some ⟨s2, 0, none⟩)] 23)).alloc (.cells #[.int .i64 0] 3)).alloc (.cells #[.pointer (some ⟨rk, 0, none⟩)] 48)).heap[ob + 2]? = some (.cells #[.pointer (some ⟨rk, 0, none⟩)] 48 (0, 0)) := by
  have := heap_alloc_new ((w1.alloc (.cells #[.pointer (some ⟨s2, 0, none⟩)] 23)).alloc (.cells #[.int .i64 0] 3)) (.cells #[.pointer (some ⟨rk, 0, none⟩)] 48)
  rwa [World.size_alloc, World.size_alloc, ← hob] at this
 rw [← hob]
 have hsz5 : ob + 3 ≤ (((w1.alloc (.cells #[.pointer (some ⟨s2, 0, none⟩)] 23)).alloc (.cells #[.int .i64 0] 3)).alloc (.cells #[.pointer (some ⟨rk, 0, none⟩)] 48)).heap.size := by simp; omega
 clear hb1 hs2 hf2 hb2 a0 a1 hb3 hb4 d1 d0 hnew hob
 have e12 : ob + 1 + 1 = ob + 2 := rfl
 generalize ((w1.alloc (.cells #[.pointer (some ⟨s2, 0, none⟩)] 23)).alloc (.cells #[.int .i64 0] 3)).alloc (.cells #[.pointer (some ⟨rk, 0, none⟩)] 48) = w5 at hP0 hbx hsz5 ⊢
 have hr5 := HR.out.below hP0.hb
 have HBX0 := Aside0.mk hoe
 have hhands := all_handsP (8 - 1) (ob + 2) rk T w5 hbx hr5
 refine range_handsP (F := Fence.wide) (n := 8) rfl (by omega) (gf := 57) (lb := #[.pointer (some ⟨ob + 2, 0, none⟩)]) rfl trivial (enters_of Tryz.func57 (by kernel_rfl) rfl)
  hhands (fun A B hst => hst.elim) (fun _ => rfl) (fun h k hr => k (h hr)) (fun W l o o' hl ho hc hw => kpR_putObj rk T W l o o' ho hc)
  (StopSt w s2 w.heap.size ob (ob + 1) (.slice kA kn kc) D.lim T) (fun _ _ => False) (StopSt.own (by omega)) (fun s W W' row hs hg hr => hs.elim) (fun pre x s W W' row hs hg hr => hs) hP0 (fun s A B hs hst => hst.elim) (fun s A B hs _ => hs.elim)
  (fun x a' W => ∃ b, ob + 3 ≤ b ∧ a' = { tmps := #[.pointer (some ⟨s, 0, none⟩), .slice kA kn kc, undef, .pointer (some ⟨w.heap.size, 0, none⟩), .pointer none, .pointer (some ⟨ob, 0, none⟩), .int .i64 0, .pointer (some ⟨ob + 1, 0, none⟩), .string x.1, .pointer (some ⟨b, 0, none⟩), undef, .tuple #[.pointer (some ⟨s2, 0, none⟩), .int .i64 0], .pointer (some ⟨s, 0, none⟩), .pointer (some ⟨s, 0, none⟩), .pointer (some ⟨s, 0, none⟩), .int .i64 D.lim, .tuple #[.pointer (some ⟨s2, 0, none⟩), .int .i64 0], .pointer (some ⟨s2, 0, none⟩), .int .i64 0, .pointer (some ⟨s, 0, none⟩), .pointer (some ⟨s, 0, none⟩), .pointer (some ⟨s, 1, none⟩), .pointer (some ⟨rk, 0, none⟩), .func (.func 57) #[] #[.pointer (some ⟨ob + 2, 0, none⟩)], .string x.1, x.2.val, undef, undef, undef, undef, undef, undef, undef, undef, undef, undef, undef, undef, undef, undef, undef, undef, undef, undef, undef, undef, undef, undef, undef, undef, undef, undef, undef, undef, undef, undef, undef, undef, undef, undef, undef, undef, undef, undef, undef], defers := [] } ∧ W.heap[b]? = some (.cells #[.slice x.2.A x.2.n x.2.c, .int .i64 x.2.s] 51 (0, 0)))
  (fun x a' s W W' row hs hg hr => by obtain ⟨b, h1, h2, h3⟩ := hs; exact ⟨b, h1, h2, (hg.block _ (blk_lt h3) (cells_ne_row hr h3)).trans h3⟩) ?assign ?body ?done ?stop
 case assign =>
  rintro lp pre ⟨k, v⟩ W K hI hx hK
  simp only [entA]
  have hsz : ob + 3 ≤ W.heap.size := hI.sz
  have hbn : Below W.heap.size W (W.alloc (.cells #[.slice v.A v.n v.c, .int .i64 v.s] 51)) := (Below.refl _ _).alloc (Nat.le_refl _) _
  have e1 := heap_alloc_new W (.cells #[.slice v.A v.n v.c, .int .i64 v.s] 51)
  have hI2 : StopSt w s2 w.heap.size ob (ob + 1) (.slice kA kn kc) D.lim T pre (W.alloc (.cells #[.slice v.A v.n v.c, .int .i64 v.s] 51)) := by
   obtain ⟨G, L, h1, h2, h3⟩ := hI.disk
   exact ⟨hI.hb.trans (hbn.mono hI.hb.size), hI.ge, blk_below hI.kb_ hbn, blk_below hI.ob_ hbn, blk_below hI.ib_ hbn, ⟨G, L, h1.below hbn, h2, h3⟩, hI.pf, Nat.le_trans hI.sz hbn.size⟩
  have HKK := Aside0.mk (hK _ _ (KeepsOthers.alloc W (.cells #[.slice v.A v.n v.c, .int .i64 v.s] 51)) (fun h => h.alloc _) hI2 hx ⟨W.heap.size, hsz, rfl, e1⟩)
  clear hK hsz hbn e1 hI2 hI hx
  gi_wp2
  exact HKK.out
 case body =>
  rintro lp pre ⟨k, v⟩ a' W hI hx ⟨b, hb1, rfl, hb2⟩ hln
  obtain ⟨f, hfM, hfv⟩ := both_mem HV.out (hx.subset (show (k, v) ∈ pre ++ [(k, v)] by simp))
  simp only at hfM hfv
  have hfo := HS.out.ok.ok _ hfM
  have hfl : f.b.length ≤ 1048576 := by have h1 := used_mem hfM; have h2 := HS.out.ok.used; have h3 := HS.out.ok.lim1; simp only at h1; omega
  have HI := Aside0.mk hI
  have HX := Aside0.mk (And.intro hx hln)
  have HFV := Aside0.mk hfv
  have HFO := Aside0.mk hfo
  have HB2 := Aside0.mk hb2
  have HB1 := Aside0.mk hb1
  obtain ⟨A, n, c, sf⟩ := v
  have hn : n = f.b.length := hfv.n
  have hsf : sf = f.s := hfv.s
  have hs0 : 0 ≤ sf ∧ sf ≤ n := by rw [hsf, hn]; exact ⟨hfo.s0, hfo.s1⟩
  have hn1 : n ≤ 1048576 := by omega
  have HE := Aside0.mk (And.intro hn (And.intro hsf (And.intro hs0 hn1)))
  have e0 := blk_cell hb2 0
  have e1 := blk_cell hb2 1
  have e2 := blk_cell hI.kb_ 0
  have e3 := blk_cell hI.ob_ 0
  have e4 := blk_cell hI.ib_ 0
  have hlen : pre.length ≤ 1000 := by
   have h1 := hx.length_le; have h2 := HV.out.length; have h3 := HS.out.ok.few
   simp only [List.length_append] at h1
   omega
  clear hI hx hln hfv hfo hfM hb2 hfl hn hsf hs0 hn1 hhands hr5 hbx hP0 hb1
  generalize hpl : (pre.length : Int) = pl at e4
  by_cases hlt : pl < (kn : Int)
  ·have hbt : decide (pl < (kn : Int)) = true := decide_eq_true hlt
   have hpl0 : 0 ≤ pl := by omega
   obtain ⟨ad, rfl, hcell⟩ := Kd.at_int (show Kd.C (Kd.int .i64) w kA kn kl from HKN.out.1 ▸ HK.out) pl hpl0 hlt
   have HCL := Aside0.mk hcell
   generalize rd kl pl = kx at hcell HCL
   have hE := HE.out
   obtain ⟨dd, hdd⟩ : ∃ dd, dd = (n : Int) - sf + 1 := ⟨_, rfl⟩
   have hw1 : IntKind.u64.wrap (wrap64 (wrap64 ((n : Int) - sf) + 1)) = dd := by rw [show wrap64 ((n : Int) - sf) = n - sf from wrap_in (by omega) (by omega), show wrap64 ((n : Int) - sf + 1) = n - sf + 1 from wrap_in (by omega) (by omega), wraps_u64 _ (by omega) (by omega), hdd]
   have hdz : dd ≠ 0 := by omega
   have hux : 0 ≤ IntKind.u64.wrap kx := by rw [IntKind.wrap_u64]; omega
   have hr0 := Int.tmod_nonneg dd hux
   have hr1 := Int.tmod_lt_of_pos (IntKind.u64.wrap kx) (show 0 < dd by omega)
   obtain ⟨rr, hrr⟩ : ∃ rr, IntKind.i64.wrap ((IntKind.u64.wrap kx).tmod dd) = rr := ⟨_, rfl⟩
   have hrr2 : rr = (IntKind.u64.wrap kx).tmod dd := by rw [← hrr, IntKind.wrap_i64]; omega
   obtain ⟨n2, hn2⟩ : ∃ n2, wrap64 (sf + rr) = n2 := ⟨_, rfl⟩
   have HN2 := Aside0.mk (show sf ≤ n2 ∧ n2 ≤ n by rw [← hn2, wrap_in (by omega) (by omega)]; omega)
   clear hE hdd hux hr0 hr1 hrr2
   gi_upto_region 8 with fail
   have HIB := Aside0.mk HI.out.hb
   refine wpIn_mono (Q := fun e a w => e = .normal ∧ _) ?_ (fun e a w h => h.2)
   refine startR_ (m := 18) (S := fun w' => w'.cell? ⟨w.heap.size, 0, none⟩ = some (.slice (some ad) kn kc) ∧ w'.cell? ⟨ob + 1, 0, none⟩ = some (.int .i64 pl) ∧ w'.cell? (ad.add pl.toNat) = some (.int .i64 kx) ∧ w'.cell? ⟨b, 0, none⟩ = some (.slice A n c) ∧ w'.cell? ⟨b, 1, none⟩ = some (.int .i64 sf)) (ds := []) #[ff,ff,ff,ff,ff,ff,ff,ff,ff,ff,ff,ff,ff,ff,ff,ff,ff,ff] (by kernel_rfl) (fun _ _ h => nomatch h.1) (by kernel_rfl) rfl rfl ⟨((blk_cell (blk_drew HI.out.kb_) 0).trans rfl), ((blk_cell (blk_drew HI.out.ib_) 0).trans (by rw [hpl]; rfl)), (below_cell_eq (below_drew1 HIB.out) HCL.out), ((blk_cell (blk_drew HB2.out) 0).trans rfl), ((blk_cell (blk_drew HB2.out) 1).trans rfl)⟩ (fun hHeld => ?_)
   refine pure_ (i := 0) (N := some 32) (v := ?_) (a' := ?_) #[tt,ff,ff,ff,ff,ff,ff,ff,ff,ff,ff,ff,ff,ff,ff,ff,ff,ff] rfl rfl (by kernel_rfl) (fun _ _ _ h => nomatch h.1) (Or.inl ⟨by rfl, ?_⟩) ?_ ?_
   rotate_left
   ·intro w'
    go_simp
    with_reducible rfl
   rotate_left
   ·simp only [Act.put, sA, sB, sC, i64_w, i32_w]
    rfl
   refine pure_ (i := 6) (N := some 38) (v := ?_) (a' := ?_) #[tt,ff,ff,ff,ff,ff,tt,ff,ff,ff,ff,ff,ff,ff,ff,ff,ff,ff] rfl rfl (by kernel_rfl) (fun _ _ _ h => nomatch h.1) (Or.inl ⟨by rfl, ?_⟩) ?_ ?_
   rotate_left
   ·intro w'
    go_simp
    with_reducible rfl
   rotate_left
   ·simp only [Act.put, sA, sB, sC, i64_w, i32_w]
    rfl
   refine pure_ (i := 9) (N := some 41) (v := ?_) (a' := ?_) #[tt,ff,ff,ff,ff,ff,tt,ff,ff,tt,ff,ff,ff,ff,ff,ff,ff,ff] rfl rfl (by kernel_rfl) (fun _ _ _ h => nomatch h.1) (Or.inl ⟨by rfl, ?_⟩) ?_ ?_
   rotate_left
   ·intro w'
    go_simp
    with_reducible rfl
   rotate_left
   ·simp only [Act.put, sA, sB, sC, i64_w, i32_w]
    rfl
   refine take_ (i := 1) (N := some 33) (v := ?_) (a' := ?_) #[tt,tt,ff,ff,ff,ff,tt,ff,ff,tt,ff,ff,ff,ff,ff,ff,ff,ff] rfl rfl (by kernel_rfl) (fun _ _ _ h => nomatch h.1) (Or.inl ⟨by rfl, ?_⟩) hHeld ?_ ?_
   rotate_left
   ·rintro w' ⟨s0, s1, s2, s3, s4⟩
    go_simp
    with_reducible rfl
   rotate_left
   ·simp only [Act.put, sA, sB, sC, i64_w, i32_w]
    rfl
   refine take_ (i := 2) (N := some 34) (v := ?_) (a' := ?_) #[tt,tt,tt,ff,ff,ff,tt,ff,ff,tt,ff,ff,ff,ff,ff,ff,ff,ff] rfl rfl (by kernel_rfl) (fun _ _ _ h => nomatch h.1) (Or.inl ⟨by rfl, ?_⟩) hHeld ?_ ?_
   rotate_left
   ·rintro w' ⟨s0, s1, s2, s3, s4⟩
    go_simp
    with_reducible rfl
   rotate_left
   ·simp only [Act.put, sA, sB, sC, i64_w, i32_w]
    rfl
   refine pure_ (i := 3) (N := some 35) (v := ?_) (a' := ?_) #[tt,tt,tt,tt,ff,ff,tt,ff,ff,tt,ff,ff,ff,ff,ff,ff,ff,ff] rfl rfl (by kernel_rfl) (fun _ _ _ h => nomatch h.1) (Or.inl ⟨by rfl, ?_⟩) ?_ ?_
   rotate_left
   ·intro w'
    go_simp
    with_reducible rfl
   rotate_left
   ·simp only [Act.put, sA, sB, sC, i64_w, i32_w]
    rfl
   refine take_ (i := 4) (N := some 36) (v := ?_) (a' := ?_) #[tt,tt,tt,tt,tt,ff,tt,ff,ff,tt,ff,ff,ff,ff,ff,ff,ff,ff] rfl rfl (by kernel_rfl) (fun _ _ _ h => nomatch h.1) (Or.inl ⟨by rfl, ?_⟩) hHeld ?_ ?_
   rotate_left
   ·rintro w' ⟨s0, s1, s2, s3, s4⟩
    go_simp
    with_reducible rfl
   rotate_left
   ·simp only [Act.put, sA, sB, sC, i64_w, i32_w]
    rfl
   refine take_ (i := 5) (N := some 37) (v := ?_) (a' := ?_) #[tt,tt,tt,tt,tt,tt,tt,ff,ff,tt,ff,ff,ff,ff,ff,ff,ff,ff] rfl rfl (by kernel_rfl) (fun _ _ _ h => nomatch h.1) (Or.inl ⟨by rfl, ?_⟩) hHeld ?_ ?_
   rotate_left
   ·rintro w' ⟨s0, s1, s2, s3, s4⟩
    go_simp
    with_reducible rfl
   rotate_left
   ·simp only [Act.put, sA, sB, sC, i64_w, i32_w]
    rfl
   refine take_ (i := 7) (N := some 39) (v := ?_) (a' := ?_) #[tt,tt,tt,tt,tt,tt,tt,tt,ff,tt,ff,ff,ff,ff,ff,ff,ff,ff] rfl rfl (by kernel_rfl) (fun _ _ _ h => nomatch h.1) (Or.inl ⟨by rfl, ?_⟩) hHeld ?_ ?_
   rotate_left
   ·rintro w' ⟨s0, s1, s2, s3, s4⟩
    go_simp
    with_reducible rfl
   rotate_left
   ·simp only [Act.put, sA, sB, sC, i64_w, i32_w]
    rfl
   refine pure_ (i := 8) (N := some 40) (v := ?_) (a' := ?_) #[tt,tt,tt,tt,tt,tt,tt,tt,tt,tt,ff,ff,ff,ff,ff,ff,ff,ff] rfl rfl (by kernel_rfl) (fun _ _ _ h => nomatch h.1) (Or.inl ⟨by rfl, ?_⟩) ?_ ?_
   rotate_left
   ·intro w'
    go_simp
    with_reducible rfl
   rotate_left
   ·simp only [Act.put, sA, sB, sC, i64_w, i32_w]
    rfl
   refine take_ (i := 10) (N := some 42) (v := ?_) (a' := ?_) #[tt,tt,tt,tt,tt,tt,tt,tt,tt,tt,tt,ff,ff,ff,ff,ff,ff,ff] rfl rfl (by kernel_rfl) (fun _ _ _ h => nomatch h.1) (Or.inl ⟨by rfl, ?_⟩) hHeld ?_ ?_
   rotate_left
   ·rintro w' ⟨s0, s1, s2, s3, s4⟩
    go_simp
    with_reducible rfl
   rotate_left
   ·simp only [Act.put, sA, sB, sC, i64_w, i32_w]
    rfl
   refine pure_ (i := 11) (N := some 43) (v := ?_) (a' := ?_) #[tt,tt,tt,tt,tt,tt,tt,tt,tt,tt,tt,tt,ff,ff,ff,ff,ff,ff] rfl rfl (by kernel_rfl) (fun _ _ _ h => nomatch h.1) (Or.inl ⟨by rfl, ?_⟩) ?_ ?_
   rotate_left
   ·intro w'
    go_simp
    with_reducible rfl
   rotate_left
   ·simp only [Act.put, sA, sB, sC, i64_w, i32_w]
    rfl
   refine pure_ (i := 12) (N := some 44) (v := ?_) (a' := ?_) #[tt,tt,tt,tt,tt,tt,tt,tt,tt,tt,tt,tt,tt,ff,ff,ff,ff,ff] rfl rfl (by kernel_rfl) (fun _ _ _ h => nomatch h.1) (Or.inl ⟨by rfl, ?_⟩) ?_ ?_
   rotate_left
   ·intro w'
    go_simp
    with_reducible rfl
   rotate_left
   ·simp only [Act.put, sA, sB, sC, i64_w, i32_w]
    rfl
   refine take_ (i := 13) (N := some 45) (v := ?_) (a' := ?_) #[tt,tt,tt,tt,tt,tt,tt,tt,tt,tt,tt,tt,tt,tt,ff,ff,ff,ff] rfl rfl (by kernel_rfl) (fun _ _ _ h => nomatch h.1) (Or.inl ⟨by rfl, ?_⟩) hHeld ?_ ?_
   rotate_left
   ·rintro w' ⟨s0, s1, s2, s3, s4⟩
    go_simp
    with_reducible rfl
   rotate_left
   ·simp only [Act.put, sA, sB, sC, i64_w, i32_w]
    rfl
   refine pure_ (i := 14) (N := some 46) (v := ?_) (a' := ?_) #[tt,tt,tt,tt,tt,tt,tt,tt,tt,tt,tt,tt,tt,tt,tt,ff,ff,ff] rfl rfl (by kernel_rfl) (fun _ _ _ h => nomatch h.1) (Or.inl ⟨by rfl, ?_⟩) ?_ ?_
   rotate_left
   ·intro w'
    go_simp
    with_reducible rfl
   rotate_left
   ·simp only [Act.put, sA, sB, sC, i64_w, i32_w]
    rfl
   refine take_ (i := 15) (N := some 47) (v := ?_) (a' := ?_) #[tt,tt,tt,tt,tt,tt,tt,tt,tt,tt,tt,tt,tt,tt,tt,tt,ff,ff] rfl rfl (by kernel_rfl) (fun _ _ _ h => nomatch h.1) (Or.inl ⟨by rfl, ?_⟩) hHeld ?_ ?_
   rotate_left
   ·rintro w' ⟨s0, s1, s2, s3, s4⟩
    go_simp
    with_reducible rfl
   rotate_left
   ·simp only [Act.put, sA, sB, sC, i64_w, i32_w]
    rfl
   refine pure_ (i := 16) (N := some 48) (v := ?_) (a' := ?_) #[tt,tt,tt,tt,tt,tt,tt,tt,tt,tt,tt,tt,tt,tt,tt,tt,tt,ff] rfl rfl (by kernel_rfl) (fun _ _ _ h => nomatch h.1) (Or.inl ⟨by rfl, ?_⟩) ?_ ?_
   rotate_left
   ·intro w'
    go_simp
    with_reducible rfl
   rotate_left
   ·simp only [Act.put, sA, sB, sC, i64_w, i32_w]
    rfl
   refine pure_ (i := 17) (N := some 10) (v := ?_) (a' := ?_) #[tt,tt,tt,tt,tt,tt,tt,tt,tt,tt,tt,tt,tt,tt,tt,tt,tt,tt] rfl rfl (by kernel_rfl) (fun _ _ _ h => nomatch h.1) (Or.inl ⟨by rfl, ?_⟩) ?_ ?_
   rotate_left
   ·intro w'
    go_simp
    with_reducible rfl
   rotate_left
   ·simp only [Act.put, sA, sB, sC, i64_w, i32_w]
    rfl
   refine done_ (by kernel_rfl) ?_
   refine ⟨rfl, ?_⟩
   clear hHeld
   have HIV := Aside0.mk (HI.out.own_drew)
   have HBV := Aside0.mk (blk_drew HB2.out)
   have HKO := Aside0.mk (KeepsOthers.drew W)
   clear e0 e1 e2 e3 e4 hw1 hdz hrr hn2 hcell
   generalize W.drew = V at HIV HBV HKO ⊢
   gi_upto_region 9 with fail
   obtain ⟨F2, L2, hs2, hf2, hL2⟩ := HIV.out.disk
   have HS2 := Aside0.mk (hs2.below (w' := V.drew) ⟨rfl, rfl, rfl, Nat.le_refl _, fun _ _ => rfl⟩)
   have HL2 := Aside0.mk (And.intro hf2 hL2)
   clear hs2 hf2 hL2
   obtain ⟨rk2, T2, hb2, hr2, hv2, hF2⟩ := HS2.out.ex
   have hfew2 := SumpAt.few (rk := rk2) (w := V.drew) (s := s2) (F := F2) HS2.out.ok hv2
   have HW2 := Aside0.mk (And.intro hb2 (And.intro hr2 (And.intro hv2 (And.intro hF2 hfew2))))
   clear hb2 hr2 hv2 hF2 hfew2
   have HOB := Aside0.mk (blk_drew HIV.out.ob_)
   have HKV := Aside0.mk (blk_drew HIV.out.kb_)
   have HSZ := Aside0.mk HIV.out.sz
   have HPL := Aside0.mk hpl
   have HIB := Aside0.mk (blk_drew HIV.out.ib_)
   have HBW := Aside0.mk (blk_drew HBV.out)
   have HVB := Aside0.mk (below_drew1 HIV.out.hb)
   have HVF := Aside0.mk (HFV.out.keep (fun i cs hc => HVB.out.block i (blk_lt hc)))
   have hE := HE.out
   have hN := HN2.out
   obtain ⟨i, hi, hz⟩ := infoB
   have hcut := (print_take_int (k := .u8) (P := Tryz.prog) 22 5 Tryz.underlying22 hi hz A c f.b n2 (by omega) (by omega) HVF.out.c).1
   rw [← hE.1] at hcut
   have HCT := Aside0.mk (Kd.C_take (m := (n2).toNat) HVF.out.rd (by omega))
   have HNIL := Aside0.mk (show A = none → f.b.take (n2).toNat = [] from fun h => by rw [HVF.out.nil h]; simp)
   have hcl := cloneO_calls A c (f.b.take (n2).toNat) V.drew HCT.out HNIL.out (by rw [List.length_take]; omega)
   generalize hq : (f.b.take (n2).toNat).length = q at hcut hcl
   have hpx : wrap64 (pl + 1) = pl + 1 := wrap_in (by omega) (by omega)
   have FG := Aside0.mk (show FlOk ⟨f.b.take (n2).toNat, n2⟩ from ⟨fun x hx => HFO.out.u8 x (List.mem_of_mem_take hx), by show (0 : Int) ≤ n2; omega, by show n2 ≤ ((f.b.take (n2).toNat).length : Int); rw [List.length_take]; omega⟩)
   have GG := Aside0.mk (show R1 w ⟨A, n, c, sf⟩ ⟨f.b.take (n2).toNat, n2⟩ from ⟨f, HFV.out, HFO.out, by omega, by show f.s ≤ n2; omega, by show n2 ≤ (f.b.length : Int); omega, rfl⟩)
   have HPX := Aside0.mk hpx
   clear hE hN hi hz hq hpx hpl
   refine wpIn_mono (Q := fun e a w => e = .normal ∧ _) ?_ (fun e a w h => h.2)
   refine startR_ (m := 13) (S := fun w' => w'.cell? ⟨ob, 0, none⟩ = some (.pointer (some ⟨s2, 0, none⟩)) ∧ w'.cell? ⟨s2, 1, none⟩ = some (.pointer (some ⟨rk2, 0, none⟩)) ∧ w'.cell? ⟨b, 0, none⟩ = some (.slice A n c)) (ds := []) #[ff,ff,ff,ff,ff,ff,ff,ff,ff,ff,ff,ff,ff] (by kernel_rfl) (fun _ _ h => nomatch h.1) (by kernel_rfl) rfl rfl ⟨((blk_cell HOB.out 0).trans rfl), ((blk_cell HW2.out.1 1).trans rfl), ((blk_cell HBW.out 0).trans rfl)⟩ (fun hHeld => ?_)
   refine pure_ (i := 4) (N := some 53) (v := ?_) (a' := ?_) #[ff,ff,ff,ff,tt,ff,ff,ff,ff,ff,ff,ff,ff] rfl rfl (by kernel_rfl) (fun _ _ _ h => nomatch h.1) (Or.inl ⟨by rfl, ?_⟩) ?_ ?_
   rotate_left
   ·intro w'
    go_simp
    with_reducible rfl
   rotate_left
   ·simp only [Act.put, sA, sB, sC, i64_w, i32_w]
    rfl
   refine pure_ (i := 5) (N := some 54) (v := ?_) (a' := ?_) #[ff,ff,ff,ff,tt,tt,ff,ff,ff,ff,ff,ff,ff] rfl rfl (by kernel_rfl) (fun _ _ _ h => nomatch h.1) (Or.inl ⟨by rfl, ?_⟩) ?_ ?_
   rotate_left
   ·intro w'
    go_simp
    with_reducible rfl
   rotate_left
   ·simp only [Act.put, sA, sB, sC, i64_w, i32_w]
    rfl
   refine pure_ (i := 7) (N := some 56) (v := ?_) (a' := ?_) #[ff,ff,ff,ff,tt,tt,ff,tt,ff,ff,ff,ff,ff] rfl rfl (by kernel_rfl) (fun _ _ _ h => nomatch h.1) (Or.inl ⟨by rfl, ?_⟩) ?_ ?_
   rotate_left
   ·intro w'
    go_simp
    with_reducible rfl
   rotate_left
   ·simp only [Act.put, sA, sB, sC, i64_w, i32_w]
    rfl
   refine pure_ (i := 10) (N := some 59) (v := ?_) (a' := ?_) #[ff,ff,ff,ff,tt,tt,ff,tt,ff,ff,tt,ff,ff] rfl rfl (by kernel_rfl) (fun _ _ _ h => nomatch h.1) (Or.inl ⟨by rfl, ?_⟩) ?_ ?_
   rotate_left
   ·intro w'
    go_simp
    with_reducible rfl
   rotate_left
   ·simp only [Act.put, sA, sB, sC, i64_w, i32_w]
    rfl
   refine take_ (i := 0) (N := some 49) (v := ?_) (a' := ?_) #[tt,ff,ff,ff,tt,tt,ff,tt,ff,ff,tt,ff,ff] rfl rfl (by kernel_rfl) (fun _ _ _ h => nomatch h.1) (Or.inl ⟨by rfl, ?_⟩) hHeld ?_ ?_
   rotate_left
   ·rintro w' ⟨s0, s1, s2⟩
    go_simp
    with_reducible rfl
   rotate_left
   ·simp only [Act.put, sA, sB, sC, i64_w, i32_w]
    rfl
   refine pure_ (i := 1) (N := some 50) (v := ?_) (a' := ?_) #[tt,tt,ff,ff,tt,tt,ff,tt,ff,ff,tt,ff,ff] rfl rfl (by kernel_rfl) (fun _ _ _ h => nomatch h.1) (Or.inl ⟨by rfl, ?_⟩) ?_ ?_
   rotate_left
   ·intro w'
    go_simp
    with_reducible rfl
   rotate_left
   ·simp only [Act.put, sA, sB, sC, i64_w, i32_w]
    rfl
   refine pure_ (i := 2) (N := some 51) (v := ?_) (a' := ?_) #[tt,tt,tt,ff,tt,tt,ff,tt,ff,ff,tt,ff,ff] rfl rfl (by kernel_rfl) (fun _ _ _ h => nomatch h.1) (Or.inl ⟨by rfl, ?_⟩) ?_ ?_
   rotate_left
   ·intro w'
    go_simp
    with_reducible rfl
   rotate_left
   ·simp only [Act.put, sA, sB, sC, i64_w, i32_w]
    rfl
   refine take_ (i := 3) (N := some 52) (v := ?_) (a' := ?_) #[tt,tt,tt,tt,tt,tt,ff,tt,ff,ff,tt,ff,ff] rfl rfl (by kernel_rfl) (fun _ _ _ h => nomatch h.1) (Or.inl ⟨by rfl, ?_⟩) hHeld ?_ ?_
   rotate_left
   ·rintro w' ⟨s0, s1, s2⟩
    go_simp
    with_reducible rfl
   rotate_left
   ·simp only [Act.put, sA, sB, sC, i64_w, i32_w]
    rfl
   refine take_ (i := 6) (N := some 55) (v := ?_) (a' := ?_) #[tt,tt,tt,tt,tt,tt,tt,tt,ff,ff,tt,ff,ff] rfl rfl (by kernel_rfl) (fun _ _ _ h => nomatch h.1) (Or.inl ⟨by rfl, ?_⟩) hHeld ?_ ?_
   rotate_left
   ·rintro w' ⟨s0, s1, s2⟩
    go_simp
    with_reducible rfl
   rotate_left
   ·simp only [Act.put, sA, sB, sC, i64_w, i32_w]
    rfl
   refine pure_ (i := 8) (N := some 57) (v := ?_) (a' := ?_) #[tt,tt,tt,tt,tt,tt,tt,tt,tt,ff,tt,ff,ff] rfl rfl (by kernel_rfl) (fun _ _ _ h => nomatch h.1) (Or.inl ⟨by rfl, ?_⟩) ?_ ?_
   rotate_left
   ·intro w'
    go_simp
    with_reducible rfl
   rotate_left
   ·simp only [Act.put, sA, sB, sC, i64_w, i32_w]
    rfl
   refine one_ (i := 9) (N := some 58) #[tt,tt,tt,tt,tt,tt,tt,tt,tt,tt,tt,ff,ff] rfl rfl (by kernel_rfl) (by decide) (fun K hK => ?_)
   refine goes_ Tryz.func21 (by kernel_rfl) rfl #[.slice A q c] (by rfl) rfl rfl (by simp only [List.map_toArray, List.map_cons, List.map_nil]; rfl) ?_
   with_reducible refine (hcl).mono ?_
   rintro e w3 ⟨⟨v2, rfl, hR⟩, hb3⟩
   refine ⟨_, rfl, ?_⟩
   have p_OB := Aside0.mk (blk_below HOB.out hb3)
   have p_KB := Aside0.mk (blk_below HKV.out hb3)
   have p_SZ := Aside0.mk (Nat.le_trans HSZ.out hb3.size)
   have p_IB := Aside0.mk (blk_below HIB.out hb3)
   have p_BW := Aside0.mk (blk_below HBW.out hb3)
   have p_VB := Aside0.mk (HVB.out.trans (hb3.mono HVB.out.size))
   have p_K := Aside0.mk (blk_below HW2.out.1 hb3)
   have p_R := Aside0.mk (HW2.out.2.1.below hb3)
   have p_V := Aside0.mk (HW2.out.2.2.1.mono (fun _ _ h => h.keep (w' := w3) (fun i cs hc => hb3.block i (blk_lt hc))))
   have p_D := Aside0.mk hb3
   obtain ⟨u, hu1, hu2, hu3⟩ := FvAt.of_own (f := ⟨f.b.take (n2).toNat, n2⟩) hR
   obtain ⟨uA, un, uc, us⟩ := u
   simp only at hu1 hu2
   subst hu1
   rw [hu2] at hu3
   have HU3 := Aside0.mk hu3
   have hput := Put_calls w3 rk2 T2 k ⟨uA, un, uc, n2⟩ p_R.out (by have := HW2.out.2.2.2.2; omega)
   clear hR hb3 hu3 hcl hcut HOB HIB HBW
   refine hK.out _ _ ⟨((blk_cell p_OB.out 0).trans rfl), ((blk_cell p_K.out 1).trans rfl), ((blk_cell p_BW.out 0).trans rfl)⟩ (fun hHeld => ?_)
   clear hK K
   refine norm_ (a' := ?_) ?_ ?_
   rotate_left
   ·show Act.put _ (some 58) _ = _
    simp only [Act.put, sA, sB, sC, i64_w, i32_w]
    rfl
   refine pure_ (i := 11) (N := some 60) (v := ?_) (a' := ?_) #[tt,tt,tt,tt,tt,tt,tt,tt,tt,tt,tt,tt,ff] rfl rfl (by kernel_rfl) (fun _ _ _ h => nomatch h.1) (Or.inl ⟨by rfl, ?_⟩) ?_ ?_
   rotate_left
   ·intro w'
    go_simp
    with_reducible rfl
   rotate_left
   ·simp only [Act.put, sA, sB, sC, i64_w, i32_w]
    rfl
   refine one_ (i := 12) (N := some 61) #[tt,tt,tt,tt,tt,tt,tt,tt,tt,tt,tt,tt,tt] rfl rfl (by kernel_rfl) (by decide) (fun K hK => ?_)
   refine goes_ Tryz.func32 (by kernel_rfl) rfl #[.pointer (some ⟨rk2, 0, none⟩), .string k, FV.val ⟨uA, un, uc, n2⟩] (by rfl) rfl rfl (by simp only [List.map_toArray, List.map_cons, List.map_nil]; rfl) ?_
   with_reducible refine (hput).mono ?_
   rintro e w5x ⟨rfl, hm, ht⟩
   refine ⟨_, rfl, ?_⟩
   have HM5 := Aside0.mk hm
   have HT5 := Aside0.mk ht
   have hnt : ∀ i cs t, w3.heap[i]? = some (.cells cs t (0, 0)) → t ≠ 79 → t ≠ 121 → ¬ RF rk2 T2 i := fun i cs t hc h1 h2 e => by
    obtain ⟨cs2, t2, hc2, ht2⟩ := RF_typed p_R.out i e
    rw [hc] at hc2
    cases hc2
    exact ht2.elim h1 h2
   have t_OB := Aside0.mk (hm.blk p_OB.out (hnt _ _ _ p_OB.out (by decide) (by decide)))
   have t_KB := Aside0.mk (hm.blk p_KB.out (hnt _ _ _ p_KB.out (by decide) (by decide)))
   have t_IB := Aside0.mk (hm.blk p_IB.out (hnt _ _ _ p_IB.out (by decide) (by decide)))
   have t_BW := Aside0.mk (hm.blk p_BW.out (hnt _ _ _ p_BW.out (by decide) (by decide)))
   have t_K := Aside0.mk (hm.blk p_K.out (hnt _ _ _ p_K.out (by decide) (by decide)))
   clear hm ht hput hnt
   refine hK.out _ _ ⟨((blk_cell t_OB.out 0).trans rfl), ((blk_cell t_K.out 1).trans rfl), ((blk_cell t_BW.out 0).trans rfl)⟩ (fun hHeld => ?_)
   clear hK K
   refine norm_ (a' := ?_) ?_ ?_
   rotate_left
   ·show Act.put _ (some 61) _ = _
    simp only [Act.put, sA, sB, sC, i64_w, i32_w]
    rfl
   refine done_ (by kernel_rfl) ?_
   refine ⟨rfl, ?_⟩
   clear hHeld
   have d4 : w5x.cell? ⟨ob + 1, 0, none⟩ = some (.int .i64 pl) := (blk_cell t_IB.out 0).trans (by rw [HPL.out]; rfl)
   have f4 := blk_frozen t_IB.out 0
   obtain ⟨ok5, hins, hboth⟩ := stop_put_ok HX.out.1 HV.out HR.out.rise HS.out.ok HL2.out.2 HS2.out.ok GG.out FG.out
   obtain ⟨F5, hd5, hsub5⟩ := disk_put p_K.out p_R.out p_V.out HW2.out.2.2.2.1 ok5 HU3.out HM5.out HT5.out
   have hd6 := hd5.set t_IB.out (by decide) (by decide) (by decide) (by decide) 0 (.int .i64 (pl + 1))
   have hge5 : ∀ i, F5 i → w.heap.size ≤ i := fun i hi => (hsub5 i hi).elim (fun e => HL2.out.1 i e) (fun e => Nat.le_trans p_VB.out.size e)
   have hbe5 : Below w.heap.size w (w5x.setCell ⟨ob + 1, 0, none⟩ (.int .i64 (pl + 1))) := (mut_below p_VB.out HM5.out (fun i e => HL2.out.1 i ((HW2.out.2.2.2.1 i).2 (.inr e)))).setCell (p := ⟨ob + 1, 0, none⟩) HIV.out.ge.2.2 _
   have FIN := Aside0.mk (show StopSt w s2 w.heap.size ob (ob + 1) (.slice (some ad) kn kc) D.lim T (pre ++ [(k, ⟨A, n, c, sf⟩)]) (w5x.setCell ⟨ob + 1, 0, none⟩ (.int .i64 (pl + 1))) from ⟨hbe5, HIV.out.ge, blk_far t_KB.out (by show w.heap.size ≠ ob + 1; have := HBX0.out; omega) _, blk_far t_OB.out (by show ob ≠ ob + 1; omega) _, by
    have := blk_put t_IB.out 0 (.int .i64 (pl + 1)) (cs' := #[.int .i64 (pl + 1)]) rfl
    rw [this, List.length_append]
    simp only [List.length_cons, List.length_nil]
    rw [show ((pre.length + (0 + 1) : Nat) : Int) = pl + 1 from by have := HPL.out; omega], ⟨F5, _, by rw [← hins]; exact hd6, hge5, hboth⟩, HX.out.1, by rw [World.size_setCell]; exact Nat.le_trans p_SZ.out HM5.out.size⟩)
   have FIN2 := Aside0.mk ((((HKO.out.trans (KeepsOthers.drew V)).trans (keeps_below p_D.out)).trans (keeps_mut HM5.out (fun i e => by obtain ⟨cs, t, hc, _⟩ := RF_typed p_R.out i e; exact ⟨cs, t, hc⟩))).trans (KeepsOthers.setCell w5x ⟨ob + 1, 0, none⟩ (.int .i64 (pl + 1))))
   clear ok5 hins hboth hd5 hsub5 hd6 hge5 hbe5
   gi_wp2
   (try rw [HPX.out])
   exact .inl ⟨rfl, FIN2.out.from _, fun _ => HR.out.below FIN.out.hb, FIN.out⟩
  ·have hbt : decide (pl < (kn : Int)) = false := decide_eq_false hlt
   gi_upto_region 9 with fail
   have HIV := HI
   have HBV := HB2
   have HKO := Aside0.mk (KeepsOthers.refl W)
   have HN2 := Aside0.mk (show sf ≤ sf ∧ sf ≤ n from ⟨Int.le_refl _, HE.out.2.2.1.2⟩)
   obtain ⟨n2, hn2⟩ : ∃ n2, n2 = sf := ⟨_, rfl⟩
   rw [← hn2] at HN2
   have hxs : ∀ (P : Int → Prop), P sf → P n2 := fun P h => hn2 ▸ h
   clear e0 e1 e2 e3 e4
   obtain ⟨V, hV⟩ : ∃ V, V = W := ⟨_, rfl⟩
   rw [← hV] at HIV HBV ⊢
   have HKO := Aside0.mk (show KeepsOthers W V from hV ▸ KeepsOthers.refl W)
   clear hV
   obtain ⟨F2, L2, hs2, hf2, hL2⟩ := HIV.out.disk
   have HS2 := Aside0.mk (hs2.below (w' := V.drew) ⟨rfl, rfl, rfl, Nat.le_refl _, fun _ _ => rfl⟩)
   have HL2 := Aside0.mk (And.intro hf2 hL2)
   clear hs2 hf2 hL2
   obtain ⟨rk2, T2, hb2, hr2, hv2, hF2⟩ := HS2.out.ex
   have hfew2 := SumpAt.few (rk := rk2) (w := V.drew) (s := s2) (F := F2) HS2.out.ok hv2
   have HW2 := Aside0.mk (And.intro hb2 (And.intro hr2 (And.intro hv2 (And.intro hF2 hfew2))))
   clear hb2 hr2 hv2 hF2 hfew2
   have HOB := Aside0.mk (blk_drew HIV.out.ob_)
   have HKV := Aside0.mk (blk_drew HIV.out.kb_)
   have HSZ := Aside0.mk HIV.out.sz
   have HPL := Aside0.mk hpl
   have HIB := Aside0.mk (blk_drew HIV.out.ib_)
   have HBW := Aside0.mk (blk_drew HBV.out)
   have HVB := Aside0.mk (below_drew1 HIV.out.hb)
   have HVF := Aside0.mk (HFV.out.keep (fun i cs hc => HVB.out.block i (blk_lt hc)))
   have hE := HE.out
   have hN := HN2.out
   obtain ⟨i, hi, hz⟩ := infoB
   have hcut := (print_take_int (k := .u8) (P := Tryz.prog) 22 5 Tryz.underlying22 hi hz A c f.b sf (by omega) (by omega) HVF.out.c).1
   rw [← hE.1] at hcut
   have HCT := Aside0.mk (Kd.C_take (m := (sf).toNat) HVF.out.rd (by omega))
   have HNIL := Aside0.mk (show A = none → f.b.take (sf).toNat = [] from fun h => by rw [HVF.out.nil h]; simp)
   have hcl := cloneO_calls A c (f.b.take (sf).toNat) V.drew HCT.out HNIL.out (by rw [List.length_take]; omega)
   generalize hq : (f.b.take (sf).toNat).length = q at hcut hcl
   have hpx : wrap64 (pl + 1) = pl + 1 := wrap_in (by omega) (by omega)
   have FG := Aside0.mk (show FlOk ⟨f.b.take (sf).toNat, sf⟩ from ⟨fun x hx => HFO.out.u8 x (List.mem_of_mem_take hx), by show (0 : Int) ≤ sf; omega, by show sf ≤ ((f.b.take (sf).toNat).length : Int); rw [List.length_take]; omega⟩)
   have GG := Aside0.mk (show R1 w ⟨A, n, c, sf⟩ ⟨f.b.take (sf).toNat, sf⟩ from ⟨f, HFV.out, HFO.out, by omega, by show f.s ≤ sf; omega, by show sf ≤ (f.b.length : Int); omega, rfl⟩)
   have HPX := Aside0.mk hpx
   clear hE hN hi hz hq hpx hpl
   refine wpIn_mono (Q := fun e a w => e = .normal ∧ _) ?_ (fun e a w h => h.2)
   refine startR_ (m := 13) (S := fun w' => w'.cell? ⟨ob, 0, none⟩ = some (.pointer (some ⟨s2, 0, none⟩)) ∧ w'.cell? ⟨s2, 1, none⟩ = some (.pointer (some ⟨rk2, 0, none⟩)) ∧ w'.cell? ⟨b, 0, none⟩ = some (.slice A n c)) (ds := []) #[ff,ff,ff,ff,ff,ff,ff,ff,ff,ff,ff,ff,ff] (by kernel_rfl) (fun _ _ h => nomatch h.1) (by kernel_rfl) rfl rfl ⟨((blk_cell HOB.out 0).trans rfl), ((blk_cell HW2.out.1 1).trans rfl), ((blk_cell HBW.out 0).trans rfl)⟩ (fun hHeld => ?_)
   refine pure_ (i := 4) (N := some 53) (v := ?_) (a' := ?_) #[ff,ff,ff,ff,tt,ff,ff,ff,ff,ff,ff,ff,ff] rfl rfl (by kernel_rfl) (fun _ _ _ h => nomatch h.1) (Or.inl ⟨by rfl, ?_⟩) ?_ ?_
   rotate_left
   ·intro w'
    go_simp
    with_reducible rfl
   rotate_left
   ·simp only [Act.put, sA, sB, sC, i64_w, i32_w]
    rfl
   refine pure_ (i := 5) (N := some 54) (v := ?_) (a' := ?_) #[ff,ff,ff,ff,tt,tt,ff,ff,ff,ff,ff,ff,ff] rfl rfl (by kernel_rfl) (fun _ _ _ h => nomatch h.1) (Or.inl ⟨by rfl, ?_⟩) ?_ ?_
   rotate_left
   ·intro w'
    go_simp
    with_reducible rfl
   rotate_left
   ·simp only [Act.put, sA, sB, sC, i64_w, i32_w]
    rfl
   refine pure_ (i := 7) (N := some 56) (v := ?_) (a' := ?_) #[ff,ff,ff,ff,tt,tt,ff,tt,ff,ff,ff,ff,ff] rfl rfl (by kernel_rfl) (fun _ _ _ h => nomatch h.1) (Or.inl ⟨by rfl, ?_⟩) ?_ ?_
   rotate_left
   ·intro w'
    go_simp
    with_reducible rfl
   rotate_left
   ·simp only [Act.put, sA, sB, sC, i64_w, i32_w]
    rfl
   refine pure_ (i := 10) (N := some 59) (v := ?_) (a' := ?_) #[ff,ff,ff,ff,tt,tt,ff,tt,ff,ff,tt,ff,ff] rfl rfl (by kernel_rfl) (fun _ _ _ h => nomatch h.1) (Or.inl ⟨by rfl, ?_⟩) ?_ ?_
   rotate_left
   ·intro w'
    go_simp
    with_reducible rfl
   rotate_left
   ·simp only [Act.put, sA, sB, sC, i64_w, i32_w]
    rfl
   refine take_ (i := 0) (N := some 49) (v := ?_) (a' := ?_) #[tt,ff,ff,ff,tt,tt,ff,tt,ff,ff,tt,ff,ff] rfl rfl (by kernel_rfl) (fun _ _ _ h => nomatch h.1) (Or.inl ⟨by rfl, ?_⟩) hHeld ?_ ?_
   rotate_left
   ·rintro w' ⟨s0, s1, s2⟩
    go_simp
    with_reducible rfl
   rotate_left
   ·simp only [Act.put, sA, sB, sC, i64_w, i32_w]
    rfl
   refine pure_ (i := 1) (N := some 50) (v := ?_) (a' := ?_) #[tt,tt,ff,ff,tt,tt,ff,tt,ff,ff,tt,ff,ff] rfl rfl (by kernel_rfl) (fun _ _ _ h => nomatch h.1) (Or.inl ⟨by rfl, ?_⟩) ?_ ?_
   rotate_left
   ·intro w'
    go_simp
    with_reducible rfl
   rotate_left
   ·simp only [Act.put, sA, sB, sC, i64_w, i32_w]
    rfl
   refine pure_ (i := 2) (N := some 51) (v := ?_) (a' := ?_) #[tt,tt,tt,ff,tt,tt,ff,tt,ff,ff,tt,ff,ff] rfl rfl (by kernel_rfl) (fun _ _ _ h => nomatch h.1) (Or.inl ⟨by rfl, ?_⟩) ?_ ?_
   rotate_left
   ·intro w'
    go_simp
    with_reducible rfl
   rotate_left
   ·simp only [Act.put, sA, sB, sC, i64_w, i32_w]
    rfl
   refine take_ (i := 3) (N := some 52) (v := ?_) (a' := ?_) #[tt,tt,tt,tt,tt,tt,ff,tt,ff,ff,tt,ff,ff] rfl rfl (by kernel_rfl) (fun _ _ _ h => nomatch h.1) (Or.inl ⟨by rfl, ?_⟩) hHeld ?_ ?_
   rotate_left
   ·rintro w' ⟨s0, s1, s2⟩
    go_simp
    with_reducible rfl
   rotate_left
   ·simp only [Act.put, sA, sB, sC, i64_w, i32_w]
    rfl
   refine take_ (i := 6) (N := some 55) (v := ?_) (a' := ?_) #[tt,tt,tt,tt,tt,tt,tt,tt,ff,ff,tt,ff,ff] rfl rfl (by kernel_rfl) (fun _ _ _ h => nomatch h.1) (Or.inl ⟨by rfl, ?_⟩) hHeld ?_ ?_
   rotate_left
   ·rintro w' ⟨s0, s1, s2⟩
    go_simp
    with_reducible rfl
   rotate_left
   ·simp only [Act.put, sA, sB, sC, i64_w, i32_w]
    rfl
   refine pure_ (i := 8) (N := some 57) (v := ?_) (a' := ?_) #[tt,tt,tt,tt,tt,tt,tt,tt,tt,ff,tt,ff,ff] rfl rfl (by kernel_rfl) (fun _ _ _ h => nomatch h.1) (Or.inl ⟨by rfl, ?_⟩) ?_ ?_
   rotate_left
   ·intro w'
    go_simp
    with_reducible rfl
   rotate_left
   ·simp only [Act.put, sA, sB, sC, i64_w, i32_w]
    rfl
   refine one_ (i := 9) (N := some 58) #[tt,tt,tt,tt,tt,tt,tt,tt,tt,tt,tt,ff,ff] rfl rfl (by kernel_rfl) (by decide) (fun K hK => ?_)
   refine goes_ Tryz.func21 (by kernel_rfl) rfl #[.slice A q c] (by rfl) rfl rfl (by simp only [List.map_toArray, List.map_cons, List.map_nil]; rfl) ?_
   with_reducible refine (hcl).mono ?_
   rintro e w3 ⟨⟨v2, rfl, hR⟩, hb3⟩
   refine ⟨_, rfl, ?_⟩
   have p_OB := Aside0.mk (blk_below HOB.out hb3)
   have p_KB := Aside0.mk (blk_below HKV.out hb3)
   have p_SZ := Aside0.mk (Nat.le_trans HSZ.out hb3.size)
   have p_IB := Aside0.mk (blk_below HIB.out hb3)
   have p_BW := Aside0.mk (blk_below HBW.out hb3)
   have p_VB := Aside0.mk (HVB.out.trans (hb3.mono HVB.out.size))
   have p_K := Aside0.mk (blk_below HW2.out.1 hb3)
   have p_R := Aside0.mk (HW2.out.2.1.below hb3)
   have p_V := Aside0.mk (HW2.out.2.2.1.mono (fun _ _ h => h.keep (w' := w3) (fun i cs hc => hb3.block i (blk_lt hc))))
   have p_D := Aside0.mk hb3
   obtain ⟨u, hu1, hu2, hu3⟩ := FvAt.of_own (f := ⟨f.b.take (sf).toNat, sf⟩) hR
   obtain ⟨uA, un, uc, us⟩ := u
   simp only at hu1 hu2
   subst hu1
   rw [hu2] at hu3
   have HU3 := Aside0.mk hu3
   have hput := Put_calls w3 rk2 T2 k ⟨uA, un, uc, sf⟩ p_R.out (by have := HW2.out.2.2.2.2; omega)
   clear hR hb3 hu3 hcl hcut HOB HIB HBW
   refine hK.out _ _ ⟨((blk_cell p_OB.out 0).trans rfl), ((blk_cell p_K.out 1).trans rfl), ((blk_cell p_BW.out 0).trans rfl)⟩ (fun hHeld => ?_)
   clear hK K
   refine norm_ (a' := ?_) ?_ ?_
   rotate_left
   ·show Act.put _ (some 58) _ = _
    simp only [Act.put, sA, sB, sC, i64_w, i32_w]
    rfl
   refine pure_ (i := 11) (N := some 60) (v := ?_) (a' := ?_) #[tt,tt,tt,tt,tt,tt,tt,tt,tt,tt,tt,tt,ff] rfl rfl (by kernel_rfl) (fun _ _ _ h => nomatch h.1) (Or.inl ⟨by rfl, ?_⟩) ?_ ?_
   rotate_left
   ·intro w'
    go_simp
    with_reducible rfl
   rotate_left
   ·simp only [Act.put, sA, sB, sC, i64_w, i32_w]
    rfl
   refine one_ (i := 12) (N := some 61) #[tt,tt,tt,tt,tt,tt,tt,tt,tt,tt,tt,tt,tt] rfl rfl (by kernel_rfl) (by decide) (fun K hK => ?_)
   refine goes_ Tryz.func32 (by kernel_rfl) rfl #[.pointer (some ⟨rk2, 0, none⟩), .string k, FV.val ⟨uA, un, uc, sf⟩] (by rfl) rfl rfl (by simp only [List.map_toArray, List.map_cons, List.map_nil]; rfl) ?_
   with_reducible refine (hput).mono ?_
   rintro e w5x ⟨rfl, hm, ht⟩
   refine ⟨_, rfl, ?_⟩
   have HM5 := Aside0.mk hm
   have HT5 := Aside0.mk ht
   have hnt : ∀ i cs t, w3.heap[i]? = some (.cells cs t (0, 0)) → t ≠ 79 → t ≠ 121 → ¬ RF rk2 T2 i := fun i cs t hc h1 h2 e => by
    obtain ⟨cs2, t2, hc2, ht2⟩ := RF_typed p_R.out i e
    rw [hc] at hc2
    cases hc2
    exact ht2.elim h1 h2
   have t_OB := Aside0.mk (hm.blk p_OB.out (hnt _ _ _ p_OB.out (by decide) (by decide)))
   have t_KB := Aside0.mk (hm.blk p_KB.out (hnt _ _ _ p_KB.out (by decide) (by decide)))
   have t_IB := Aside0.mk (hm.blk p_IB.out (hnt _ _ _ p_IB.out (by decide) (by decide)))
   have t_BW := Aside0.mk (hm.blk p_BW.out (hnt _ _ _ p_BW.out (by decide) (by decide)))
   have t_K := Aside0.mk (hm.blk p_K.out (hnt _ _ _ p_K.out (by decide) (by decide)))
   clear hm ht hput hnt
   refine hK.out _ _ ⟨((blk_cell t_OB.out 0).trans rfl), ((blk_cell t_K.out 1).trans rfl), ((blk_cell t_BW.out 0).trans rfl)⟩ (fun hHeld => ?_)
   clear hK K
   refine norm_ (a' := ?_) ?_ ?_
   rotate_left
   ·show Act.put _ (some 61) _ = _
    simp only [Act.put, sA, sB, sC, i64_w, i32_w]
    rfl
   refine done_ (by kernel_rfl) ?_
   refine ⟨rfl, ?_⟩
   clear hHeld
   have d4 : w5x.cell? ⟨ob + 1, 0, none⟩ = some (.int .i64 pl) := (blk_cell t_IB.out 0).trans (by rw [HPL.out]; rfl)
   have f4 := blk_frozen t_IB.out 0
   obtain ⟨ok5, hins, hboth⟩ := stop_put_ok HX.out.1 HV.out HR.out.rise HS.out.ok HL2.out.2 HS2.out.ok GG.out FG.out
   obtain ⟨F5, hd5, hsub5⟩ := disk_put p_K.out p_R.out p_V.out HW2.out.2.2.2.1 ok5 HU3.out HM5.out HT5.out
   have hd6 := hd5.set t_IB.out (by decide) (by decide) (by decide) (by decide) 0 (.int .i64 (pl + 1))
   have hge5 : ∀ i, F5 i → w.heap.size ≤ i := fun i hi => (hsub5 i hi).elim (fun e => HL2.out.1 i e) (fun e => Nat.le_trans p_VB.out.size e)
   have hbe5 : Below w.heap.size w (w5x.setCell ⟨ob + 1, 0, none⟩ (.int .i64 (pl + 1))) := (mut_below p_VB.out HM5.out (fun i e => HL2.out.1 i ((HW2.out.2.2.2.1 i).2 (.inr e)))).setCell (p := ⟨ob + 1, 0, none⟩) HIV.out.ge.2.2 _
   have FIN := Aside0.mk (show StopSt w s2 w.heap.size ob (ob + 1) (.slice kA kn kc) D.lim T (pre ++ [(k, ⟨A, n, c, sf⟩)]) (w5x.setCell ⟨ob + 1, 0, none⟩ (.int .i64 (pl + 1))) from ⟨hbe5, HIV.out.ge, blk_far t_KB.out (by show w.heap.size ≠ ob + 1; have := HBX0.out; omega) _, blk_far t_OB.out (by show ob ≠ ob + 1; omega) _, by
    have := blk_put t_IB.out 0 (.int .i64 (pl + 1)) (cs' := #[.int .i64 (pl + 1)]) rfl
    rw [this, List.length_append]
    simp only [List.length_cons, List.length_nil]
    rw [show ((pre.length + (0 + 1) : Nat) : Int) = pl + 1 from by have := HPL.out; omega], ⟨F5, _, by rw [← hins]; exact hd6, hge5, hboth⟩, HX.out.1, by rw [World.size_setCell]; exact Nat.le_trans p_SZ.out HM5.out.size⟩)
   have FIN2 := Aside0.mk ((((HKO.out.trans (KeepsOthers.drew V)).trans (keeps_below p_D.out)).trans (keeps_mut HM5.out (fun i e => by obtain ⟨cs, t, hc, _⟩ := RF_typed p_R.out i e; exact ⟨cs, t, hc⟩))).trans (KeepsOthers.setCell w5x ⟨ob + 1, 0, none⟩ (.int .i64 (pl + 1))))
   clear ok5 hins hboth hd5 hsub5 hd6 hge5 hbe5
   gi_wp2
   (try rw [HPX.out])
   exact .inl ⟨rfl, FIN2.out.from _, fun _ => HR.out.below FIN.out.hb, FIN.out⟩
 case done =>
  rintro D' xs W hD rfl hI hK
  have d0 := blk_cell hI.ob_ 0
  have HI := Aside0.mk hI
  have HSZ5 := Aside0.mk hP0.hb.size
  clear hI hhands hbx hr5 hP0
  gi_wp2_with fail
  refine ⟨by simp, .inl ⟨_, _, rfl, run_takeDeferred hK, ?_⟩⟩
  obtain ⟨F2, L2, h1, h2, h3⟩ := HI.out.disk
  exact ⟨.pointer (some ⟨s2, 0, none⟩), by simp [results, Tryz.results12, go_sem], ⟨s2, F2, ⟨D.lim, false, 0, L2⟩, rfl, below_putObj HI.out.hb (show w.heap.size ≤ D' by have := HSZ5.out; omega) _, h1.putObj hK rfl, h2, rfl, rfl, rfl, both_left HV.out h3⟩⟩
 case stop =>
  rintro D' pre W hD hp hI
  exact hI.elim
end Go.Proofs.YtdooajmgfoobfaaGreatDoor.H
