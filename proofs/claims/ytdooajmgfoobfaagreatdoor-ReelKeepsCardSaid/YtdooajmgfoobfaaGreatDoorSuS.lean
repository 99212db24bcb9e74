/- A disk: Drop, Rename. -/
import Derived.Test.YtdooajmgfoobfaaGreatDoorSuM
namespace Go.Proofs.YtdooajmgfoobfaaGreatDoor.H
attribute [local go_sem] Oper.semAt_some
open Go.RowKit Go.Shelf Go.Proofs.YtdooajmgfoobfaaGreatDoor.PA Go.Proofs.YtdooajmgfoobfaaGreatDoorW.PrintWords Go.Proofs.YtdooajmgfoobfaaGreatDoorW.PrintLast Go.Proofs.YtdooajmgfoobfaaGreatDoorW.PrintMore
set_option linter.unusedVariables false
set_option linter.unusedSimpArgs false
theorem RackAt.set {W : World} {rk : Nat} {T : Tr FV} (h : RackAt W rk T) {b t : Nat} {cs : Array Value} (hb : W.heap[b]? = some (.cells cs t (0, 0))) (ht : t ≠ 79 ∧ t ≠ 121) (j : Nat) (v : Value) : RackAt (W.setCell ⟨b, j, none⟩ v) rk T :=
  h.keep (fun i hi _ => Below.heap_setCell W ⟨b, j, none⟩ v i (by
    rintro rfl
    obtain ⟨cs', t', hc, h2⟩ := RF_typed h _ hi
    rw [hb] at hc
    cases hc
    exact h2.elim ht.1 ht.2))
theorem RackAt.alloc {W : World} {rk : Nat} {T : Tr FV} (h : RackAt W rk T) (o : Obj) : RackAt (W.alloc o) rk T := h.below ((Below.refl _ W).alloc (Nat.le_refl _) _)
theorem below_putObj {B : Nat} {w W : World} {D : Nat} (h : Below B w W) (hD : B ≤ D) (o : Obj) : Below B w (W.putObj D o) :=
  ⟨h.os, h.tape, h.output, by simpa [World.putObj] using h.size, fun i hi => (World.putObj_heap_other (by omega)).trans (h.block i hi)⟩
def sumN : List (ByteArray × FV) → Int
  | [] => 0
  | x :: r => x.2.n + sumN r
theorem sumN_append (a b : List (ByteArray × FV)) : sumN (a ++ b) = sumN a + sumN b := by
  induction a with
  | nil => simp [sumN]
  | cons x a ih => simp only [List.cons_append, sumN, ih]; omega
theorem sumN_nonneg : ∀ (L : List (ByteArray × FV)), 0 ≤ sumN L
  | [] => by simp [sumN]
  | x :: r => by have := sumN_nonneg r; simp only [sumN]; omega
theorem sumN_mem {x : ByteArray × FV} : ∀ {L : List (ByteArray × FV)}, x ∈ L → (x.2.n : Int) ≤ sumN L
  | y :: r, h => by
    have := sumN_nonneg r
    simp only [sumN]
    rcases List.mem_cons.1 h with rfl | h
    · omega
    · have := sumN_mem h; omega
theorem both_used {w : World} {L : List (ByteArray × FV)} {M : Fls} (h : Both (FvAt w) L M) : sumN L = usedL M := by
  induction h with
  | nil => rfl
  | cons h _ ih => simp only [sumN, usedL, ih, h.n]
/-- Where Used's loop stands. -/
structure UsedSt (w : World) (rk : Nat) (T : Tr FV) (pre : List (ByteArray × FV)) (W : World) : Prop where
  hb : Below w.heap.size w W
  nb : W.heap[w.heap.size]? = some (.cells #[.int .i64 (sumN pre)] 3 (0, 0))
  sz : w.heap.size + 2 ≤ W.heap.size
  le : sumN pre ≤ 1048576 * pre.length
theorem UsedSt.own (w : World) (rk : Nat) (T : Tr FV) {B : Nat} (hB : w.heap.size ≤ B) : OwnFrom B (UsedSt w rk T) := fun s W W' row hs hg hr => by
  have hne := cells_ne_row (B := B) hr hs.nb
  exact ⟨hs.hb.grown hg hs.hb.size (fun k hk => Nat.le_trans hB (hr k hk).1), (hg.block _ (blk_lt hs.nb) hne).trans hs.nb, Nat.le_trans hs.sz hg.size, hs.le⟩
set_option maxRecDepth 100000 in
set_option maxHeartbeats 8000000 in
theorem Used_calls (w : World) (s : Nat) (F : Nat → Prop) (D : Dk) (h : SumpAt w s F D) :
    Calls Tryz.prog 48 #[.pointer (some ⟨s, 0, none⟩)] w fun e w' => e = .returned (.int .i64 (usedL D.L)) ∧ Below w.heap.size w w' := by
  obtain ⟨rk, T, hb, hr, hv, hF⟩ := h.ex
  have HU := Aside0.mk (both_used hv)
  have HM := Aside0.mk (And.intro h.ok.used (And.intro h.ok.lim1 (show T.toL.length ≤ 16 by rw [hv.length]; exact h.ok.few)))
  have d1 : (w.alloc (.cells #[.int .i64 0] 3)).cell? ⟨s, 1, none⟩ = some (.pointer (some ⟨rk, 0, none⟩)) := (blk_cell (blk_below hb ((Below.refl _ w).alloc (Nat.le_refl _) _)) 1).trans rfl
  clear h hv hF
  refine (callsIn_wide (n := 6)).1 ?_
  refine callsIn_of_wp_marks Tryz.func48 rfl trivial ?_ rfl
  simp only [Tryz.ntmps48, List.size_toArray, List.length_cons, List.length_nil, Nat.reduceAdd, Nat.reduceSub, Array.replicate_succ, Array.replicate_zero, List.push_toArray, List.append_toArray, List.nil_append, List.cons_append]
  gi_wp2_with fail
  refine ⟨trivial, ?_⟩
  gi_at_call 31
  refine (callsIn_wide.2 (All_calls rk _)).mono ?_
  rintro e w4 ⟨rfl, rfl⟩
  gi_wp2_with fail
  have hP0 : UsedSt w rk T [] ((w.alloc (.cells #[.int .i64 0] 3)).alloc (.cells #[.pointer (some ⟨rk, 0, none⟩)] 48)) ∧ ((w.alloc (.cells #[.int .i64 0] 3)).alloc (.cells #[.pointer (some ⟨rk, 0, none⟩)] 48)).heap[w.heap.size + 1]? = some (.cells #[.pointer (some ⟨rk, 0, none⟩)] 48 (0, 0)) := by
    have e0 := heap_alloc2_old w (.cells #[.int .i64 0] 3) (.cells #[.pointer (some ⟨rk, 0, none⟩)] 48)
    have e1 := heap_alloc2_new w (.cells #[.int .i64 0] 3) (.cells #[.pointer (some ⟨rk, 0, none⟩)] 48)
    exact ⟨⟨((Below.refl _ w).alloc (Nat.le_refl _) _).alloc (by simp) _, e0, by simp, by simp [sumN]⟩, e1⟩
  have hr5 := (hr.alloc (.cells #[.int .i64 0] 3)).alloc (.cells #[.pointer (some ⟨rk, 0, none⟩)] 48)
  clear d1 hb
  generalize (w.alloc (.cells #[.int .i64 0] 3)).alloc (.cells #[.pointer (some ⟨rk, 0, none⟩)] 48) = w5 at hP0 hr5 ⊢
  obtain ⟨hP0, hbx⟩ := hP0
  have hsz5 := hP0.sz
  have hhands := all_hands (6 - 1) (w.heap.size + 1) rk T w5 hbx hr5
  refine range_hands (F := Fence.wide) (n := 6) rfl (by omega) (gf := 57) (lb := #[.pointer (some ⟨w.heap.size + 1, 0, none⟩)]) rfl trivial (enters_of Tryz.func57 (by kernel_rfl) rfl)
    hhands (fun A B hst => hst.elim) (fun _ => rfl) (fun h k hr => k (h hr)) (fun W l o o' hl ho hc hw => kpR_putObj rk T W l o o' ho hc)
    (fun pre W => UsedSt w rk T pre W ∧ RackAt W rk T) (fun _ _ => False) (fun s W W' row hs hg hr => ⟨UsedSt.own w rk T (Nat.le_refl _) s W W' row hs.1 hg (fun r e => ⟨by have := (hr r e).1; omega, (hr r e).2⟩), hs.2.grown hg (fun r e => (hr r e).2)⟩) (fun s W W' row hs hg hr => hs.elim) (fun x s W W' row hs hg hr => hs) ⟨hP0, hr5⟩ (fun s A B hs hst => hst.elim) (fun s A B hs _ => hs.elim)
    (fun x a' W => ∃ b, w.heap.size + 2 ≤ b ∧ a' = { tmps := #[.pointer (some ⟨s, 0, none⟩), undef, .int .i64 0, .pointer (some ⟨w.heap.size, 0, none⟩), undef, .pointer (some ⟨b, 0, none⟩), .pointer (some ⟨s, 0, none⟩), .pointer (some ⟨s, 0, none⟩), .pointer (some ⟨s, 1, none⟩), .pointer (some ⟨rk, 0, none⟩), .func (.func 57) #[] #[.pointer (some ⟨w.heap.size + 1, 0, none⟩)], .string x.1, x.2.val, undef, undef, undef, undef, undef, undef], defers := [] } ∧ W.heap[b]? = some (.cells #[.slice x.2.A x.2.n x.2.c, .int .i64 x.2.s] 51 (0, 0)))
    (fun x a' s W W' row hs hg hr => by obtain ⟨b, h1, h2, h3⟩ := hs; exact ⟨b, h1, h2, (hg.block _ (blk_lt h3) (cells_ne_row hr h3)).trans h3⟩) ?assign ?body ?done ?stop
  case assign =>
    rintro lp pre ⟨k, v⟩ W K ⟨hI, hR⟩ hx hK
    simp only [entA]
    have hb2 := hI.hb
    have hsz := hI.sz
    have e1 := heap_alloc_new W (.cells #[.slice v.A v.n v.c, .int .i64 v.s] 51)
    have HKK := Aside0.mk (hK _ _ (KeepsOthers.alloc W (.cells #[.slice v.A v.n v.c, .int .i64 v.s] 51)) (fun h => h.alloc _) ⟨⟨hb2.alloc hb2.size _, (Below.heap_alloc _ _ _ (blk_lt hI.nb)).trans hI.nb, by simp; omega, hI.le⟩, hR.alloc _⟩ hx ⟨W.heap.size, hsz, rfl, e1⟩)
    clear hK hb2 hsz e1 hI hR hx
    gi_wp2
    exact HKK.out
  case body =>
    rintro lp pre ⟨k, v⟩ a' W ⟨hI, hR⟩ hx ⟨b, hb1, rfl, hb2⟩ hln
    have hx2 : v.n ≤ 1048576 := by have := sumN_mem hx; have := HU.out; have := HM.out; simp only at *; omega
    have hne : w.heap.size ≠ b := by omega
    have d0 := blk_cell hI.nb 0
    have f0 := blk_frozen hI.nb 0
    have d1 := blk_cell hb2 0
    have hle := hI.le
    have hnn := sumN_nonneg pre
    have hlen : pre.length ≤ 15 := by have := HM.out.2.2; omega
    have hw : wrap64 (sumN pre + v.n) = sumN pre + v.n := wrap_in (by omega) (by omega)
    have FIN := Aside0.mk (show UsedSt w rk T (pre ++ [(k, v)]) (W.setCell ⟨w.heap.size, 0, none⟩ (.int .i64 (sumN pre + v.n))) from ⟨hI.hb.setCell (Nat.le_refl _) _, by
      have := blk_put hI.nb 0 (.int .i64 (sumN pre + v.n)) (cs' := #[.int .i64 (sumN pre + v.n)]) rfl
      rw [this, sumN_append]; simp [sumN], by rw [World.size_setCell]; exact hI.sz, by rw [sumN_append]; simp only [sumN, List.length_append, List.length_cons, List.length_nil]; omega⟩)
    have FIN2 := Aside0.mk (hR.set hI.nb (by decide) 0 (.int .i64 (sumN pre + v.n)))
    have FIN3 := Aside0.mk (KeepsOthers.setCell W ⟨w.heap.size, 0, none⟩ (.int .i64 (sumN pre + v.n)))
    clear hI hR hx hb2 hle hnn hx2 hlen hhands hbx hr5 hP0 hr
    gi_wp2
    (try rw [hw])
    exact .inl ⟨rfl, FIN3.out, fun _ => FIN2.out, FIN.out, FIN2.out⟩
  case done =>
    rintro D' xs W hD rfl ⟨hI, hR⟩ hK
    have d0 := blk_cell hI.nb 0
    have FIN := Aside0.mk hI.hb
    rw [HU.out] at d0
    clear hI hR hhands hbx hr5 hP0 hr
    gi_wp2_with fail
    refine ⟨by simp, .inl ⟨_, _, rfl, run_takeDeferred hK, ?_⟩⟩
    exact ⟨.int .i64 (usedL D.L), by simp [results, Tryz.results48, go_sem], rfl, below_putObj FIN.out (show w.heap.size ≤ D' by omega) _⟩
  case stop =>
    rintro D' pre W hD hp hI
    exact hI.elim
end Go.Proofs.YtdooajmgfoobfaaGreatDoor.H
namespace Go.Proofs.YtdooajmgfoobfaaGreatDoor.H
attribute [local go_sem] Oper.semAt_some
open Go.RowKit Go.Shelf Go.Proofs.YtdooajmgfoobfaaGreatDoor.PA Go.Proofs.YtdooajmgfoobfaaGreatDoorW.PrintWords Go.Proofs.YtdooajmgfoobfaaGreatDoorW.PrintLast Go.Proofs.YtdooajmgfoobfaaGreatDoorW.PrintMore
set_option linter.unusedVariables false
set_option linter.unusedSimpArgs false
structure ReadOut (D : Dk) (k : ByteArray) (w : World) (e : Ending) (w' : World) : Prop where
  out : (lk k D.L = none ∧ e = .returned (.tuple #[.slice none 0 0, .int .i64 5])) ∨ ∃ f v, lk k D.L = some f ∧ e = .returned (.tuple #[v, .int .i64 0]) ∧ Kd.R (Kd.int .u8) 5 w' w.heap.size (fun _ => True) v f.b
  hb : Below w.heap.size w w'
theorem fl_len {D : Dk} (h : DkOk D) {k : ByteArray} {f : Fl} (e : lk k D.L = some f) : f.b.length ≤ 1048576 := by
  have := used_mem ((lk_mem _ h.rise).1 e)
  have := h.used
  have := h.lim1
  simp only at *
  omega
set_option maxRecDepth 100000 in
set_option maxHeartbeats 8000000 in
theorem Read_calls (w : World) (s : Nat) (F : Nat → Prop) (D : Dk) (k : ByteArray) (h : SumpAt w s F D) :
    Calls Tryz.prog 34 #[.pointer (some ⟨s, 0, none⟩), .string k] w (ReadOut D k w) := by
  obtain ⟨rk, T, hb, hr, hv, hF⟩ := h.ex
  have hg := Get_calls w rk T k hr
  have d1 : w.cell? ⟨s, 1, none⟩ = some (.pointer (some ⟨rk, 0, none⟩)) := (blk_cell hb 1).trans rfl
  have HLEN := Aside0.mk (fun f e => fl_len (k := k) (f := f) h.ok e)
  rcases hv.lk k with ⟨e1, e2⟩ | ⟨u, f, e1, e2, hu⟩
  · rw [e1] at hg
    have HE := Aside0.mk e2
    clear h hb hr hv hF e1 e2
    simp only [FV.orZero, Option.isSome] at hg
    go_enter Tryz.func34, Tryz.ntmps34
    go_wp2_with (go_at_call 47; refine hg.mono ?_; rintro e w1 ⟨rfl, hb1⟩; have HB1 := Aside0.mk hb1; clear hb1 d1 hg)
    exact bodyPost_ret (v := .tuple #[.slice none 0 0, .int .i64 5]) (by simp [results, Tryz.results34, go_sem]) rfl ⟨.inl ⟨HE.out, rfl⟩, HB1.out.alloc HB1.out.size _⟩
  · rw [e1] at hg
    have HE := Aside0.mk e2
    obtain ⟨A, n, c, sf⟩ := u
    have hn := hu.n
    simp only at hn
    subst hn
    have HU := Aside0.mk hu
    have hl := HLEN.out f e2
    clear h hb hr hv hF e1 e2 HLEN
    simp only [FV.orZero, Option.isSome, FV.val] at hg
    have hcl := fun W (hW : Below w.heap.size w W) => cloneO_calls A c f.b W (Kd.C_below HU.out.rd hW) HU.out.nil (by omega)
    clear hu hl
    generalize hn : f.b.length = n at hg hcl
    go_enter Tryz.func34, Tryz.ntmps34
    go_wp2_with (first
      | (go_at_call 47; refine hg.mono ?_; rintro e w1 ⟨rfl, hb1⟩; have HB1 := Aside0.mk hb1; have hcc := hcl _ (hb1.alloc hb1.size (.cells #[.slice A n c, .int .i64 sf] 51)); clear hb1 d1 hg hcl)
      | (go_at_call 21; refine hcc.mono ?_; rintro e w2 ⟨⟨v, rfl, hR⟩, hb2⟩; have HR2 := Aside0.mk hR; have HB2 := Aside0.mk hb2; clear hcc hR hb2))
    have hB3 : Below w.heap.size w (w1.alloc (.cells #[.slice A n c, .int .i64 sf] 51)) := HB1.out.alloc HB1.out.size _
    exact bodyPost_ret (v := .tuple #[v, .int .i64 0]) (by simp [results, Tryz.results34, go_sem]) rfl ⟨.inr ⟨f, v, HE.out, rfl, Kd.R_lower HR2.out hB3.size⟩, hB3.trans (HB2.out.mono hB3.size)⟩
/-- A drop in a disk's rack. -/
theorem disk_drop {w w1 : World} {s rk : Nat} {F : Nat → Prop} {T : Tr FV} {D : Dk} (k : ByteArray) (hs : w.heap[s]? = some (.cells (sumpC D.lim rk D.fused D.steps) 54 (0, 0))) (hr : RackAt w rk T) (hv : Both (FvAt w) T.toL D.L) (hF : ∀ i, F i ↔ i = s ∨ RF rk T i) (ok : DkOk D)
    (hM : Mut (RF rk T) w w1) (ht : ∃ t', RackAt w1 rk t' ∧ t'.toL = del k T.toL ∧ ∀ i, RF rk t' i → RF rk T i) : ∃ F', SumpAt w1 s F' (D.del k) ∧ ∀ i, F' i → F i ∨ w.heap.size ≤ i := by
  obtain ⟨t', h1, h2, h3⟩ := ht
  have hty : ∀ i, RF rk T i → i < w.heap.size → ∃ cs t, w.heap[i]? = some (.cells cs t (0, 0)) ∧ t ≠ 5 := fun i hi _ => by
    obtain ⟨cs, t, hc, ht⟩ := RF_typed hr i hi
    exact ⟨cs, t, hc, by rcases ht with rfl | rfl <;> decide⟩
  have hns : ¬ RF rk T s := fun e => by
    obtain ⟨cs, t, hc, ht⟩ := RF_typed hr s e
    rw [hs] at hc
    cases hc
    rcases ht with ht | ht <;> exact absurd ht (by decide)
  refine ⟨fun i => i = s ∨ RF rk t' i, ⟨⟨rk, t', hM.blk hs hns, h1, ?_, fun i => Iff.rfl⟩, del_ok ok k⟩, fun i hi => hi.elim (fun e => .inl ((hF i).2 (.inl e))) (fun e => .inl ((hF i).2 (.inr (h3 i e))))⟩
  rw [h2]
  exact (hv.mono (fun _ _ h => h.mut hM hty)).del k
theorem disk_put {w w1 : World} {s rk : Nat} {F : Nat → Prop} {T : Tr FV} {D : Dk} {k : ByteArray} {u : FV} {f : Fl} (hs : w.heap[s]? = some (.cells (sumpC D.lim rk D.fused D.steps) 54 (0, 0))) (hr : RackAt w rk T) (hv : Both (FvAt w) T.toL D.L) (hF : ∀ i, F i ↔ i = s ∨ RF rk T i) (ok : DkOk (D.put k f)) (hu : FvAt w u f)
    (hM : Mut (RF rk T) w w1) (ht : ∃ t', RackAt w1 rk t' ∧ t'.toL = ins k u T.toL ∧ ∀ i, RF rk t' i → RF rk T i ∨ w.heap.size ≤ i) : ∃ F', SumpAt w1 s F' (D.put k f) ∧ ∀ i, F' i → F i ∨ w.heap.size ≤ i := by
  obtain ⟨t', h1, h2, h3⟩ := ht
  have hty : ∀ i, RF rk T i → i < w.heap.size → ∃ cs t, w.heap[i]? = some (.cells cs t (0, 0)) ∧ t ≠ 5 := fun i hi _ => by
    obtain ⟨cs, t, hc, ht⟩ := RF_typed hr i hi
    exact ⟨cs, t, hc, by rcases ht with rfl | rfl <;> decide⟩
  have hns : ¬ RF rk T s := fun e => by
    obtain ⟨cs, t, hc, ht⟩ := RF_typed hr s e
    rw [hs] at hc
    cases hc
    rcases ht with ht | ht <;> exact absurd ht (by decide)
  refine ⟨fun i => i = s ∨ RF rk t' i, ⟨⟨rk, t', hM.blk hs hns, h1, ?_, fun i => Iff.rfl⟩, ok⟩, fun i hi => hi.elim (fun e => .inl ((hF i).2 (.inl e))) (fun e => (h3 i e).elim (fun e => .inl ((hF i).2 (.inr e))) .inr)⟩
  rw [h2]
  exact (hv.mono (fun _ _ h => h.mut hM hty)).ins k (hu.mut hM hty)
end Go.Proofs.YtdooajmgfoobfaaGreatDoor.H
namespace Go.Proofs.YtdooajmgfoobfaaGreatDoor.H
attribute [local go_sem] Oper.semAt_some
open Go.RowKit Go.Shelf Go.Proofs.YtdooajmgfoobfaaGreatDoor.PA Go.Proofs.YtdooajmgfoobfaaGreatDoorW.PrintWords Go.Proofs.YtdooajmgfoobfaaGreatDoorW.PrintLast Go.Proofs.YtdooajmgfoobfaaGreatDoorW.PrintMore
set_option linter.unusedVariables false
set_option linter.unusedSimpArgs false
theorem SumpOut.of {s : Nat} {F : Nat → Prop} {r : Dk × Int} {w W w' : World} {e : Ending} (hb : Mut F w W) (h : SumpOut s F r W e w') : SumpOut s F r w e w' :=
  ⟨h.ret, hb.trans h.mu (fun _ e => e) (fun i e _ => e), by obtain ⟨F', a, b⟩ := h.disk; exact ⟨F', a, fun i hi => (b i hi).imp id (Nat.le_trans hb.size)⟩⟩
theorem SumpAt.few {w : World} {s rk : Nat} {F : Nat → Prop} {D : Dk} {T : Tr FV} (ok : DkOk D) (hv : Both (FvAt w) T.toL D.L) : T.toL.length ≤ 16 := by rw [hv.length]; exact ok.few
theorem drop_none {D : Dk} {k : ByteArray} (h : lk k D.L = none) : D.drop k = (D, 5) := by unfold Dk.drop; rw [h]
theorem drop_down {D : Dk} {k : ByteArray} {f : Fl} (h : lk k D.L = some f) (hs : D.step = none) : D.drop k = (D, 23) := by unfold Dk.drop; rw [h, hs]
theorem drop_ok {D D1 : Dk} {k : ByteArray} {f : Fl} (h : lk k D.L = some f) (hs : D.step = some D1) : D.drop k = (D1.del k, 0) := by unfold Dk.drop; rw [h, hs]
set_option maxRecDepth 100000 in
set_option maxHeartbeats 8000000 in
theorem Drop_disk (w : World) (s : Nat) (F : Nat → Prop) (D : Dk) (k : ByteArray) (h : SumpAt w s F D) :
    Calls Tryz.prog 30 #[.pointer (some ⟨s, 0, none⟩), .string k] w (SumpOut s F (D.drop k) w) := by
  obtain ⟨rk, T, hb, hr, hv, hF⟩ := h.ex
  have hg := Get_calls w rk T k hr
  have d1 : w.cell? ⟨s, 1, none⟩ = some (.pointer (some ⟨rk, 0, none⟩)) := (blk_cell hb 1).trans rfl
  have HS := Aside0.mk h
  rcases hv.lk k with ⟨e1, e2⟩ | ⟨u, f, e1, e2, hu⟩
  · rw [e1] at hg
    have HE := Aside0.mk (drop_none e2)
    clear h hb hr hv hF e1 e2
    simp only [FV.orZero, Option.isSome] at hg
    go_enter Tryz.func30, Tryz.ntmps30
    go_wp2_with (go_at_call 47; refine hg.mono ?_; rintro e w1 ⟨rfl, hb1⟩; have HB1 := Aside0.mk (hb1.alloc hb1.size (.cells #[.slice none 0 0, .int .i64 0] 51)); clear hb1 d1 hg)
    refine bodyPost_ret (v := .int .i64 5) (by simp [results, Tryz.results30, go_sem]) rfl ?_
    rw [HE.out]
    exact ⟨rfl, Mut.of_below HB1.out, F, HS.out.below HB1.out, fun _ h => .inl h⟩
  · rw [e1] at hg
    have HE := Aside0.mk e2
    clear h hb hr hv hF e1 e2 hu
    simp only [FV.orZero, Option.isSome] at hg
    cases hst : D.step with
    | none =>
      have HE2 := Aside0.mk (drop_down HE.out hst)
      have HST := Aside0.mk hst
      clear hst
      go_enter Tryz.func30, Tryz.ntmps30
      go_wp2_with (first
        | (go_at_call 47; refine hg.mono ?_; rintro e w1 ⟨rfl, hb1⟩; have hb2 := hb1.alloc hb1.size (.cells #[.slice u.A u.n u.c, .int .i64 u.s] 51); have HB1 := Aside0.mk hb2; have hcs := step_calls _ s F D (HS.out.below hb2); clear hb1 d1 hg hb2)
        | (go_at_call 50; refine hcs.mono ?_; rintro e w2 ⟨hret, hmu, hdk⟩; rw [HST.out] at hret; simp only [Option.isSome] at hret; subst hret; have HMU := Aside0.mk hmu; have HDK := Aside0.mk (hdk D (.inl ⟨rfl, HST.out⟩)); clear hcs hmu hdk))
      refine bodyPost_ret (v := .int .i64 23) (by simp [results, Tryz.results30, go_sem]) rfl ?_
      rw [HE2.out]
      exact SumpOut.of (Mut.of_below HB1.out) ⟨rfl, HMU.out.mono (fun i e _ => by obtain ⟨rk, T, _, _, _, hF⟩ := HS.out.ex; exact (hF i).2 (.inl e)), F, HDK.out, fun _ h => .inl h⟩
    | some D1 =>
      have HE2 := Aside0.mk (drop_ok HE.out hst)
      have HST := Aside0.mk hst
      clear hst
      go_enter Tryz.func30, Tryz.ntmps30
      go_upto_region 6 with (first
        | (go_at_call 47; refine hg.mono ?_; rintro e w1 ⟨rfl, hb1⟩; have hb2 := hb1.alloc hb1.size (.cells #[.slice u.A u.n u.c, .int .i64 u.s] 51); have HB1 := Aside0.mk hb2; have hcs := step_calls _ s F D (HS.out.below hb2); clear hb1 d1 hg hb2)
        | (go_at_call 50; refine hcs.mono ?_; rintro e w2 ⟨hret, hmu, hdk⟩; rw [HST.out] at hret; simp only [Option.isSome] at hret; subst hret; have HMU := Aside0.mk hmu; have HDK := Aside0.mk (hdk D1 (.inr HST.out)); clear hcs hmu hdk))
      obtain ⟨rk2, T2, hb2, hr2, hv2, hF2⟩ := HDK.out.ex
      have hc := Drop_calls w2 rk2 T2 k hr2 (by have := SumpAt.few (rk := rk2) (w := w2) (s := s) (F := F) HDK.out.ok hv2; omega)
      have d1 : w2.cell? ⟨s, 1, none⟩ = some (.pointer (some ⟨rk2, 0, none⟩)) := (blk_cell hb2 1).trans rfl
      have H2 := Aside0.mk (And.intro hb2 (And.intro hr2 (And.intro hv2 hF2)))
      clear hb2 hr2 hv2 hF2
      go_wp2_with (go_at_call 56; refine hc.mono ?_; rintro e w3 ⟨rfl, hm, ht⟩; have HM3 := Aside0.mk hm; have HT3 := Aside0.mk ht; clear hc hm ht d1)
      refine bodyPost_ret (v := .int .i64 0) (by simp [results, Tryz.results30, go_sem]) rfl ?_
      rw [HE2.out]
      refine SumpOut.of ((Mut.of_below HB1.out).trans (F := F) HMU.out (fun _ e => e) (fun i e _ => (H2.out.2.2.2 i).2 (.inl e))) ⟨rfl, HM3.out.mono (fun i e _ => (H2.out.2.2.2 i).2 (.inr e)), ?_⟩
      exact disk_drop k H2.out.1 H2.out.2.1 H2.out.2.2.1 H2.out.2.2.2 HDK.out.ok HM3.out HT3.out
end Go.Proofs.YtdooajmgfoobfaaGreatDoor.H


