/- tag.Get: the value of a name's first label, or that there is none. -/
import Derived.Test.YtkclojakmhipnaaTagI
import Derived.Test.YtkclojakmhipnaaTagT
namespace Go.Proofs.Ytkclojakmhipnaa.H
open Go.RowKit Go.Shelf Go.Proofs.Ytkclojakmhipnaa.PA Go.Proofs.YtkclojakmhipnaaW.PrintWords Go.Proofs.YtkclojakmhipnaaW.PrintLast Go.Proofs.YtkclojakmhipnaaW.PrintMore
attribute [local go_sem] Oper.semAt_some
set_option linter.unusedVariables false
def hasName (name : ByteArray) (x : S33) : Bool := x.f0.data.toList == name.data.toList
def getR (l : List S33) (name : ByteArray) : ByteArray × Int := match l.find? (hasName name) with
  | some x => (x.f1, 0)
  | none => (⟨#[]⟩, 5)

set_option maxRecDepth 100000 in
set_option maxHeartbeats 4000000 in
theorem get_calls (m : ByteArray) (A : Option Addr) (c : Nat) (l : List S33) (name : ByteArray) (w : World) (hC : Kd.C k33 w A l.length l) :
    Calls Try.prog 17 #[.agg #[.string m, .slice A l.length c], .string name] w fun e w' => e = .returned (.tuple #[.string (getR l name).1, .int .i64 (getR l name).2]) ∧ Below w.heap.size w w' := by
  have huS := Try.underlying26
  have HC := Aside0.mk hC
  have HBK := Aside0.mk (C_blk hC (by decide))
  clear hC
  refine (callsIn_wide (n := 6)).1 ?_
  refine callsIn_of_wp_marks Try.func17 rfl trivial ?_ rfl
  simp only [Try.ntmps17, List.size_toArray, List.length_cons, List.length_nil, Nat.reduceAdd, Nat.reduceSub, Array.replicate_succ, Array.replicate_zero, List.push_toArray, List.append_toArray, List.nil_append, List.cons_append]
  gi_wp2_with fail
  refine ⟨trivial, ?_⟩
  gi_at_call 18
  refine (callsIn_wide.2 (all_calls m A l.length c _)).mono ?_
  rintro e w4 ⟨rfl, rfl⟩
  gi_wp2_with fail
  obtain ⟨w1, hw1⟩ : ∃ w1, w.alloc (.cells #[.string m, .slice A l.length c] 26) = w1 := ⟨_, rfl⟩
  have s1 : w1.heap.size = w.heap.size + 1 := by rw [← hw1]; simp
  have b1 : Below w.heap.size w w1 := by rw [← hw1]; exact (Below.refl _ w).alloc (Nat.le_refl _) _
  rw [hw1]
  have bx1 : Boxed (w1.alloc (.cells #[.string name] 9)) (w.heap.size + 1) 9 (.string name) := by rw [← s1]; exact Boxed.new w1 _ _
  obtain ⟨w2, hw2⟩ : ∃ w2, w1.alloc (.cells #[.string name] 9) = w2 := ⟨_, rfl⟩
  have s2 : w2.heap.size = w.heap.size + 2 := by rw [← hw2]; simp; omega
  have b2 : Below w.heap.size w w2 := by rw [← hw2]; exact b1.alloc (by omega) _
  rw [hw2] at bx1 ⊢
  have bx2 : Boxed (w2.alloc (.cells #[.string ⟨#[]⟩] 9)) (w.heap.size + 2) 9 (.string ⟨#[]⟩) := by rw [← s2]; exact Boxed.new w2 _ _
  replace bx1 := bx1.alloc (.cells #[.string ⟨#[]⟩] 9)
  obtain ⟨w3, hw3⟩ : ∃ w3, w2.alloc (.cells #[.string ⟨#[]⟩] 9) = w3 := ⟨_, rfl⟩
  have s3 : w3.heap.size = w.heap.size + 3 := by rw [← hw3]; simp; omega
  have b3 : Below w.heap.size w w3 := by rw [← hw3]; exact b2.alloc (by omega) _
  rw [hw3] at bx1 bx2 ⊢
  have bx3 : Boxed (w3.alloc (.cells #[.int .i64 0] 27)) (w.heap.size + 3) 27 (.int .i64 0) := by rw [← s3]; exact Boxed.new w3 _ _
  replace bx1 := bx1.alloc (.cells #[.int .i64 0] 27)
  replace bx2 := bx2.alloc (.cells #[.int .i64 0] 27)
  obtain ⟨w4, hw4⟩ : ∃ w4, w3.alloc (.cells #[.int .i64 0] 27) = w4 := ⟨_, rfl⟩
  have s4 : w4.heap.size = w.heap.size + 4 := by rw [← hw4]; simp; omega
  have b4 : Below w.heap.size w w4 := by rw [← hw4]; exact b3.alloc (by omega) _
  rw [hw4] at bx1 bx2 bx3 ⊢
  replace bx1 := bx1.alloc (.cells #[.string m, .slice A l.length c] 26)
  replace bx2 := bx2.alloc (.cells #[.string m, .slice A l.length c] 26)
  replace bx3 := bx3.alloc (.cells #[.string m, .slice A l.length c] 26)
  have hA : (w4.alloc (.cells #[.string m, .slice A l.length c] 26)).heap[w.heap.size + 4]? = some (.cells #[.string m, .slice A l.length c] 26 (0, 0)) := by
    rw [← s4]; exact World.alloc_heap_new w4 _
  obtain ⟨w5, hw5⟩ : ∃ w5, w4.alloc (.cells #[.string m, .slice A l.length c] 26) = w5 := ⟨_, rfl⟩
  have s5 : w5.heap.size = w.heap.size + 5 := by rw [← hw5]; simp; omega
  have b5 : Below w.heap.size w w5 := by rw [← hw5]; exact b4.alloc (by omega) _
  rw [hw5] at bx1 bx2 bx3 hA ⊢
  have hC5 : Kd.C k33 w5 A l.length l := Kd.C_below HC.out b5
  clear hw1 hw2 hw3 hw4 hw5 s1 s2 s3 s4 b1 b2 b3 b4
  rw [show w.heap.size + 1 + 1 = w.heap.size + 2 from rfl, show w.heap.size + 2 + 1 = w.heap.size + 3 from rfl, show w.heap.size + 3 + 1 = w.heap.size + 4 from rfl]
  have hall := all_stops (fun x : S33 => x) Fence.wide (6 - 1) trivial rfl (by omega) (w.heap.size + 4) w.heap.size m A c l w5 (by omega) (by omega) (by rw [Lib.cell_of_heap hA]; rfl) (by rw [Lib.cell_of_heap hA]; rfl) (by rw [List.map_id']; exact hC5) HBK.out
  refine wpIn_rangeFunc_ownF (F := Fence.wide) (n := 6) rfl (by omega) (gf := 32) (lb := #[.pointer (some ⟨w.heap.size + 4, 0, none⟩)]) rfl trivial (enters_of Try.func32 (by kernel_rfl) rfl)
    hall
    belowK_t (belowK_b (by omega)) (Below.refl _ _) (fun _ => rfl)
    (fun pre W => (pre.all (fun x => !hasName name x) = true ∧ (Boxed W (w.heap.size + 1) 9 (.string name) ∧ Boxed W (w.heap.size + 2) 9 (.string ⟨#[]⟩)) ∧ Boxed W (w.heap.size + 3) 27 (.int .i64 0)) ∧ Below w.heap.size w W)
    (fun cd pre W => (cd = .ret ∧ ∃ p x, pre = p ++ [x] ∧ p.all (fun x => !hasName name x) = true ∧ hasName name x = true ∧ Boxed W (w.heap.size + 2) 9 (.string x.f1) ∧ Boxed W (w.heap.size + 3) 27 (.int .i64 0)) ∧ Below w.heap.size w W)
    (OwnFrom.and (Own.from (fun s A B row hs hg hr => ⟨hs.1, ⟨boxed_own _ _ (fun _ : List S33 => .string name) s A B row hs.2.1.1 hg hr, boxed_own _ _ (fun _ : List S33 => .string ⟨#[]⟩) s A B row hs.2.1.2 hg hr⟩, boxed_own _ _ (fun _ : List S33 => .int .i64 0) s A B row hs.2.2 hg hr⟩) _) (ownFrom_below (Nat.le_refl _) (by omega)))
    (fun _ => OwnFrom.and (Own.from (fun s A B row hs hg hr => by
      obtain ⟨h1, p, x, h2, h3, h4, h5, h6⟩ := hs
      exact ⟨h1, p, x, h2, h3, h4, boxed_own _ _ (fun _ : List S33 => .string x.f1) s A B row h5 hg hr, boxed_own _ _ (fun _ : List S33 => .int .i64 0) s A B row h6 hg hr⟩) _) (ownFrom_below (Nat.le_refl _) (by omega)))
    ⟨⟨rfl, ⟨bx1, bx2⟩, bx3⟩, b5⟩
    (fun x => { tmps := #[.agg #[.string m, .slice A l.length c], .string name, .pointer (some ⟨w.heap.size, 0, none⟩), .pointer (some ⟨w.heap.size + 1, 0, none⟩), .pointer (some ⟨w.heap.size + 2, 0, none⟩), .pointer (some ⟨w.heap.size + 3, 0, none⟩), .string x.f0, .string x.f1, .agg #[.string m, .slice A l.length c], .func (.func 32) #[] #[.pointer (some ⟨w.heap.size + 4, 0, none⟩)], .string x.f0, .string x.f1, undef, undef, undef, undef], defers := [] }) ?assign ?body ?done ?stop
  case assign =>
    intro lp x W K hK
    gi_wp2
    exact hK
  case body =>
    rintro lp pre x W ⟨⟨hp, ⟨hx1, hx2⟩, hx3⟩, hbe⟩ hlen
    have hc1 := hx1.cell
    have hc2 := hx2.cell
    have hf2 := hx2.frozen
    have hc3 := hx3.cell
    have hf3 := hx3.frozen
    have HP := Aside0.mk hp
    have HX1 := Aside0.mk hx1
    have HX2 := Aside0.mk hx2
    have HX3 := Aside0.mk hx3
    have Hbe := Aside0.mk hbe
    clear hp hx1 hx2 hx3 hbe
    by_cases hn : hasName name x = true
    · have hd : (x.f0.toList == name.toList) = true := by rw [Lib.toList_data, Lib.toList_data]; exact hn
      gi_wp2
      refine ⟨(KeepsOthers.setCell _ _ _).trans (KeepsOthers.setCell _ _ _), ⟨rfl, pre, x, rfl, HP.out, hn, (HX2.out.set _).other (by omega) _, (HX3.out.other (by omega) _).set _⟩, (Hbe.out.setCell (p := ⟨w.heap.size + 2, 0, none⟩) (by simp only; omega) _).setCell (p := ⟨w.heap.size + 3, 0, none⟩) (by simp only; omega) _⟩
    · have hd : (x.f0.toList == name.toList) = false := by rw [Lib.toList_data, Lib.toList_data]; exact Bool.eq_false_iff.2 hn
      gi_wp2
      refine ⟨KeepsOthers.refl _, Below.refl _ _, ⟨⟨?_, ⟨HX1.out, HX2.out⟩, HX3.out⟩, Hbe.out⟩⟩
      rw [List.all_append, HP.out]
      simp [Bool.eq_false_iff.2 hn]
  case done =>
    rintro D xs W hD rfl ⟨⟨hp, ⟨hx1, hx2⟩, hx3⟩, hbe⟩ hK
    have hc2 := hx2.cell
    have hf2 := hx2.frozen
    have hc3 := hx3.cell
    have hf3 := hx3.frozen
    have HX2 := Aside0.mk hx2
    have HX3 := Aside0.mk hx3
    have Hbe := Aside0.mk hbe
    have HK := Aside0.mk hK
    clear hx1 hx2 hx3 hbe hK
    gi_wp2
    have HK2 := Aside0.mk (((KeepsOthers.setCell W ⟨w.heap.size + 2, 0, none⟩ (.string ⟨#[]⟩)).trans (KeepsOthers.setCell _ ⟨w.heap.size + 3, 0, none⟩ (.int .i64 5))).same D _ HK.out rfl)
    have G2 := Aside0.mk ((HX2.out.set (.string ⟨#[]⟩)).other (B' := w.heap.size + 3) (by omega) (.int .i64 5))
    have G3 := Aside0.mk ((HX3.out.other (B' := w.heap.size + 2) (by omega) (.string ⟨#[]⟩)).set (.int .i64 5))
    refine ⟨by simp, .inl ⟨_, _, rfl, run_takeDeferred HK2.out, ?_⟩⟩
    have B6 := Aside0.mk (((Hbe.out.setCell (p := ⟨w.heap.size + 2, 0, none⟩) (by simp only; omega) (.string ⟨#[]⟩)).setCell (p := ⟨w.heap.size + 3, 0, none⟩) (by simp only; omega) (.int .i64 5)).trans (belowK_b (w := w5) (by omega) _ D _ (.deferred none) hD HK2.out rfl rfl))
    have e2 := (G2.out.kept (grownBy_putObj' _ D (.deferred none)) (fun e => by cases e; omega)).cell
    have e3 := (G3.out.kept (grownBy_putObj' _ D (.deferred none)) (fun e => by cases e; omega)).cell
    have hr : getR xs name = (⟨#[]⟩, 5) := by
      unfold getR
      rw [List.find?_eq_none.2 (fun x hx => by have := List.all_eq_true.1 hp x hx; simpa using this)]
    rw [hr]
    exact ⟨.tuple #[.string ⟨#[]⟩, .int .i64 5], by simp [results, Try.results17, go_sem, e2, e3], rfl, B6.out⟩
  case stop =>
    rintro D cd pre W hD hpre ⟨⟨rfl, p, x, rfl, hp, hn, hx2, hx3⟩, hbe⟩ hK
    have HX2 := Aside0.mk hx2
    have HX3 := Aside0.mk hx3
    have Hbe := Aside0.mk hbe
    have HK := Aside0.mk hK
    clear hx2 hx3 hbe hK
    gi_wp2
    refine ⟨by simp, .inl ⟨_, _, rfl, run_takeDeferred HK.out, ?_⟩⟩
    have B6 := Aside0.mk (Hbe.out.trans (belowK_b (w := w5) (by omega) _ D _ (.deferred none) hD HK.out rfl rfl))
    have e2 := (HX2.out.kept (grownBy_putObj' _ D (.deferred none)) (fun e => by cases e; omega)).cell
    have e3 := (HX3.out.kept (grownBy_putObj' _ D (.deferred none)) (fun e => by cases e; omega)).cell
    have hr : getR l name = (x.f1, 0) := by
      obtain ⟨t, rfl⟩ := hpre
      unfold getR
      rw [List.append_assoc, List.find?_append, List.find?_eq_none.2 (fun y hy => by have := List.all_eq_true.1 hp y hy; simpa using this)]
      simp [hn]
    rw [hr]
    exact ⟨.tuple #[.string x.f1, .int .i64 0], by simp [results, Try.results17, go_sem, e2, e3], rfl, B6.out⟩
-- EXT tidemill/tag.Get plain making
end Go.Proofs.Ytkclojakmhipnaa.H
