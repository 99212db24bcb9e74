/- fix.Sum over whatever goes through some numbers; fix.same, slices.Values at whole numbers; fix.Times. -/
import Derived.Test.YtiddemgeehcjpaaDoorFxE
import Derived.RangeFuncNested
import Derived.RangeFuncBound
import Derived.RangeFuncCalls
import Derived.RangeFuncLeaves
import Derived.Shelf.Abstract
import Derived.Shelf.RegionOpen
import Derived.WalkKit
import Derived.OwnWalkIn
import Derived.TacticsInMore
import Derived.LoopNIn
import Derived.LoopIn
import Derived.RangeFuncBox
import Derived.Sort.QuietTacIn
import Derived.Outline
namespace Go.Proofs.YtiddemgeehcjpaaDoor.H
open Go.RowKit Go.Shelf Go.Proofs.YtiddemgeehcjpaaDoor.PA Go.Proofs.YtiddemgeehcjpaaDoorW.PrintWords Go.Proofs.YtiddemgeehcjpaaDoorW.PrintLast Go.Proofs.YtiddemgeehcjpaaDoorW.PrintMore
attribute [local go_sem] Oper.semAt_some
set_option linter.unusedVariables false

/-- The sums, one after the other. -/
def stepA (p : Int × Bool) (n : Int) : Int × Bool := ((satA p.1 n).1, p.2 || (satA p.1 n).2)
def sumA (l : List Int) : Int × Bool := l.foldl stepA (0, false)
theorem sumA_snoc (l : List Int) (x : Int) : sumA (l ++ [x]) = stepA (sumA l) x := by unfold sumA; rw [List.foldl_append]; rfl
theorem foldA_i64 (l : List Int) : ∀ p : Int × Bool, i64 p.1 → i64 (l.foldl stepA p).1 := by
  induction l with
  | nil => intro p h; exact h
  | cons x l ih => intro p _; rw [List.foldl_cons]; exact ih _ (satA_i64 p.1 x)
theorem sumA_i64 (l : List Int) : i64 (sumA l).1 := foldA_i64 l _ (by unfold i64; decide)

abbrev I64 := { x : Int // i64 x }
set_option maxRecDepth 100000 in
set_option maxHeartbeats 4000000 in
/-- fix.Sum over an iterator that goes through l. -/
theorem sum_calls (gf : FuncId) (lb : Array Value) (hen : ∀ args w, (callFunc gf args).run Tryd.prog w = .ok (.enter gf args) w) (l : List I64) (w : World)
    (hall : ∀ w1, Below w.heap.size w w1 → SeqStopsK Fence.wide (6 - 1) Tryd.prog gf lb (fun y : I64 => #[Value.int .i64 y.1]) (Below w.heap.size) (fun ys => ys = l) (fun pre => pre <+: l) l.length w1) :
    Calls Tryd.prog 20 #[.func (.func gf) #[] lb] w fun e w' => e = .returned (.tuple #[.int .i64 (sumA (l.map (·.1))).1, .bool (sumA (l.map (·.1))).2]) ∧ Below w.heap.size w w' := by
  refine (callsIn_wide (n := 6)).1 ?_
  refine callsIn_of_wp_marks Tryd.func20 rfl trivial ?_ rfl
  simp only [Tryd.ntmps20, List.size_toArray, List.length_cons, List.length_nil, Nat.reduceAdd, Nat.reduceSub, Array.replicate_succ, Array.replicate_zero, List.push_toArray, List.append_toArray, List.nil_append, List.cons_append]
  gi_wp2_with fail
  have bx1 : Boxed ((w.alloc (.cells #[.int .i64 0] 3)).alloc (.cells #[.bool false] 4)) w.heap.size 3 (.int .i64 (sumA (([] : List I64).map (·.1))).1) := (Boxed.new w 3 _).alloc _
  have bx2 : Boxed ((w.alloc (.cells #[.int .i64 0] 3)).alloc (.cells #[.bool false] 4)) (w.heap.size + 1) 4 (.bool (sumA (([] : List I64).map (·.1))).2) := by
    have := Boxed.new (w.alloc (.cells #[.int .i64 0] 3)) 4 (.bool false)
    rwa [World.size_alloc] at this
  have b2 : Below w.heap.size w ((w.alloc (.cells #[.int .i64 0] 3)).alloc (.cells #[.bool false] 4)) := ((Below.refl _ w).alloc (Nat.le_refl _) _).alloc (by simp) _
  have s2 : ((w.alloc (.cells #[.int .i64 0] 3)).alloc (.cells #[.bool false] 4)).heap.size = w.heap.size + 2 := by simp
  generalize (w.alloc (.cells #[.int .i64 0] 3)).alloc (.cells #[.bool false] 4) = w2 at bx1 bx2 b2 s2 ⊢
  refine wpIn_rangeFunc_ownF (F := Fence.wide) (n := 6) rfl (by omega) (gf := gf) (lb := lb) rfl trivial hen
    (hall w2 b2)
    belowK_t (belowK_b (by omega)) (Below.refl _ _) (fun _ => rfl)
    (fun pre W => (Boxed W w.heap.size 3 (.int .i64 (sumA (pre.map (·.1))).1) ∧ Boxed W (w.heap.size + 1) 4 (.bool (sumA (pre.map (·.1))).2)) ∧ Below w.heap.size w W)
    (fun _ _ _ => False)
    (OwnFrom.and (Own.from (fun s A B row hs hg hr => ⟨boxed_own _ _ (fun pre : List I64 => .int .i64 (sumA (pre.map (·.1))).1) s A B row hs.1 hg hr, boxed_own _ _ (fun pre : List I64 => .bool (sumA (pre.map (·.1))).2) s A B row hs.2 hg hr⟩) _) (ownFrom_below (Nat.le_refl _) (by omega)))
    (fun _ _ _ _ _ hs _ _ => hs)
    ⟨⟨bx1, bx2⟩, b2⟩
    (fun x => { tmps := #[.func (.func gf) #[] lb, undef, .int .i64 0, .bool false, .pointer (some ⟨w.heap.size, 0, none⟩), .pointer (some ⟨w.heap.size + 1, 0, none⟩), .int .i64 x.1, undef, undef, .func (.func gf) #[] lb, .int .i64 x.1, undef, undef, undef, undef, undef, undef, undef, undef, undef, undef, undef, undef, undef], defers := [] }) ?assign ?body ?done ?stop
  case assign =>
    intro lp x W K hK
    gi_wp2
    exact hK
  case body =>
    rintro lp pre ⟨x, hx⟩ W ⟨⟨hx1, hx2⟩, hbe⟩ hlen
    dsimp only
    have hm : (pre ++ [(⟨x, hx⟩ : I64)]).map (·.1) = pre.map (·.1) ++ [x] := by rw [List.map_append]; rfl
    have hi := sumA_i64 (pre.map (·.1))
    have hst := sumA_snoc (pre.map (·.1)) x
    rw [← hm] at hst
    obtain ⟨s, es⟩ : ∃ s, (sumA (pre.map (·.1))).1 = s := ⟨_, rfl⟩
    obtain ⟨o, eo⟩ : ∃ s, (sumA (pre.map (·.1))).2 = s := ⟨_, rfl⟩
    rw [es] at hx1 hi
    rw [eo] at hx2
    unfold stepA at hst
    rw [es, eo] at hst
    obtain ⟨s', o', ea⟩ : ∃ s' o', satA s x = (s', o') := ⟨_, _, rfl⟩
    rw [ea] at hst
    have hadd := fun W => fix_Add.calls 1 s x s' o' W (by rw [fixAdd_eq 0 s x hi hx, ea])
    have hc1 := hx1.cell
    have HX1 := Aside0.mk hx1
    have HX2 := Aside0.mk hx2
    have Hbe := Aside0.mk hbe
    have HST := Aside0.mk hst
    clear hx1 hx2 hbe hst ea es eo hm hi
    gi_wp2_with fail
    refine ⟨trivial, ?_⟩
    gi_at_call 17
    refine (CallsIn.inRound lp (callsIn_wide.2 (hadd W))).mono ?_
    rintro e Wd ⟨rfl, hd⟩
    have hheap : Wd.heap = W.heap := by obtain ⟨n, rfl⟩ := hd; exact World.heap_drewN _ _
    have hgd : W.grownBy Wd none := by obtain ⟨n, rfl⟩ := hd; exact ⟨rfl, rfl, rfl, Nat.le_refl _, fun _ _ _ => rfl⟩
    have HBD := Aside0.mk (show Below w.heap.size W Wd by obtain ⟨n, rfl⟩ := hd; exact pw_below_drewN (Below.refl _ _) _)
    have HKD := Aside0.mk (show KeepsOthers W Wd from ⟨by rw [hheap]; exact Nat.le_refl _, fun k o h _ => by rw [hheap]; exact h⟩)
    have HX1d := Aside0.mk (HX1.out.kept hgd (by simp))
    have HX2d := Aside0.mk (HX2.out.kept hgd (by simp))
    have hk2 := HX2d.out.cell
    have hf1 := HX1d.out.frozen
    have hf2 := HX2d.out.frozen
    have hk1 := HX1d.out.cell
    clear hheap hgd hd hadd hc1 HX1 HX2
    cases o with
    | false =>
      gi_wp2
      refine ⟨HKD.out.trans ((KeepsOthers.setCell _ _ _).trans (KeepsOthers.setCell _ _ _)), (HBD.out.setCell (p := ⟨w.heap.size, 0, none⟩) (by simp only; omega) _).setCell (p := ⟨w.heap.size + 1, 0, none⟩) (by simp only; omega) _, ⟨⟨?_, ?_⟩, ((Hbe.out.trans HBD.out).setCell (p := ⟨w.heap.size, 0, none⟩) (by simp only; omega) _).setCell (p := ⟨w.heap.size + 1, 0, none⟩) (by simp only; omega) _⟩⟩
      · rw [HST.out]
        exact (HX1d.out.set _).other (by omega) _
      · rw [HST.out]
        exact (HX2d.out.other (by omega) _).set _
    | true =>
      gi_wp2
      refine ⟨HKD.out.trans ((KeepsOthers.setCell _ _ _).trans (KeepsOthers.setCell _ _ _)), (HBD.out.setCell (p := ⟨w.heap.size, 0, none⟩) (by simp only; omega) _).setCell (p := ⟨w.heap.size + 1, 0, none⟩) (by simp only; omega) _, ⟨⟨?_, ?_⟩, ((Hbe.out.trans HBD.out).setCell (p := ⟨w.heap.size, 0, none⟩) (by simp only; omega) _).setCell (p := ⟨w.heap.size + 1, 0, none⟩) (by simp only; omega) _⟩⟩
      · rw [HST.out]
        exact (HX1d.out.set _).other (by omega) _
      · rw [HST.out]
        exact (HX2d.out.other (by omega) _).set _
  case done =>
    rintro D xs W hD rfl ⟨⟨hx1, hx2⟩, hbe⟩ hK
    have hc1 := hx1.cell
    have hc2 := hx2.cell
    have Hbe := Aside0.mk hbe
    have HK := Aside0.mk hK
    clear hx1 hx2 hbe hK
    gi_wp2
    gi_quiet_th (fail)
    gi_wp2
    have HKd := Aside0.mk (show (W.drewN nq).heap[D]? = some (.deferred (some [])) by rw [World.heap_drewN]; exact HK.out)
    refine ⟨by simp, .inl ⟨_, _, rfl, run_takeDeferred HKd.out, ?_⟩⟩
    exact ⟨.tuple #[.int .i64 (sumA (xs.map (·.1))).1, .bool (sumA (xs.map (·.1))).2], by simp [results, Tryd.results20, go_sem], rfl, (pw_below_drewN Hbe.out nq).trans (belowK_b (w := w2) (by omega) _ D _ (.deferred none) hD HKd.out rfl rfl)⟩
  case stop =>
    rintro D cd pre W _ _ h _
    exact h.elim

set_option maxRecDepth 100000 in
set_option maxHeartbeats 2000000 in
theorem values_callsI (A : Option Addr) (n c : Nat) (w : World) :
    Calls Tryd.prog 21 #[.slice A n c] w fun e w' => e = .returned (.func (.func 52) #[] #[.pointer (some ⟨w.heap.size, 0, none⟩)]) ∧ w' = w.alloc (.cells #[.slice A n c] 34) := by
  go_enter Tryd.func21, Tryd.ntmps21
  go_wp2
  go_ret
  exact ⟨rfl, rfl⟩
end Go.Proofs.YtiddemgeehcjpaaDoor.H
