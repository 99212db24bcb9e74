/- fix.Sum over whatever goes through some numbers; fix.same, slices.Values at whole numbers; fix.Times. -/
import Derived.Test.YtiddemgeehcjpaaDoorFxE
import Derived.RangeFuncNested
import Derived.RangeFuncBound
import Derived.RangeFuncCalls
import Derived.RangeFuncLeaves
import Derived.Shelf.Abstract
import Derived.Shelf.RegionOpen
import Derived.WalkKit
import Derived.OwnWalkIn
import Derived.TacticsInMore
import Derived.LoopNIn
import Derived.LoopIn
import Derived.RangeFuncBox
import Derived.Sort.QuietTacIn
import Derived.Outline
namespace Go.Proofs.YtiddemgeehcjpaaDoor.H
open Go.RowKit Go.Shelf Go.Proofs.YtiddemgeehcjpaaDoor.PA Go.Proofs.YtiddemgeehcjpaaDoorW.PrintWords Go.Proofs.YtiddemgeehcjpaaDoorW.PrintLast Go.Proofs.YtiddemgeehcjpaaDoorW.PrintMore
attribute [local go_sem] Oper.semAt_some
set_option linter.unusedVariables false

/-- The sums, one after the other. -/
def stepA (p : Int × Bool) (n : Int) : Int × Bool := ((satA p.1 n).1, p.2 || (satA p.1 n).2)
def sumA (l : List Int) : Int × Bool := l.foldl stepA (0, false)
theorem sumA_snoc (l : List Int) (x : Int) : sumA (l ++ [x]) = stepA (sumA l) x := by unfold sumA; rw [List.foldl_append]; rfl
theorem foldA_i64 (l : List Int) : ∀ p : Int × Bool, i64 p.1 → i64 (l.foldl stepA p).1 := by
  induction l with
  | nil => intro p h; exact h
  | cons x l ih => intro p _; rw [List.foldl_cons]; exact ih _ (satA_i64 p.1 x)
theorem sumA_i64 (l : List Int) : i64 (sumA l).1 := foldA_i64 l _ (by unfold i64; decide)

abbrev I64 := { x : Int // i64 x }
set_option maxRecDepth 100000 in
set_option maxHeartbeats 2000000 in
/-- fix.same's closure: a number, so many times. -/
theorem same1_in (F : Fence) (n : Nat) (hF : F.fn 87) (hro : F.round = none) (hn : 1 ≤ n) (lp Bk Bn n₀ : Nat) (k : Nat) (hk : k ≤ 1000000) (x : I64) (J Jx : List I64 → World → Prop)
    (hY : ∀ pre y W, J pre W → pre.length < k → YieldAt F (n - 1) Tryd.prog lp #[.int .i64 y.1] W fun e W' =>
      (e = .returned (.bool true) ∧ J (pre ++ [y]) W' ∧ Below n₀ W W') ∨ (e = .returned (.bool false) ∧ Jx (pre ++ [y]) W'))
    (W : World) (hBn : Bn < n₀) (hB1 : W.cell? ⟨Bk, 0, none⟩ = some (.int .i64 (k : Int))) (hB2 : W.cell? ⟨Bn, 0, none⟩ = some (.int .i64 x.1)) (h0 : J [] W) :
    CallsIn F n Tryd.prog 87 #[.func (.yield lp) #[] #[], .pointer (some ⟨Bk, 0, none⟩), .pointer (some ⟨Bn, 0, none⟩)] W fun e W' => (∃ v, e = .returned v) ∧
      (J (List.replicate k x) W' ∨ ∃ pre, pre <+: List.replicate k x ∧ Jx pre W') := by
  refine callsIn_of_wp Tryd.func87 rfl hF ?_ hro
  simp only [Tryd.ntmps87, List.size_toArray, List.length_cons, List.length_nil, Nat.reduceAdd, Nat.reduceSub, Array.replicate_succ, Array.replicate_zero, List.push_toArray, List.append_toArray, List.nil_append, List.cons_append]
  gi_wp2
  gi_loopw [5, 6, 7, 8, 9, 10, 11] (fun i _ _ _ _ _ _ wr => ∃ j : Nat, j ≤ k ∧ i = .int .i64 j ∧ J (List.replicate j x) wr ∧ Below n₀ W wr)
    (fun i _ _ _ _ _ _ _ => k - (intOf i).toNat)
  case atStart => exact ⟨0, Nat.zero_le _, rfl, h0, Below.refl _ _⟩
  case round =>
    obtain ⟨j, hj, rfl, hJs, hnx⟩ := hrel
    by_cases hlt : j < k
    · have hc := (hnx.cell (p := ⟨Bn, 0, none⟩) hBn).trans hB2
      obtain ⟨fn, tmps, assign, body, hy, hR⟩ := hY _ x _ hJs (by rw [List.length_replicate]; exact hlt)
      gi_wp2
      refine hR.mono ?_
      rintro e W3 (⟨rfl, hJ3, hk3⟩ | ⟨rfl, hJx3⟩)
      · gi_wp2
        go_roundw
        case rel => exact ⟨j + 1, by omega, by simp, by rw [List.replicate_succ']; exact hJ3, hnx.trans hk3⟩
        case measure => simp [intOf]; omega
      · gi_wp2
        refine bodyPost_ret (results_none rfl _ _ _) rfl ?_
        exact ⟨⟨_, rfl⟩, .inr ⟨_, by
          rw [← List.replicate_succ']
          refine ⟨List.replicate (k - (j + 1)) x, ?_⟩
          rw [List.replicate_append_replicate, show j + 1 + (k - (j + 1)) = k by omega], hJx3⟩⟩
    · obtain rfl : j = k := by omega
      gi_wp2
      go_end0
      exact ⟨⟨_, rfl⟩, .inl hJs⟩
theorem same_stops (F : Fence) (n : Nat) (hF : F.fn 87) (hro : F.round = none) (hn : 1 ≤ n) (Bk Bn n₀ : Nat) (k : Nat) (hk : k ≤ 1000000) (x : I64) (w : World) (hBk : Bk < w.heap.size) (hBn : Bn < w.heap.size) (hBn0 : Bn < n₀) 
    (hB1 : w.cell? ⟨Bk, 0, none⟩ = some (.int .i64 (k : Int))) (hB2 : w.cell? ⟨Bn, 0, none⟩ = some (.int .i64 x.1)) :
    SeqStopsK F n Tryd.prog 87 #[.pointer (some ⟨Bk, 0, none⟩), .pointer (some ⟨Bn, 0, none⟩)] (fun y : I64 => #[Value.int .i64 y.1]) (Below n₀) (fun ys => ys = List.replicate k x) (fun pre => pre <+: List.replicate k x) k w := fun lp J Jx W hW hJ _ hY h0 => by
  refine (same1_in F n hF hro hn lp Bk Bn n₀ k hk x J Jx hY W hBn0 ((hW.cell (p := ⟨Bk, 0, none⟩) hBk).trans hB1) ((hW.cell (p := ⟨Bn, 0, none⟩) hBn).trans hB2) h0).mono ?_
  rintro e W' ⟨he, hj | ⟨pre, hp, hj⟩⟩
  · exact ⟨he, .inl ⟨_, rfl, hj⟩⟩
  · exact ⟨he, .inr ⟨_, hp, hj⟩⟩
set_option maxHeartbeats 1000000 in
theorem same_calls (x k : Int) (w : World) :
    Calls Tryd.prog 53 #[.int .i64 x, .int .i64 k] w fun e w' => e = .returned (.func (.func 87) #[] #[.pointer (some ⟨w.heap.size + 1, 0, none⟩), .pointer (some ⟨w.heap.size, 0, none⟩)]) ∧ w' = (w.alloc (.cells #[.int .i64 x] 3)).alloc (.cells #[.int .i64 k] 3) := by
  go_enter Tryd.func53, Tryd.ntmps53
  go_wp2
  go_ret
  exact ⟨rfl, rfl⟩

set_option maxRecDepth 100000 in
set_option maxHeartbeats 4000000 in
/-- fix.Sum over an iterator that goes through l. -/
theorem sum_calls (gf : FuncId) (lb : Array Value) (hen : ∀ args w, (callFunc gf args).run Tryd.prog w = .ok (.enter gf args) w) (l : List I64) (w : World)
    (hall : ∀ w1, Below w.heap.size w w1 → SeqStopsK Fence.wide (6 - 1) Tryd.prog gf lb (fun y : I64 => #[Value.int .i64 y.1]) (Below w.heap.size) (fun ys => ys = l) (fun pre => pre <+: l) l.length w1) :
    Calls Tryd.prog 20 #[.func (.func gf) #[] lb] w fun e w' => e = .returned (.tuple #[.int .i64 (sumA (l.map (·.1))).1, .bool (sumA (l.map (·.1))).2]) ∧ Below w.heap.size w w' := by
  refine (callsIn_wide (n := 6)).1 ?_
  refine callsIn_of_wp_marks Tryd.func20 rfl trivial ?_ rfl
  simp only [Tryd.ntmps20, List.size_toArray, List.length_cons, List.length_nil, Nat.reduceAdd, Nat.reduceSub, Array.replicate_succ, Array.replicate_zero, List.push_toArray, List.append_toArray, List.nil_append, List.cons_append]
  gi_wp2_with fail
  have bx1 : Boxed ((w.alloc (.cells #[.int .i64 0] 3)).alloc (.cells #[.bool false] 4)) w.heap.size 3 (.int .i64 (sumA (([] : List I64).map (·.1))).1) := (Boxed.new w 3 _).alloc _
  have bx2 : Boxed ((w.alloc (.cells #[.int .i64 0] 3)).alloc (.cells #[.bool false] 4)) (w.heap.size + 1) 4 (.bool (sumA (([] : List I64).map (·.1))).2) := by
    have := Boxed.new (w.alloc (.cells #[.int .i64 0] 3)) 4 (.bool false)
    rwa [World.size_alloc] at this
  have b2 : Below w.heap.size w ((w.alloc (.cells #[.int .i64 0] 3)).alloc (.cells #[.bool false] 4)) := ((Below.refl _ w).alloc (Nat.le_refl _) _).alloc (by simp) _
  have s2 : ((w.alloc (.cells #[.int .i64 0] 3)).alloc (.cells #[.bool false] 4)).heap.size = w.heap.size + 2 := by simp
  generalize (w.alloc (.cells #[.int .i64 0] 3)).alloc (.cells #[.bool false] 4) = w2 at bx1 bx2 b2 s2 ⊢
  refine wpIn_rangeFunc_ownF (F := Fence.wide) (n := 6) rfl (by omega) (gf := gf) (lb := lb) rfl trivial hen
    (hall w2 b2)
    belowK_t (belowK_b (by omega)) (Below.refl _ _) (fun _ => rfl)
    (fun pre W => (Boxed W w.heap.size 3 (.int .i64 (sumA (pre.map (·.1))).1) ∧ Boxed W (w.heap.size + 1) 4 (.bool (sumA (pre.map (·.1))).2)) ∧ Below w.heap.size w W)
    (fun _ _ _ => False)
    (OwnFrom.and (Own.from (fun s A B row hs hg hr => ⟨boxed_own _ _ (fun pre : List I64 => .int .i64 (sumA (pre.map (·.1))).1) s A B row hs.1 hg hr, boxed_own _ _ (fun pre : List I64 => .bool (sumA (pre.map (·.1))).2) s A B row hs.2 hg hr⟩) _) (ownFrom_below (Nat.le_refl _) (by omega)))
    (fun _ _ _ _ _ hs _ _ => hs)
    ⟨⟨bx1, bx2⟩, b2⟩
    (fun x => { tmps := #[.func (.func gf) #[] lb, undef, .int .i64 0, .bool false, .pointer (some ⟨w.heap.size, 0, none⟩), .pointer (some ⟨w.heap.size + 1, 0, none⟩), .int .i64 x.1, undef, undef, .func (.func gf) #[] lb, .int .i64 x.1, undef, undef, undef, undef, undef, undef, undef, undef, undef, undef, undef, undef, undef], defers := [] }) ?assign ?body ?done ?stop
  case assign =>
    intro lp x W K hK
    gi_wp2
    exact hK
  case body =>
    rintro lp pre ⟨x, hx⟩ W ⟨⟨hx1, hx2⟩, hbe⟩ hlen
    dsimp only
    have hm : (pre ++ [(⟨x, hx⟩ : I64)]).map (·.1) = pre.map (·.1) ++ [x] := by rw [List.map_append]; rfl
    have hi := sumA_i64 (pre.map (·.1))
    have hst := sumA_snoc (pre.map (·.1)) x
    rw [← hm] at hst
    obtain ⟨s, es⟩ : ∃ s, (sumA (pre.map (·.1))).1 = s := ⟨_, rfl⟩
    obtain ⟨o, eo⟩ : ∃ s, (sumA (pre.map (·.1))).2 = s := ⟨_, rfl⟩
    rw [es] at hx1 hi
    rw [eo] at hx2
    unfold stepA at hst
    rw [es, eo] at hst
    obtain ⟨s', o', ea⟩ : ∃ s' o', satA s x = (s', o') := ⟨_, _, rfl⟩
    rw [ea] at hst
    have hadd := fun W => fix_Add.calls 1 s x s' o' W (by rw [fixAdd_eq 0 s x hi hx, ea])
    have hc1 := hx1.cell
    have HX1 := Aside0.mk hx1
    have HX2 := Aside0.mk hx2
    have Hbe := Aside0.mk hbe
    have HST := Aside0.mk hst
    clear hx1 hx2 hbe hst ea es eo hm hi
    gi_wp2_with fail
    refine ⟨trivial, ?_⟩
    gi_at_call 17
    refine (CallsIn.inRound lp (callsIn_wide.2 (hadd W))).mono ?_
    rintro e Wd ⟨rfl, hd⟩
    have hheap : Wd.heap = W.heap := by obtain ⟨n, rfl⟩ := hd; exact World.heap_drewN _ _
    have hgd : W.grownBy Wd none := by obtain ⟨n, rfl⟩ := hd; exact ⟨rfl, rfl, rfl, Nat.le_refl _, fun _ _ _ => rfl⟩
    have HBD := Aside0.mk (show Below w.heap.size W Wd by obtain ⟨n, rfl⟩ := hd; exact pw_below_drewN (Below.refl _ _) _)
    have HKD := Aside0.mk (show KeepsOthers W Wd from ⟨by rw [hheap]; exact Nat.le_refl _, fun k o h _ => by rw [hheap]; exact h⟩)
    have HX1d := Aside0.mk (HX1.out.kept hgd (by simp))
    have HX2d := Aside0.mk (HX2.out.kept hgd (by simp))
    have hk2 := HX2d.out.cell
    have hf1 := HX1d.out.frozen
    have hf2 := HX2d.out.frozen
    have hk1 := HX1d.out.cell
    clear hheap hgd hd hadd hc1 HX1 HX2
    cases o with
    | false =>
      gi_wp2
      refine ⟨HKD.out.trans ((KeepsOthers.setCell _ _ _).trans (KeepsOthers.setCell _ _ _)), (HBD.out.setCell (p := ⟨w.heap.size, 0, none⟩) (by simp only; omega) _).setCell (p := ⟨w.heap.size + 1, 0, none⟩) (by simp only; omega) _, ⟨⟨?_, ?_⟩, ((Hbe.out.trans HBD.out).setCell (p := ⟨w.heap.size, 0, none⟩) (by simp only; omega) _).setCell (p := ⟨w.heap.size + 1, 0, none⟩) (by simp only; omega) _⟩⟩
      · rw [HST.out]
        exact (HX1d.out.set _).other (by omega) _
      · rw [HST.out]
        exact (HX2d.out.other (by omega) _).set _
    | true =>
      gi_wp2
      refine ⟨HKD.out.trans ((KeepsOthers.setCell _ _ _).trans (KeepsOthers.setCell _ _ _)), (HBD.out.setCell (p := ⟨w.heap.size, 0, none⟩) (by simp only; omega) _).setCell (p := ⟨w.heap.size + 1, 0, none⟩) (by simp only; omega) _, ⟨⟨?_, ?_⟩, ((Hbe.out.trans HBD.out).setCell (p := ⟨w.heap.size, 0, none⟩) (by simp only; omega) _).setCell (p := ⟨w.heap.size + 1, 0, none⟩) (by simp only; omega) _⟩⟩
      · rw [HST.out]
        exact (HX1d.out.set _).other (by omega) _
      · rw [HST.out]
        exact (HX2d.out.other (by omega) _).set _
  case done =>
    rintro D xs W hD rfl ⟨⟨hx1, hx2⟩, hbe⟩ hK
    have hc1 := hx1.cell
    have hc2 := hx2.cell
    have Hbe := Aside0.mk hbe
    have HK := Aside0.mk hK
    clear hx1 hx2 hbe hK
    gi_wp2
    gi_quiet_th (fail)
    gi_wp2
    have HKd := Aside0.mk (show (W.drewN nq).heap[D]? = some (.deferred (some [])) by rw [World.heap_drewN]; exact HK.out)
    refine ⟨by simp, .inl ⟨_, _, rfl, run_takeDeferred HKd.out, ?_⟩⟩
    exact ⟨.tuple #[.int .i64 (sumA (xs.map (·.1))).1, .bool (sumA (xs.map (·.1))).2], by simp [results, Tryd.results20, go_sem], rfl, (pw_below_drewN Hbe.out nq).trans (belowK_b (w := w2) (by omega) _ D _ (.deferred none) hD HKd.out rfl rfl)⟩
  case stop =>
    rintro D cd pre W _ _ h _
    exact h.elim

theorem times_loop (n : Int) (hn : i64 n) (m : Nat) (hm : m ≤ 1000000) : ∀ (d K : Nat) (p : Int × Bool) (i : Nat), i64 p.1 → i + d = m → d < K →
    tidemillref01_Times.l0 K n (m : Int) p.1 p.2 (i : Int) = some ((List.replicate d n).foldl stepA p) := by
  intro d
  induction d with
  | zero =>
    intro K p i hp hi hK
    obtain ⟨K, rfl⟩ : ∃ q, K = q + 1 := ⟨K - 1, by omega⟩
    simp only [tidemillref01_Times.l0]
    rw [if_neg (by omega)]
    rfl
  | succ d ih =>
    intro K p i hp hi hK
    obtain ⟨K, rfl⟩ : ∃ q, K = q + 1 := ⟨K - 1, by omega⟩
    simp only [tidemillref01_Times.l0]
    rw [if_pos (by omega), if_pos (by omega), refAdd_eq p.1 n hp hn]
    simp only [Option.bind_some]
    rw [wrap_in (n := (i : Int) + 1) (by omega) (by omega), List.replicate_succ, List.foldl_cons]
    have := ih K (stepA p n) (i + 1) (satA_i64 p.1 n) (by omega) (by omega)
    rw [show ((i + 1 : Nat) : Int) = (i : Int) + 1 by omega] at this
    obtain ⟨s, o⟩ := p
    cases o with
    | true => exact (if_pos rfl).trans this
    | false => exact (if_neg Bool.false_ne_true).trans this
theorem refTimes_eq (n k : Int) (hn : i64 n) (hk : k ≤ 2000) : tidemillref01_Times.f 3000 n k = some (sumA (List.replicate k.toNat n)) := by
  unfold tidemillref01_Times.f
  by_cases h0 : 0 ≤ k
  · obtain ⟨m, rfl⟩ := Int.eq_ofNat_of_zero_le h0
    exact times_loop n hn m (by omega) m 3000 (0, false) 0 (by unfold i64; decide) (by omega) (by omega)
  · have h : ∀ K, tidemillref01_Times.l0 (K + 1) n k 0 false 0 = some (sumA (List.replicate k.toNat n)) := by
      intro K
      simp only [tidemillref01_Times.l0]
      rw [if_neg (by omega), show k.toNat = 0 by omega]
      rfl
    exact h 2999
set_option maxRecDepth 100000 in
set_option maxHeartbeats 2000000 in
/-- fix.Times: so many times, none if fewer than none are asked. -/
theorem times_calls (x k : Int) (hx : i64 x) (hk : i64 k) (hk2 : k ≤ 2000) (w : World) :
    Calls Tryd.prog 23 #[.int .i64 x, .int .i64 k] w fun e w' => e = .returned (.tuple #[.int .i64 (sumA (List.replicate k.toNat x)).1, .bool (sumA (List.replicate k.toNat x)).2]) ∧ Below w.heap.size w w' := by
  have hb2 : ∀ W : World, Below W.heap.size W ((W.alloc (.cells #[.int .i64 x] 3)).alloc (.cells #[.int .i64 (k.toNat : Int)] 3)) := fun W => ((Below.refl _ W).alloc (Nat.le_refl _) _).alloc (by simp) _
  have hsum : ∀ W : World, Calls Tryd.prog 20 #[.func (.func 87) #[] #[.pointer (some ⟨W.heap.size + 1, 0, none⟩), .pointer (some ⟨W.heap.size, 0, none⟩)]] ((W.alloc (.cells #[.int .i64 x] 3)).alloc (.cells #[.int .i64 (k.toNat : Int)] 3)) fun e w' => e = .returned (.tuple #[.int .i64 (sumA (List.replicate k.toNat x)).1, .bool (sumA (List.replicate k.toNat x)).2]) ∧ Below W.heap.size W w' := by
    intro W
    have h1 : ((W.alloc (.cells #[.int .i64 x] 3)).alloc (.cells #[.int .i64 (k.toNat : Int)] 3)).cell? ⟨W.heap.size + 1, 0, none⟩ = some (.int .i64 (k.toNat : Int)) := by
      have := World.alloc_heap_new (W.alloc (.cells #[.int .i64 x] 3)) (.cells #[.int .i64 (k.toNat : Int)] 3)
      rw [World.size_alloc] at this
      rw [Lib.cell_of_heap this]
      rfl
    have h2 : ((W.alloc (.cells #[.int .i64 x] 3)).alloc (.cells #[.int .i64 (k.toNat : Int)] 3)).cell? ⟨W.heap.size, 0, none⟩ = some (.int .i64 x) := by
      have h3 : ((W.alloc (.cells #[.int .i64 x] 3)).alloc (.cells #[.int .i64 (k.toNat : Int)] 3)).heap[W.heap.size]? = _ := (Below.heap_alloc _ _ _ (by simp)).trans (World.alloc_heap_new W _)
      rw [Lib.cell_of_heap h3]
      rfl
    have hs := sum_calls 87 #[.pointer (some ⟨W.heap.size + 1, 0, none⟩), .pointer (some ⟨W.heap.size, 0, none⟩)] (enters_of Tryd.func87 (by kernel_rfl) rfl) (List.replicate k.toNat (⟨x, hx⟩ : I64)) ((W.alloc (.cells #[.int .i64 x] 3)).alloc (.cells #[.int .i64 (k.toNat : Int)] 3))
      (fun w1 hw1 => by
        rw [List.length_replicate]
        exact same_stops Fence.wide (6 - 1) trivial rfl (by omega) (W.heap.size + 1) W.heap.size _ k.toNat (by omega) ⟨x, hx⟩ w1 (by have := hw1.size; simp at this; omega) (by have := hw1.size; simp at this; omega) (by simp; omega) ((hw1.cell (p := ⟨W.heap.size + 1, 0, none⟩) (by simp)).trans h1) ((hw1.cell (p := ⟨W.heap.size, 0, none⟩) (by simp; omega)).trans h2))
    rw [List.map_replicate] at hs
    exact hs.mono fun e w' ⟨he, hb⟩ => ⟨he, (hb2 W).trans (hb.mono (by simp; omega))⟩
  have hmm : (if k < 0 then (0 : Int) else k) = (k.toNat : Int) := by split <;> omega
  have hsame := fun W => same_calls x (k.toNat : Int) W
  clear hb2
  unfold i64 at hk
  obtain ⟨m, hm⟩ : ∃ m : Nat, k.toNat = m := ⟨_, rfl⟩
  rw [hm] at hsum hsame hmm ⊢
  have hm2 : m ≤ 2000 := by omega
  clear hm
  by_cases h0 : 0 ≤ k
  · obtain rfl : k = (m : Int) := by rw [if_neg (by omega)] at hmm; exact hmm
    clear hmm hk hk2
    go_enter Tryd.func23, Tryd.ntmps23
    go_wp2_with fail
    go_at_call 53
    rw [show min (m : Int) 1000000 = (m : Int) by omega]
    refine (hsame _).mono ?_
    rintro e w1 ⟨rfl, rfl⟩
    go_wp2_with fail
    go_at_call 20
    refine (hsum _).mono ?_
    rintro e w1 ⟨rfl, hb⟩
    have HB := Aside0.mk hb
    clear hb
    go_wp2
    go_ret2
    exact ⟨rfl, HB.out⟩
  · obtain rfl : m = 0 := by rw [if_pos (by omega)] at hmm; omega
    go_enter Tryd.func23, Tryd.ntmps23
    go_wp2_with fail
    go_at_call 53
    rw [show min (max k 0) 1000000 = ((0 : Nat) : Int) by omega]
    refine (hsame _).mono ?_
    rintro e w1 ⟨rfl, rfl⟩
    go_wp2_with fail
    go_at_call 20
    refine (hsum _).mono ?_
    rintro e w1 ⟨rfl, hb⟩
    have HB := Aside0.mk hb
    clear hb
    go_wp2
    go_ret2
    exact ⟨rfl, HB.out⟩

end Go.Proofs.YtiddemgeehcjpaaDoor.H
