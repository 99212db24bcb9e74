/- tape.Lines: the iterator over a text's lines, for every loop body that leaves what was there. -/
import Derived.RangeFuncFrom
import Derived.RangeFuncNested
import Derived.RangeFuncBound
import Derived.RangeFuncCalls
import Derived.RangeFuncLeaves
import Derived.Test.YtdgdpkemboeaeaaDoorTpC
import Derived.Shelf.Abstract
import Derived.Shelf.RegionOpen
import Derived.WalkKit
import Derived.OwnWalkIn
import Derived.TacticsInMore
import Derived.LoopNIn
import Derived.LoopIn
namespace Go.Proofs.YtdgdpkemboeaeaaDoor.H
open Go.RowKit
set_option linter.unusedVariables false
set_option linter.unusedSimpArgs false
/-- What an iterator does: it hands over elements that the world bears, at most N, till it is told to end or has none left. -/
def Hands {α : Type} (F : Fence) (n : Nat) (P : Program) (g : Nat) (lb : Array Value) (encs : α → Array Value) (Rel : α → World → Prop) (Kp : World → World → Prop) (S Sp : List α → Prop) (N : Nat) (w : World) : Prop :=
  ∀ (l : Nat) (J Jx : List α → World → Prop) (W : World), Below w.heap.size w W → AbidesFrom W.heap.size J → AbidesFrom W.heap.size Jx →
    (∀ pre x W1, J pre W1 → Rel x W1 → pre.length < N → YieldAt F (n - 1) P l (encs x) W1 fun e W' => (e = .returned (.bool true) ∧ J (pre ++ [x]) W' ∧ Kp W1 W') ∨ (e = .returned (.bool false) ∧ Jx (pre ++ [x]) W')) →
    J [] W → CallsIn F n P g (#[.func (.yield l) #[] #[]] ++ lb) W fun e W' => (∃ v, e = .returned v) ∧ ((∃ xs, S xs ∧ J xs W') ∨ (∃ pre, Sp pre ∧ Jx pre W'))
/-- What a round's body may do: go on, or return. -/
def RoundEnd {α : Type} (Kp : World → World → Prop) (I Ir : List α → World → Prop) (xs : List α) (W : World) : Exit → Act → World → Prop := fun e _ W' =>
  (e = .normal ∧ KeepsOthers W W' ∧ Kp W W' ∧ I xs W') ∨ (e = .ret ∧ KeepsOthers W W' ∧ Ir xs W')
section
variable {α : Type} {F : Fence} {n : Nat} {P : Program} {g : Operand} {ps : Array Tmp} {assign body : Code} {Q : Exit → Act → World → Prop} {a : Act} {w : World}
theorem range_hands (hro : F.round = none) (h1 : 1 ≤ n) {gf : Nat} {lb : Array Value} (hg : a.eval g = .func (.func gf) #[] lb) (hFg : F.fn gf) (eg : ∀ args w, (callFunc gf args).run P w = .ok (.enter gf args) w)
    {encs : α → Array Value} {Rel : α → World → Prop} {Kp : World → World → Prop} {S Sp : List α → Prop} {N : Nat} (hseq : Hands F (n - 1) P gf lb encs Rel Kp S Sp N w) (hps : ∀ x, (encs x).size = ps.size)
    (hKt : ∀ {A B C : World}, Kp A B → Kp B C → Kp A C) (hKb : ∀ (W : World) (l : Nat) (o o' : Obj), w.heap.size ≤ l → W.heap[l]? = some o → o.isCells = false → o.isWalk = false → Kp W (W.putObj l o'))
    (I Ir : List α → World → Prop) (hI : OwnFrom w.heap.size I) (hIr : OwnFrom w.heap.size Ir) (hRel : ∀ x, OwnFrom w.heap.size (fun (_ : Unit) W => Rel x W)) (h0 : I [] w) (Ax : α → Act → World → Prop) (hAx : ∀ x a', OwnFrom w.heap.size (fun (_ : Unit) W => Ax x a' W))
    (hassign : ∀ (l : Nat) (pre : List α) (x : α) (W : World) (K : Act → World → Prop), I pre W → Rel x W → (∀ a' W', KeepsOthers W W' → Kp W W' → I pre W' → Rel x W' → Ax x a' W' → K a' W') →
      assign.wpIn (F.inRound l) (n - 1 - 1) P (Exit.then K (fun _ _ _ => False)) { tmps := (ps.zip (encs x)).foldl (fun t (p, v) => t.setIfInBounds p v) a.tmps, defers := [] } W)
    (hbody : ∀ (l : Nat) (pre : List α) (x : α) (a' : Act) (W : World), I pre W → Rel x W → Ax x a' W → pre.length < N → body.wpIn (F.inRound l) (n - 1 - 1) P (RoundEnd Kp I Ir (pre ++ [x]) W) a' W)
    (hdone : ∀ (D : Nat) (xs : List α) (W : World), w.heap.size ≤ D → S xs → I xs W → W.heap[D]? = some (.deferred (some [])) → Q .normal { a with defers := { target := .collected D, args := #[] } :: a.defers } W)
    (hstop : ∀ (D : Nat) (pre : List α) (W : World), w.heap.size ≤ D → Sp pre → Ir pre W → W.heap[D]? = some (.deferred (some [])) → Code.ret.wpIn F n P Q { a with defers := { target := .collected D, args := #[] } :: a.defers } W) :
    (Code.rangeFunc g ps assign body).wpIn F n P Q a w := by
  refine wpIn_rangeFunc fun fn hfn => ?_
  rw [hro]
  obtain ⟨L, hL⟩ : ∃ L : LoopState → Option Code → Loop, L = fun st pe => { state := st, pending := pe, fn, tmps := a.tmps, params := ps, assign, body, defers := w.heap.size } := ⟨_, rfl⟩
  have eL : ∀ st pe, L st pe = { state := st, pending := pe, fn, tmps := a.tmps, params := ps, assign, body, defers := w.heap.size } := fun _ _ => by rw [hL]
  clear hL
  -- the two blocks of the loop's own: D = w.heap.size, l = w.heap.size + 1
  obtain ⟨V, hV⟩ : ∃ V, (w.alloc (.deferred (some []))).alloc (.loop (L .ready none)) = V := ⟨_, rfl⟩
  have vs : V.heap.size = w.heap.size + 2 := by rw [← hV]; simp
  have vl : V.heap[w.heap.size + 1]? = some (.loop (L .ready none)) := by
    rw [← hV]
    have := World.alloc_heap_new (w.alloc (.deferred (some []))) (.loop (L .ready none))
    rwa [World.size_alloc] at this
  have vd : V.heap[w.heap.size]? = some (.deferred (some [])) := by rw [← hV]; exact (Below.heap_alloc _ _ _ (by simp)).trans (World.alloc_heap_new w _)
  have vI : I [] V := by rw [← hV]; exact hI.alloc _ (hI.alloc _ h0)
  have vb : Below w.heap.size w V := by rw [← hV]; exact ((Below.refl _ w).alloc (Nat.le_refl _) _).alloc (by simp) _
  have enter : (Instr.enterLoop fn a.tmps ps assign body none).run P w = .ok (w.heap.size + 1, [{ target := .collected w.heap.size, args := #[] }]) V := by
    rw [run_enterLoop_outer, ← eL, hV]
  clear hV
  have old : ∀ {A : World} {row : Option Nat}, (∀ r, row = some r → V.heap.size ≤ r ∧ ∃ o : Obj, A.heap[r]? = some o ∧ o.isWalk = true) → ∀ r, row = some r → w.heap.size ≤ r ∧ ∃ o : Obj, A.heap[r]? = some o ∧ o.isCells = false := fun hr r e => by
    obtain ⟨hB, o, ho, hw⟩ := hr r e
    exact ⟨by omega, o, ho, Obj.not_cells_of_walk hw⟩
  have stay : ∀ {A B : World} {row : Option Nat} {k : Nat} {o : Obj}, A.grownBy B row → (∀ r, row = some r → V.heap.size ≤ r ∧ ∃ o : Obj, A.heap[r]? = some o ∧ o.isWalk = true) → A.heap[k]? = some o → o.isWalk = false → B.heap[k]? = some o :=
    fun hg hr hk ho => (grownBy_keeps hg (fun r e => (hr r e).2) hk ho).trans hk
  refine ⟨w.heap.size + 1, [{ target := .collected w.heap.size, args := #[] }], V, { target := .fn (.func gf) lb, args := #[.func (.yield (w.heap.size + 1)) #[] #[]] }, V, gf, #[.func (.yield (w.heap.size + 1)) #[] #[]] ++ lb, V, enter, ?_, ?_, ?_, fun _ => h1, ?_⟩
  · simp only [resolve, hg]
    simp [go_sem]
  · intro f' hf'
    simp [Target.leads] at hf'
    subst hf'
    exact hFg
  · simp [invoke, go_sem, eg]
  have key := hseq (w.heap.size + 1) (fun pre W => I pre W ∧ W.heap[w.heap.size + 1]? = some (.loop (L .ready none)) ∧ W.heap[w.heap.size]? = some (.deferred (some [])))
    (fun pre W => Ir pre W ∧ W.heap[w.heap.size + 1]? = some (.loop (L .done (some .ret))) ∧ W.heap[w.heap.size]? = some (.deferred (some []))) V vb
    (fun s A B row hs hg hr => ⟨hI s A B row hs.1 hg (old hr), stay hg hr hs.2.1 rfl, stay hg hr hs.2.2 rfl⟩) (fun s A B row hs hg hr => ⟨hIr s A B row hs.1 hg (old hr), stay hg hr hs.2.1 rfl, stay hg hr hs.2.2 rfl⟩) ?_ ⟨vI, vl, vd⟩
  · refine key.mono ?_
    rintro e W2 ⟨⟨v, rfl⟩, ⟨xs, hS, hi, hl, hd⟩ | ⟨pre, hSp, hi, hl, hd⟩⟩
    · have he := run_endLoop (P := P) hl (by rw [eL]; simp)
      rw [eL] at he
      exact ⟨none, _, he, hdone _ xs _ (Nat.le_refl _) hS (hI.putObj _ hi (by omega) hl rfl) ((World.putObj_heap_other (by omega)).trans hd)⟩
    · have he := run_endLoop (P := P) hl (by rw [eL]; simp)
      rw [eL] at he
      exact ⟨some .ret, _, he, hstop _ pre _ (Nat.le_refl _) hSp (hIr.putObj _ hi (by omega) hl rfl) ((World.putObj_heap_other (by omega)).trans hd)⟩
  -- one round
  rintro pre x W ⟨hi, hl, hd⟩ hx hlen
  have hy := run_yield (P := P) (args := encs x) hl (by rw [eL]; exact hps x)
  rw [eL] at hy
  refine ⟨fn, _, assign, body, hy, roundIn_of_wpIn hfn (hassign _ pre x W _ hi hx fun a' Wa hka hpa hia hxa haa => ?_)⟩
  have hl1 := hka.same _ _ hl rfl
  have hd1 := hka.same _ _ hd rfl
  refine ⟨_, run_beginRound hl1 (by rw [eL]), ?_⟩
  have hlt := (Array.getElem?_eq_some_iff.1 hl1).1
  obtain ⟨U, hU⟩ : ∃ U, Wa.putObj (w.heap.size + 1) (.loop { L .ready none with state := .busy }) = U := ⟨_, rfl⟩
  have ul : U.heap[w.heap.size + 1]? = some (.loop { L .ready none with state := .busy }) := by rw [← hU]; exact World.putObj_heap_same hlt
  have ud : U.heap[w.heap.size]? = some (.deferred (some [])) := by rw [← hU]; exact (World.putObj_heap_other (by omega)).trans hd1
  have uK : Kp Wa U := by rw [← hU]; exact hKb _ _ _ _ (by omega) hl1 rfl rfl
  have uI : I pre U := by rw [← hU]; exact hI.putObj _ hia (by omega) hl1 rfl
  have uR : Rel x U := by rw [← hU]; exact (hRel x).putObj (s := ()) _ hxa (by omega) hl1 rfl
  have uA : Ax x a' U := by rw [← hU]; exact (hAx x a').putObj (s := ()) _ haa (by omega) hl1 rfl
  rw [hU]
  refine wpIn_mono (hbody _ pre x a' U uI uR uA hlen) ?_
  rintro e a3 W3 (⟨rfl, hk3, hp3, hi3⟩ | ⟨rfl, hk3, hi3⟩)
  · have hl3 := hk3.same _ _ ul rfl
    have hr := run_endRound (P := P) none hl3
    have hlt3 := (Array.getElem?_eq_some_iff.1 hl3).1
    rw [eL] at hr
    refine ⟨_, _, hr, .inl ⟨rfl, ⟨hI.putObj _ hi3 (by omega) hl3 rfl, ?_, (World.putObj_heap_other (by omega)).trans (hk3.same _ _ ud rfl)⟩, hKt hpa (hKt (hKt uK hp3) (hKb _ _ _ _ (by omega) hl3 rfl rfl))⟩⟩
    rw [World.putObj_heap_same hlt3, eL]
    rfl
  · have hl3 := hk3.same _ _ ul rfl
    have hr := run_endRound (P := P) (some .ret) hl3
    have hlt3 := (Array.getElem?_eq_some_iff.1 hl3).1
    rw [eL] at hr
    refine ⟨_, _, hr, .inr ⟨rfl, hIr.putObj _ hi3 (by omega) hl3 rfl, ?_, (World.putObj_heap_other (by omega)).trans (hk3.same _ _ ud rfl)⟩⟩
    rw [World.putObj_heap_same hlt3, eL]
    rfl
end
end Go.Proofs.YtdgdpkemboeaeaaDoor.H
namespace Go.Proofs.YtdgdpkemboeaeaaDoor.H
open Go.RowKit Go.Shelf Go.Proofs.YtdgdpkemboeaeaaDoor.PT Go.Proofs.YtdgdpkemboeaeaaDoorW.PrintWords Go.Proofs.YtdgdpkemboeaeaaDoorW.PrintLast Go.Proofs.YtdgdpkemboeaeaaDoorW.PrintMore
attribute [local go_sem] Oper.semAt_some
set_option linter.unusedVariables false
set_option linter.unusedSimpArgs false
/-- What is handed over of a text: its acts; where a line is none's, an error. -/
noncomputable def evs (x : List UInt8) : List (PAct × Int) := (parseA x).1.map (fun a => (a, (0 : Int))) ++ (if (parseA x).2 = true then [] else [(zeroP, 2)])
theorem evs_nil : evs [] = [] := rfl
theorem evs_good {x : List UInt8} {a : PAct} (h0 : x ≠ []) (hc : (cutL x 10).2.2 = true) (ha : actA (cutL x 10).1 = some a) : evs x = (a, 0) :: evs (cutL x 10).2.1 := by
  unfold evs
  rw [parseA_step h0, if_pos hc, ha]
  rfl
theorem evs_bad {x : List UInt8} (h0 : x ≠ []) (h : (cutL x 10).2.2 = false ∨ actA (cutL x 10).1 = none) : evs x = [(zeroP, 2)] := by
  unfold evs
  rw [parseA_step h0]
  rcases h with h | h
  · rw [if_neg (by rw [h]; decide)]
    rfl
  · rw [h]
    split <;> rfl
theorem evs_pos {x : List UInt8} (h0 : x ≠ []) : 0 < (evs x).length := by
  by_cases hc : (cutL x 10).2.2 = true
  · cases ha : actA (cutL x 10).1 with
    | some a => rw [evs_good h0 hc ha]; simp
    | none => rw [evs_bad h0 (.inr ha)]; simp
  · rw [evs_bad h0 (.inl (Bool.eq_false_iff.2 hc))]; simp
/-- An element that is handed over: an act, its numbers' slice, the errno. -/
abbrev El := PAct × Value × Int
def El.ev (x : El) : PAct × Int := (x.1, x.2.2)
def elA (x : El) : Array Value := #[actV x.1 x.2.1, .int .i64 x.2.2]
def ElRel (n₀ : Nat) (x : El) (W : World) : Prop := Kd.R (Kd.int .i64) 3 W n₀ (fun _ => True) x.2.1 x.1.keep
theorem cut_calls (x : List UInt8) (hx : x.length ≤ 1000000) (w : World) : Calls Tryd.prog 45 #[.string (ba x), .string ⟨#[10]⟩] w fun e w' => e = .returned (.tuple #[.string (ba (cutL x 10).1), .string (ba (cutL x 10).2.1), .bool (cutL x 10).2.2]) ∧ Below w.heap.size w w' := by
  have h : strings_Cut.f (ba x) ⟨#[10]⟩ = some (ba (cutL x 10).1, ba (cutL x 10).2.1, (cutL x 10).2.2) := by
    unfold strings_Cut.f
    show (if (ba x).size ≤ 9223372036854775806 then some (cutB (ba x) 10) else none) = _
    rw [if_pos (by rw [ba_size]; omega), cutB_L]
  refine (strings_Cut.calls (ba x) ⟨#[10]⟩ _ _ _ w h).mono ?_
  rintro e w' ⟨rfl, nd, rfl⟩
  exact ⟨rfl, pw_below_drewN (Below.refl _ _) _⟩
theorem cut_len (x : List UInt8) : (cutL x 10).1.length ≤ x.length ∧ (cutL x 10).2.1.length ≤ x.length := by
  obtain ⟨h1, h2, _⟩ := cutL_parts x 10
  cases hc : (cutL x 10).2.2 with
  | true =>
    have := congrArg List.length (h1 hc)
    rw [List.length_append, List.length_cons] at this
    omega
  | false =>
    obtain ⟨e1, e2⟩ := h2 hc
    rw [e1, e2]
    simp
set_option maxRecDepth 100000 in
set_option maxHeartbeats 8000000 in
theorem lines1_in (n : Nat) (hn : 1 ≤ n) (lp Bs b₁ : Nat) (s : List UInt8) (hs : s.length ≤ 1000000) (w₀ W : World) (hE : Env w₀) (h₀ : Below w₀.heap.size w₀ W) (hb₁ : b₁ ≤ W.heap.size) (J Jx : List El → World → Prop)
    (hY : ∀ pre x W1, J pre W1 → ElRel b₁ x W1 → pre.length < (evs s).length → YieldAt Fence.wide (n - 1) Tryd.prog lp (elA x) W1 fun e W' =>
      (e = .returned (.bool true) ∧ J (pre ++ [x]) W' ∧ Below w₀.heap.size W1 W') ∨ (e = .returned (.bool false) ∧ Jx (pre ++ [x]) W'))
    (hJ : ∀ pre A B, J pre A → Below A.heap.size A B → J pre B) (hB : W.cell? ⟨Bs, 0, none⟩ = some (.string (ba s))) (h0 : J [] W) :
    CallsIn Fence.wide n Tryd.prog 54 #[.func (.yield lp) #[] #[], .pointer (some ⟨Bs, 0, none⟩)] W fun e W' => (∃ v, e = .returned v) ∧
      ((∃ xs, xs.map El.ev = evs s ∧ J xs W') ∨ ∃ pre, pre.map El.ev <+: evs s ∧ Jx pre W') := by
  refine callsIn_of_wp Tryd.func54 rfl trivial ?_ rfl
  simp only [Tryd.ntmps54, List.size_toArray, List.length_cons, List.length_nil, Nat.reduceAdd, Nat.reduceSub, Array.replicate_succ, Array.replicate_zero, List.push_toArray, List.append_toArray, List.nil_append, List.cons_append]
  have HE := Aside0.mk hE
  have HS := Aside0.mk hs
  have HY := Aside0.mk hY
  have HJ := Aside0.mk hJ
  clear hE hs hY hJ
  gi_wp2
  gi_loopw [3, 4, 5, 6, 7, 8, 10, 11, 12, 13, 14, 15, 16, 17, 18, 19, 20, 21, 22, 23, 24, 25, 26, 27, 28, 29, 30, 31, 32, 33, 34, 35, 36] (fun r3 _ _ _ _ _ _ _ _ _ _ _ _ _ _ _ _ _ _ _ _ _ _ _ _ _ _ _ _ _ _ _ _ wr => ∃ (x : List UInt8) (pre : List El), r3 = .string (ba x) ∧ J pre wr ∧ Below w₀.heap.size w₀ wr ∧ b₁ ≤ wr.heap.size ∧ pre.map El.ev ++ evs x = evs s ∧ x.length ≤ s.length)
    (fun r3 _ _ _ _ _ _ _ _ _ _ _ _ _ _ _ _ _ _ _ _ _ _ _ _ _ _ _ _ _ _ _ _ wr => (match r3 with | .string b => b.size | _ => 0))
  case atStart => exact ⟨s, [], rfl, h0, h₀, hb₁, rfl, Nat.le_refl _⟩
  case round =>
    obtain ⟨x, pre, rfl, hJ, hb, hb1w, hev, hxl⟩ := hrel
    have HBB := Aside0.mk hb1w
    clear hb1w
    have HJP := Aside0.mk hJ
    have HBW := Aside0.mk hb
    have HEV := Aside0.mk hev
    clear hJ hb hev hB h0 h₀
    obtain ⟨bz, hbz⟩ : ∃ bz, (ba x).toList.isEmpty = bz := ⟨_, rfl⟩
    have HBZ := Aside0.mk (show bz = true ↔ x = [] by rw [← hbz, ba_tl, List.isEmpty_iff])
    cases bz with
    | true =>
      have HX0 := Aside0.mk (HBZ.out.1 rfl)
      clear HBZ
      gi_wp2
      go_end0
      refine ⟨⟨_, rfl⟩, .inl ⟨pre, ?_, HJP.out⟩⟩
      have := HEV.out
      rw [HX0.out, evs_nil, List.append_nil] at this
      exact this
    | false =>
      have HX := Aside0.mk (show x ≠ [] from fun h => by have := HBZ.out.2 h; cases this)
      clear HBZ
      have hcl := cut_len x
      have hc1 := cut_calls x (by have := HS.out; omega) wr
      obtain ⟨one, hone⟩ : ∃ one, (cutL x 10).1 = one := ⟨_, rfl⟩
      obtain ⟨beh, hbeh⟩ : ∃ beh, (cutL x 10).2.1 = beh := ⟨_, rfl⟩
      obtain ⟨en, hen⟩ : ∃ en, (cutL x 10).2.2 = en := ⟨_, rfl⟩
      rw [hone, hbeh, hen] at hc1
      rw [hone, hbeh] at hcl
      have HLE := Aside0.mk hcl
      have HC1 := Aside0.mk hone
      have HC2 := Aside0.mk hbeh
      have HC3 := Aside0.mk hen
      have HXL := Aside0.mk hxl
      have HLT := Aside0.mk (show pre.length < (evs s).length by have := congrArg List.length HEV.out; rw [List.length_append, List.length_map] at this; have := evs_pos HX.out; omega)
      clear hone hbeh hen hcl hxl
      gi_wp2_with fail
      refine ⟨trivial, ?_⟩
      gi_at_call 45
      refine (callsIn_wide.2 hc1).mono ?_
      rintro e W1 ⟨rfl, hb1⟩
      have HB1 := Aside0.mk hb1
      clear hb1 hc1 hbz
      gi_wp2_with fail
      refine ⟨trivial, ?_⟩
      gi_at_call 55
      refine (callsIn_wide.2 (act_calls (ba one) (by rw [ba_size]; have := HLE.out; have := HS.out; have := HXL.out; omega) W1 (HE.out.below (HBW.out.trans (HB1.out.mono HBW.out.size))))).mono ?_
      rw [ba_data]
      rintro e W2 ⟨v, rfl, hR, hb2⟩
      obtain ⟨vA, vc, rfl, hvl, hvC⟩ := Kd.R_reads hR
      have HB2 := Aside0.mk (HB1.out.trans (hb2.mono HB1.out.size))
      have HR2 := Aside0.mk (Kd.R_lower hR (Nat.le_trans HBB.out HB1.out.size))
      clear hb2 hR hvl hvC
      cases hra : actA one with
      | none =>
        have e1 : resA one = (zeroP, false) := by unfold resA; rw [hra]
        have HEB := Aside0.mk (evs_bad HX.out (.inr (by rw [HC1.out]; exact hra)))
        rw [e1] at HR2 ⊢
        clear hra e1
        simp only [actV]
        have hb3 : Below wr.heap.size wr (W2.alloc (.cells #[.int .i64 zeroP.k, .int .i64 zeroP.i, .int .i64 zeroP.n, .string zeroP.t, .slice vA zeroP.keep.length vc] 45)) := HB2.out.alloc HB2.out.size _
        obtain ⟨fn, tmps, assign, body, hy, hR⟩ := HY.out pre (zeroP, .slice none 0 0, 2) _ (HJ.out _ _ _ HJP.out hb3) (Kd.R_nil _ _ _ _ _) HLT.out
        simp only [zeroP, List.length_nil] at hR ⊢
        have HRR := Aside0.mk hR
        clear hb3 hR
        simp only [elA, actV, zeroP, List.length_nil] at hy
        gi_wp2
        refine HRR.out.mono ?_
        rintro e W3 (⟨rfl, hJ3, hk3⟩ | ⟨rfl, hJx3⟩)
        · gi_wp2
          refine bodyPost_ret (results_none rfl _ _ _) rfl ?_
          refine ⟨⟨_, rfl⟩, .inl ⟨_, ?_, hJ3⟩⟩
          rw [List.map_append]
          have := HEV.out
          rw [HEB.out] at this
          exact this
        · gi_wp2
          refine bodyPost_ret (results_none rfl _ _ _) rfl ?_
          refine ⟨⟨_, rfl⟩, .inr ⟨_, ?_, hJx3⟩⟩
          rw [List.map_append]
          have := HEV.out
          rw [HEB.out] at this
          exact ⟨[], by rw [List.append_nil]; exact this⟩
      | some a =>
        have e1 : resA one = (a, true) := by unfold resA; rw [hra]
        rw [e1] at HR2 ⊢
        have HRA := Aside0.mk hra
        clear hra e1
        simp only [actV]
        cases en with
        | false =>
          have HEB := Aside0.mk (evs_bad HX.out (.inl HC3.out))
          have hb3 : Below wr.heap.size wr (W2.alloc (.cells #[.int .i64 a.k, .int .i64 a.i, .int .i64 a.n, .string a.t, .slice vA a.keep.length vc] 45)) := HB2.out.alloc HB2.out.size _
          obtain ⟨fn, tmps, assign, body, hy, hR⟩ := HY.out pre (zeroP, .slice none 0 0, 2) _ (HJ.out _ _ _ HJP.out hb3) (Kd.R_nil _ _ _ _ _) HLT.out
          have HRR := Aside0.mk hR
          clear hb3 hR
          simp only [elA, actV, zeroP] at hy
          gi_wp2
          refine HRR.out.mono ?_
          rintro e W3 (⟨rfl, hJ3, hk3⟩ | ⟨rfl, hJx3⟩)
          · gi_wp2
            refine bodyPost_ret (results_none rfl _ _ _) rfl ?_
            refine ⟨⟨_, rfl⟩, .inl ⟨_, ?_, hJ3⟩⟩
            rw [List.map_append]
            have := HEV.out
            rw [HEB.out] at this
            exact this
          · gi_wp2
            refine bodyPost_ret (results_none rfl _ _ _) rfl ?_
            refine ⟨⟨_, rfl⟩, .inr ⟨_, ?_, hJx3⟩⟩
            rw [List.map_append]
            have := HEV.out
            rw [HEB.out] at this
            exact ⟨[], by rw [List.append_nil]; exact this⟩
        | true =>
          have HEG := Aside0.mk (evs_good HX.out HC3.out (by rw [HC1.out]; exact HRA.out))
          have hb3 : Below wr.heap.size wr (W2.alloc (.cells #[.int .i64 a.k, .int .i64 a.i, .int .i64 a.n, .string a.t, .slice vA a.keep.length vc] 45)) := HB2.out.alloc HB2.out.size _
          have hb4 : Below W2.heap.size W2 (W2.alloc (.cells #[.int .i64 a.k, .int .i64 a.i, .int .i64 a.n, .string a.t, .slice vA a.keep.length vc] 45)) := (Below.refl _ W2).alloc (Nat.le_refl _) _
          obtain ⟨fn, tmps, assign, body, hy, hR⟩ := HY.out pre (a, .slice vA a.keep.length vc, 0) _ (HJ.out _ _ _ HJP.out hb3) (Kd.R_below HR2.out hb4) HLT.out
          have HRR := Aside0.mk hR
          have HB3 := Aside0.mk hb3
          have HEV2 := Aside0.mk (show (pre ++ [((a, .slice vA a.keep.length vc, 0) : El)]).map El.ev ++ evs beh = evs s by rw [List.map_append, List.append_assoc, ← HEV.out, HEG.out, HC2.out]; rfl)
          clear hb3 hb4 hR
          simp only [elA, actV] at hy
          gi_wp2
          refine HRR.out.mono ?_
          rintro e W3 (⟨rfl, hJ3, hk3⟩ | ⟨rfl, hJx3⟩)
          · have HBB3 := Aside0.mk (Nat.le_trans HBB.out (Nat.le_trans HB3.out.size hk3.size))
            have HBN := Aside0.mk ((HBW.out.trans (HB3.out.mono HBW.out.size)).trans hk3)
            have HJ3 := Aside0.mk hJ3
            clear hk3 hJ3
            gi_wp2
            go_roundw
            case rel => exact ⟨beh, _, rfl, HJ3.out, HBN.out, HBB3.out, HEV2.out, Nat.le_trans HLE.out.2 HXL.out⟩
            case measure =>
              have h1 := cut_less HC3.out
              rw [HC2.out] at h1
              simp only [ba_size]
              exact h1
          · gi_wp2
            refine bodyPost_ret (results_none rfl _ _ _) rfl ?_
            refine ⟨⟨_, rfl⟩, .inr ⟨_, ?_, hJx3⟩⟩
            exact ⟨_, HEV2.out⟩
/-- tape.Lines: the text is boxed; the function value captures the box. -/
theorem lines_calls (s : ByteArray) (w : World) : Calls Tryd.prog 26 #[.string s] w fun e w' => e = .returned (.func (.func 54) #[] #[.pointer (some ⟨w.heap.size, 0, none⟩)]) ∧ w' = w.alloc (.cells #[.string s] 9) := by
  go_enter Tryd.func26, Tryd.ntmps26
  go_wp2
  go_ret
  exact ⟨rfl, rfl⟩
theorem lines_hands (n : Nat) (hn : 1 ≤ n) (Bs b₁ : Nat) (s : List UInt8) (hs : s.length ≤ 1000000) (w₀ W : World) (hE : Env w₀) (h₀ : Below w₀.heap.size w₀ W) (hb₁ : b₁ ≤ W.heap.size) (hBs : Bs < W.heap.size) (hB : W.cell? ⟨Bs, 0, none⟩ = some (.string (ba s))) :
    Hands Fence.wide n Tryd.prog 54 #[.pointer (some ⟨Bs, 0, none⟩)] elA (ElRel b₁) (Below w₀.heap.size) (fun xs => xs.map El.ev = evs s) (fun pre => pre.map El.ev <+: evs s) (evs s).length W := fun lp J Jx V hV hJ _ hY h0 =>
  lines1_in n hn lp Bs b₁ s hs w₀ V hE (h₀.trans (hV.mono h₀.size)) (Nat.le_trans hb₁ hV.size) J Jx hY (fun pre A B hA hb => hJ pre A B none hA (grown_of_below hb none) (fun r e => by cases e)) ((hV.cell (p := ⟨Bs, 0, none⟩) hBs).trans hB) h0
end Go.Proofs.YtdgdpkemboeaeaaDoor.H

