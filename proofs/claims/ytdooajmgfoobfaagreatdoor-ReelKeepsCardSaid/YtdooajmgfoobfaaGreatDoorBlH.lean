/- A range over an iterator whose elements lead into memory: the iterator says of each that the world bears it ('Rel'); between two rounds it may itself change the world by St. -/
import Derived.Test.YtdooajmgfoobfaaGreatDoorWMore
import Derived.OwnWalkIn
import Derived.RangeFuncFrom
import Derived.RangeFuncNested
import Derived.RangeFuncBound
import Derived.RangeFuncCalls
import Derived.RangeFuncLeaves
namespace Go.Proofs.YtdooajmgfoobfaaGreatDoor.H
open Go.RowKit Go.Proofs.YtdooajmgfoobfaaGreatDoorW.PrintWords Go.Proofs.YtdooajmgfoobfaaGreatDoorW.PrintLast Go.Proofs.YtdooajmgfoobfaaGreatDoorW.PrintMore
attribute [local go_sem] Oper.semAt_some
set_option linter.unusedVariables false
set_option linter.unusedSimpArgs false
/-- What an iterator does: it hands over elements that the world bears, at most N, till it is told to end or has none left. -/
def Hands {α : Type} (F : Fence) (n : Nat) (P : Program) (g : Nat) (lb : Array Value) (encs : α → Array Value) (Rel : α → World → Prop) (Kp St : World → World → Prop) (S Sp : List α → Prop) (N : Nat) (w : World) : Prop :=
  ∀ (l : Nat) (J Jx : List α → World → Prop) (W : World), Below w.heap.size w W → AbidesFrom W.heap.size J → AbidesFrom W.heap.size Jx → (∀ s A B, J s A → St A B → J s B) → (∀ s A B, Jx s A → St A B → Jx s B) →
    (∀ pre x W1, J pre W1 → Rel x W1 → pre.length < N → YieldAt F (n - 1) P l (encs x) W1 fun e W' => (e = .returned (.bool true) ∧ J (pre ++ [x]) W' ∧ Kp W1 W') ∨ (e = .returned (.bool false) ∧ Jx (pre ++ [x]) W')) →
    J [] W → CallsIn F n P g (#[.func (.yield l) #[] #[]] ++ lb) W fun e W' => (∃ v, e = .returned v) ∧ ((∃ xs, S xs ∧ J xs W') ∨ (∃ pre, Sp pre ∧ Jx pre W'))
/-- What a round's body may do: go on, or return. -/
def RoundEnd {α : Type} (Kp : World → World → Prop) (I Ir : List α → World → Prop) (xs : List α) (W : World) : Exit → Act → World → Prop := fun e _ W' =>
  (e = .normal ∧ KeepsOthers W W' ∧ Kp W W' ∧ I xs W') ∨ (e = .ret ∧ KeepsOthers W W' ∧ Ir xs W')
open Go.Proofs.YtdooajmgfoobfaaGreatDoorW.PrintWords
section
variable {α : Type} {F : Fence} {n : Nat} {P : Program} {g : Operand} {ps : Array Tmp} {assign body : Code} {Q : Exit → Act → World → Prop} {a : Act} {w : World}
theorem range_hands (hro : F.round = none) (h1 : 1 ≤ n) {gf : Nat} {lb : Array Value} (hg : a.eval g = .func (.func gf) #[] lb) (hFg : F.fn gf) (eg : ∀ args w, (callFunc gf args).run P w = .ok (.enter gf args) w)
    {encs : α → Array Value} {Rel : α → World → Prop} {Kp St : World → World → Prop} {S Sp : List α → Prop} {N : Nat} (hseq : Hands F (n - 1) P gf lb encs Rel Kp St S Sp N w) (hStH : ∀ A B, St A B → ∀ k, w.heap.size ≤ k → B.heap[k]? = A.heap[k]?) (hps : ∀ x, (encs x).size = ps.size)
    (hKt : ∀ {A B C : World}, Kp A B → Kp B C → Kp A C) (hKb : ∀ (W : World) (l : Nat) (o o' : Obj), w.heap.size ≤ l → W.heap[l]? = some o → o.isCells = false → o.isWalk = false → Kp W (W.putObj l o'))
    (I Ir : List α → World → Prop) (hI : OwnFrom w.heap.size I) (hIr : OwnFrom w.heap.size Ir) (hRel : ∀ x, OwnFrom w.heap.size (fun (_ : Unit) W => Rel x W)) (h0 : I [] w) (hSI : ∀ s A B, I s A → St A B → I s B) (hSIr : ∀ s A B, Ir s A → St A B → Ir s B) (Ax : α → Act → World → Prop) (hAx : ∀ x a', OwnFrom w.heap.size (fun (_ : Unit) W => Ax x a' W))
    (hassign : ∀ (l : Nat) (pre : List α) (x : α) (W : World) (K : Act → World → Prop), I pre W → Rel x W → (∀ a' W', KeepsOthers W W' → Kp W W' → I pre W' → Rel x W' → Ax x a' W' → K a' W') →
      assign.wpIn (F.inRound l) (n - 1 - 1) P (Exit.then K (fun _ _ _ => False)) { tmps := (ps.zip (encs x)).foldl (fun t (p, v) => t.setIfInBounds p v) a.tmps, defers := [] } W)
    (hbody : ∀ (l : Nat) (pre : List α) (x : α) (a' : Act) (W : World), I pre W → Rel x W → Ax x a' W → pre.length < N → body.wpIn (F.inRound l) (n - 1 - 1) P (RoundEnd Kp I Ir (pre ++ [x]) W) a' W)
    (hdone : ∀ (D : Nat) (xs : List α) (W : World), w.heap.size ≤ D → S xs → I xs W → W.heap[D]? = some (.deferred (some [])) → Q .normal { a with defers := { target := .collected D, args := #[] } :: a.defers } W)
    (hstop : ∀ (D : Nat) (pre : List α) (W : World), w.heap.size ≤ D → Sp pre → Ir pre W → W.heap[D]? = some (.deferred (some [])) → Code.ret.wpIn F n P Q { a with defers := { target := .collected D, args := #[] } :: a.defers } W) :
    (Code.rangeFunc g ps assign body).wpIn F n P Q a w := by
  refine wpIn_rangeFunc fun fn hfn => ?_
  rw [hro]
  obtain ⟨L, hL⟩ : ∃ L : LoopState → Option Code → Loop, L = fun st pe => { state := st, pending := pe, fn, tmps := a.tmps, params := ps, assign, body, defers := w.heap.size } := ⟨_, rfl⟩
  have eL : ∀ st pe, L st pe = { state := st, pending := pe, fn, tmps := a.tmps, params := ps, assign, body, defers := w.heap.size } := fun _ _ => by rw [hL]
  clear hL
  -- the two blocks of the loop's own: D = w.heap.size, l = w.heap.size + 1
  obtain ⟨V, hV⟩ : ∃ V, (w.alloc (.deferred (some []))).alloc (.loop (L .ready none)) = V := ⟨_, rfl⟩
  have vs : V.heap.size = w.heap.size + 2 := by rw [← hV]; simp
  have vl : V.heap[w.heap.size + 1]? = some (.loop (L .ready none)) := by
    rw [← hV]
    have := World.alloc_heap_new (w.alloc (.deferred (some []))) (.loop (L .ready none))
    rwa [World.size_alloc] at this
  have vd : V.heap[w.heap.size]? = some (.deferred (some [])) := by rw [← hV]; exact (Below.heap_alloc _ _ _ (by simp)).trans (World.alloc_heap_new w _)
  have vI : I [] V := by rw [← hV]; exact hI.alloc _ (hI.alloc _ h0)
  have vb : Below w.heap.size w V := by rw [← hV]; exact ((Below.refl _ w).alloc (Nat.le_refl _) _).alloc (by simp) _
  have enter : (Instr.enterLoop fn a.tmps ps assign body none).run P w = .ok (w.heap.size + 1, [{ target := .collected w.heap.size, args := #[] }]) V := by
    rw [run_enterLoop_outer, ← eL, hV]
  clear hV
  have old : ∀ {A : World} {row : Option Nat}, (∀ r, row = some r → V.heap.size ≤ r ∧ ∃ o : Obj, A.heap[r]? = some o ∧ o.isWalk = true) → ∀ r, row = some r → w.heap.size ≤ r ∧ ∃ o : Obj, A.heap[r]? = some o ∧ o.isCells = false := fun hr r e => by
    obtain ⟨hB, o, ho, hw⟩ := hr r e
    exact ⟨by omega, o, ho, Obj.not_cells_of_walk hw⟩
  have stay : ∀ {A B : World} {row : Option Nat} {k : Nat} {o : Obj}, A.grownBy B row → (∀ r, row = some r → V.heap.size ≤ r ∧ ∃ o : Obj, A.heap[r]? = some o ∧ o.isWalk = true) → A.heap[k]? = some o → o.isWalk = false → B.heap[k]? = some o :=
    fun hg hr hk ho => (grownBy_keeps hg (fun r e => (hr r e).2) hk ho).trans hk
  refine ⟨w.heap.size + 1, [{ target := .collected w.heap.size, args := #[] }], V, { target := .fn (.func gf) lb, args := #[.func (.yield (w.heap.size + 1)) #[] #[]] }, V, gf, #[.func (.yield (w.heap.size + 1)) #[] #[]] ++ lb, V, enter, ?_, ?_, ?_, fun _ => h1, ?_⟩
  · simp only [resolve, hg]
    simp [go_sem]
  · intro f' hf'
    simp [Target.leads] at hf'
    subst hf'
    exact hFg
  · simp [invoke, go_sem, eg]
  have key := hseq (w.heap.size + 1) (fun pre W => I pre W ∧ W.heap[w.heap.size + 1]? = some (.loop (L .ready none)) ∧ W.heap[w.heap.size]? = some (.deferred (some [])))
    (fun pre W => Ir pre W ∧ W.heap[w.heap.size + 1]? = some (.loop (L .done (some .ret))) ∧ W.heap[w.heap.size]? = some (.deferred (some []))) V vb
    (fun s A B row hs hg hr => ⟨hI s A B row hs.1 hg (old hr), stay hg hr hs.2.1 rfl, stay hg hr hs.2.2 rfl⟩) (fun s A B row hs hg hr => ⟨hIr s A B row hs.1 hg (old hr), stay hg hr hs.2.1 rfl, stay hg hr hs.2.2 rfl⟩)
    (fun s A B hs hst => ⟨hSI s A B hs.1 hst, (hStH A B hst _ (by omega)).trans hs.2.1, (hStH A B hst _ (Nat.le_refl _)).trans hs.2.2⟩) (fun s A B hs hst => ⟨hSIr s A B hs.1 hst, (hStH A B hst _ (by omega)).trans hs.2.1, (hStH A B hst _ (Nat.le_refl _)).trans hs.2.2⟩) ?_ ⟨vI, vl, vd⟩
  · refine key.mono ?_
    rintro e W2 ⟨⟨v, rfl⟩, ⟨xs, hS, hi, hl, hd⟩ | ⟨pre, hSp, hi, hl, hd⟩⟩
    · have he := run_endLoop (P := P) hl (by rw [eL]; simp)
      rw [eL] at he
      exact ⟨none, _, he, hdone _ xs _ (Nat.le_refl _) hS (hI.putObj _ hi (by omega) hl rfl) ((World.putObj_heap_other (by omega)).trans hd)⟩
    · have he := run_endLoop (P := P) hl (by rw [eL]; simp)
      rw [eL] at he
      exact ⟨some .ret, _, he, hstop _ pre _ (Nat.le_refl _) hSp (hIr.putObj _ hi (by omega) hl rfl) ((World.putObj_heap_other (by omega)).trans hd)⟩
  -- one round
  rintro pre x W ⟨hi, hl, hd⟩ hx hlen
  have hy := run_yield (P := P) (args := encs x) hl (by rw [eL]; exact hps x)
  rw [eL] at hy
  refine ⟨fn, _, assign, body, hy, roundIn_of_wpIn hfn (hassign _ pre x W _ hi hx fun a' Wa hka hpa hia hxa haa => ?_)⟩
  have hl1 := hka.same _ _ hl rfl
  have hd1 := hka.same _ _ hd rfl
  refine ⟨_, run_beginRound hl1 (by rw [eL]), ?_⟩
  have hlt := (Array.getElem?_eq_some_iff.1 hl1).1
  obtain ⟨U, hU⟩ : ∃ U, Wa.putObj (w.heap.size + 1) (.loop { L .ready none with state := .busy }) = U := ⟨_, rfl⟩
  have ul : U.heap[w.heap.size + 1]? = some (.loop { L .ready none with state := .busy }) := by rw [← hU]; exact World.putObj_heap_same hlt
  have ud : U.heap[w.heap.size]? = some (.deferred (some [])) := by rw [← hU]; exact (World.putObj_heap_other (by omega)).trans hd1
  have uK : Kp Wa U := by rw [← hU]; exact hKb _ _ _ _ (by omega) hl1 rfl rfl
  have uI : I pre U := by rw [← hU]; exact hI.putObj _ hia (by omega) hl1 rfl
  have uR : Rel x U := by rw [← hU]; exact (hRel x).putObj (s := ()) _ hxa (by omega) hl1 rfl
  have uA : Ax x a' U := by rw [← hU]; exact (hAx x a').putObj (s := ()) _ haa (by omega) hl1 rfl
  rw [hU]
  refine wpIn_mono (hbody _ pre x a' U uI uR uA hlen) ?_
  rintro e a3 W3 (⟨rfl, hk3, hp3, hi3⟩ | ⟨rfl, hk3, hi3⟩)
  · have hl3 := hk3.same _ _ ul rfl
    have hr := run_endRound (P := P) none hl3
    have hlt3 := (Array.getElem?_eq_some_iff.1 hl3).1
    rw [eL] at hr
    refine ⟨_, _, hr, .inl ⟨rfl, ⟨hI.putObj _ hi3 (by omega) hl3 rfl, ?_, (World.putObj_heap_other (by omega)).trans (hk3.same _ _ ud rfl)⟩, hKt hpa (hKt (hKt uK hp3) (hKb _ _ _ _ (by omega) hl3 rfl rfl))⟩⟩
    rw [World.putObj_heap_same hlt3, eL]
    rfl
  · have hl3 := hk3.same _ _ ul rfl
    have hr := run_endRound (P := P) (some .ret) hl3
    have hlt3 := (Array.getElem?_eq_some_iff.1 hl3).1
    rw [eL] at hr
    refine ⟨_, _, hr, .inr ⟨rfl, hIr.putObj _ hi3 (by omega) hl3 rfl, ?_, (World.putObj_heap_other (by omega)).trans (hk3.same _ _ ud rfl)⟩⟩
    rw [World.putObj_heap_same hlt3, eL]
    rfl
end
theorem cells_ne_row {W : World} {row : Option Nat} {B g T : Nat} {cs : Array Value} (hr : ∀ r, row = some r → B ≤ r ∧ ∃ o : Obj, W.heap[r]? = some o ∧ o.isCells = false) (h : W.heap[g]? = some (.cells cs T (0, 0))) : some g ≠ row := fun e => by
  obtain ⟨_, o, ho, hc⟩ := hr g e.symm
  rw [h] at ho
  cases ho
  cases hc
theorem R_ownFrom {α : Type} {d : Kd α} {e base : Nat} {W W' : World} {v : Value} {xs : List α} {row : Option Nat} {B : Nat} (h : Kd.R d e W base (fun _ => True) v xs) (hg : W.grownBy W' row) (hr : ∀ r, row = some r → B ≤ r ∧ ∃ o : Obj, W.heap[r]? = some o ∧ o.isCells = false) : Kd.R d e W' base (fun _ => True) v xs :=
  Kd.R_mono (Kd.R_grown (Kd.R_bound h) hg (fun k hk => by obtain ⟨_, _, _, q, _, cells, hc⟩ := hk; exact cells_ne_row hr hc)) (fun _ _ => trivial)
theorem keeps_grown {A B : World} {e base size n : Nat} {v : Value} {xs : List Value} (hg : A.grownBy B v.ownBlock) (ho : A.ownsRow base e size v n xs) : KeepsOthers A B :=
  ⟨hg.size, fun k o hk hc => (hg.block k (blk_lt hk) (fun e => by
    obtain ⟨cells, h⟩ := own_typed ho k e.symm
    rw [hk] at h
    cases h
    cases hc)).trans hk⟩
theorem R_append_In {α : Type} {F : Fence} {n : Nat} {P : Program} {ops : Array Oper} {rest : List Oper} {o : Oper} {a : Act} {Q : Exit → Act → World → Prop} (d : Kd α) {W : World} (base : Nat) (hgd : o.guard = none) (s x : Operand) (t e : TypeId) (z : Value) (bytes : Nat)
    (ho : o.op = .call { callee := .builtin .append, args := #[s, x], argTypes := #[t, t] })
    (ht : P.underlying t = some (.slice e)) (hinfo : (P.info? e).map (fun i => (i.zero, i.size, i.bytes)) = some (some z, d.sz, bytes)) (hz : z.cells.size = d.sz) (hs0 : 0 < d.sz) (hb0 : 0 < bytes)
    (v : Value) (xs : List α) (p : α) (cs : List Value) (ok okp : Nat → Prop) (hs : a.eval s = v) (hx : a.eval x = .slice (some ⟨W.heap.size, 0, none⟩) 1 1) (hp : d.M W base okp p cs) (hokp : ∀ k, okp k → ok k ∧ some k ≠ v.ownBlock) (hfresh : ∀ k, W.heap.size ≤ k → ok k)
    (HO : d.R e W base ok v xs) (hbase : base ≤ W.heap.size) (hl : (xs.length + 1) * bytes ≤ 140737488355328)
    (h : ∀ v1 w1, d.R e w1 base ok v1 (xs ++ [p]) → W.grownBy w1 v.ownBlock → wpListIn F n P ops Q rest (a.put o.dst v1) w1) :
    wpListIn F n P ops Q (o :: rest) a (W.alloc (.cells cs.toArray e)) := by
  obtain ⟨h0, inner, hown, hr⟩ := HO
  obtain ⟨i0, hi, hzz⟩ := Option.map_eq_some_iff.1 hinfo
  simp only [Prod.mk.injEq] at hzz
  obtain ⟨hz0, hz1, hz2⟩ := hzz
  have hlen : xs.length + 1 ≤ 140737488355328 := Nat.le_trans (Nat.le_mul_of_pos_right _ hb0) hl
  have hcs := d.K_len (d.K_of_M hp)
  have h1c := d.K_one (d.K_of_M hp)
  refine wpListIn_plain hgd fun K hK' => ?_
  obtain ⟨v', w', hrun, r1, r2, _, r4⟩ := run_append_own_at (P := P) (w := W.alloc (.cells cs.toArray e)) base t o.type e i0 z d.sz bytes ht hi hz0 hz1 hz2 hz hs0 v xs.length inner (hown.alloc _) ⟨W.heap.size, 0, none⟩ 1 1 cs (by rw [hcs]; simp)
    (by simpa using World.news_of_block (cs := cs.toArray) (t := e) (fr := (0, 0)) (heap_alloc_new W (.cells cs.toArray e))) h1c (by simp only [maxLen]; omega) hl (by simp; omega)
  have hg1 : W.grownBy w' v.ownBlock := World.grownBy.trans (World.grownBy_alloc W _ _) r2
  have hat : v'.ownBlock = v.ownBlock ∨ ∃ b, v'.ownBlock = some b ∧ W.heap.size ≤ b := r4.imp id (fun h => ⟨_, h, by simp⟩)
  unfold Oper.wpIn
  refine ⟨?_, ?_⟩
  · simp [Oper.about, ho, resolve, Target.leads, Sem.run_pure]
  · rw [Oper.semAt_plain F _ _ (by rw [ho]; intro c hc'; cases hc')]
    simp [execOp, ho, resolve, invoke, builtin, hs, hx, hrun, Result.andThen]
    exact hK' _ _ (h v' w' (Kd.R_appended h0 hr hp hokp hfresh r1 hg1 hat) hg1)
end Go.Proofs.YtdooajmgfoobfaaGreatDoor.H
