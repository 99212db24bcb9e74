/- A range over an iterator that hands over a list's elements in order. Laid by wip/rk_n.py. -/
import Derived.Test.YtdooajmgfoobfaaGreatDoorRkW
namespace Go.Proofs.YtdooajmgfoobfaaGreatDoor.H
open Go.RowKit Go.Proofs.YtdooajmgfoobfaaGreatDoor.PA Go.Proofs.YtdooajmgfoobfaaGreatDoorW.PrintWords Go.Proofs.YtdooajmgfoobfaaGreatDoorW.PrintLast Go.Proofs.YtdooajmgfoobfaaGreatDoorW.PrintMore
attribute [local go_sem] Oper.semAt_some
set_option linter.unusedVariables false
set_option linter.unusedSimpArgs false
/-- What a round's body may do: go on, or return; of what is no cells nothing changes from B on. -/
def RoundEndP {α : Type} (B : Nat) (Kp : World → World → Prop) (I Ir : List α → World → Prop) (xs : List α) (W : World) : Exit → Act → World → Prop := fun e _ W' =>
  (e = .normal ∧ KeepsFrom B W W' ∧ Kp W W' ∧ I xs W') ∨ (e = .ret ∧ KeepsFrom B W W' ∧ Ir xs W')
/-- What an iterator does: it hands over elements that the world bears, at most N, till it is told to end or has none left. -/
def HandsP {α : Type} (F : Fence) (n : Nat) (P : Program) (g : Nat) (lb : Array Value) (encs : α → Array Value) (Rel : List α → α → World → Prop) (Kp St : World → World → Prop) (S Sp : List α → Prop) (N : Nat) (w : World) : Prop :=
  ∀ (l : Nat) (J Jx : List α → World → Prop) (W : World), Below w.heap.size w W → OwnFrom W.heap.size J → OwnFrom W.heap.size Jx → (∀ s A B, J s A → St A B → J s B) → (∀ s A B, Jx s A → St A B → Jx s B) →
    (∀ pre x W1, J pre W1 → Rel pre x W1 → pre.length < N → YieldAt F (n - 1) P l (encs x) W1 fun e W' => (e = .returned (.bool true) ∧ J (pre ++ [x]) W' ∧ Kp W1 W' ∧ KeepsFrom W.heap.size W1 W') ∨ (e = .returned (.bool false) ∧ Jx (pre ++ [x]) W' ∧ KeepsFrom W.heap.size W1 W')) →
    J [] W → CallsIn F n P g (#[.func (.yield l) #[] #[]] ++ lb) W fun e W' => (∃ v, e = .returned v) ∧ ((∃ xs, S xs ∧ J xs W') ∨ (∃ pre, Sp pre ∧ Jx pre W'))
open Go.Proofs.YtdooajmgfoobfaaGreatDoorW.PrintWords
section
variable {α : Type} {F : Fence} {n : Nat} {P : Program} {g : Operand} {ps : Array Tmp} {assign body : Code} {Q : Exit → Act → World → Prop} {a : Act} {w : World}
theorem range_handsP (hro : F.round = none) (h1 : 1 ≤ n) {gf : Nat} {lb : Array Value} (hg : a.eval g = .func (.func gf) #[] lb) (hFg : F.fn gf) (eg : ∀ args w, (callFunc gf args).run P w = .ok (.enter gf args) w)
    {encs : α → Array Value} {Rel : List α → α → World → Prop} {Kp St : World → World → Prop} {S Sp : List α → Prop} {N : Nat} (hseq : HandsP F (n - 1) P gf lb encs Rel Kp St S Sp N w) (hStH : ∀ A B, St A B → ∀ k, w.heap.size ≤ k → B.heap[k]? = A.heap[k]?) (hps : ∀ x, (encs x).size = ps.size)
    (hKt : ∀ {A B C : World}, Kp A B → Kp B C → Kp A C) (hKb : ∀ (W : World) (l : Nat) (o o' : Obj), w.heap.size ≤ l → W.heap[l]? = some o → o.isCells = false → o.isWalk = false → Kp W (W.putObj l o'))
    (I Ir : List α → World → Prop) (hI : OwnFrom w.heap.size I) (hIr : OwnFrom w.heap.size Ir) (hRel : ∀ pre x, OwnFrom w.heap.size (fun (_ : Unit) W => Rel pre x W)) (h0 : I [] w) (hSI : ∀ s A B, I s A → St A B → I s B) (hSIr : ∀ s A B, Ir s A → St A B → Ir s B) (Ax : α → Act → World → Prop) (hAx : ∀ x a', OwnFrom w.heap.size (fun (_ : Unit) W => Ax x a' W))
    (hassign : ∀ (l : Nat) (pre : List α) (x : α) (W : World) (K : Act → World → Prop), I pre W → Rel pre x W → (∀ a' W', KeepsOthers W W' → Kp W W' → I pre W' → Rel pre x W' → Ax x a' W' → K a' W') →
      assign.wpIn (F.inRound l) (n - 1 - 1) P (Exit.then K (fun _ _ _ => False)) { tmps := (ps.zip (encs x)).foldl (fun t (p, v) => t.setIfInBounds p v) a.tmps, defers := [] } W)
    (hbody : ∀ (l : Nat) (pre : List α) (x : α) (a' : Act) (W : World), I pre W → Rel pre x W → Ax x a' W → pre.length < N → body.wpIn (F.inRound l) (n - 1 - 1) P (RoundEndP w.heap.size Kp I Ir (pre ++ [x]) W) a' W)
    (hdone : ∀ (D : Nat) (xs : List α) (W : World), w.heap.size ≤ D → S xs → I xs W → W.heap[D]? = some (.deferred (some [])) → Q .normal { a with defers := { target := .collected D, args := #[] } :: a.defers } W)
    (hstop : ∀ (D : Nat) (pre : List α) (W : World), w.heap.size ≤ D → Sp pre → Ir pre W → W.heap[D]? = some (.deferred (some [])) → Code.ret.wpIn F n P Q { a with defers := { target := .collected D, args := #[] } :: a.defers } W) :
    (Code.rangeFunc g ps assign body).wpIn F n P Q a w := by
  refine wpIn_rangeFunc fun fn hfn => ?_
  rw [hro]
  obtain ⟨L, hL⟩ : ∃ L : LoopState → Option Code → Loop, L = fun st pe => { state := st, pending := pe, fn, tmps := a.tmps, params := ps, assign, body, defers := w.heap.size } := ⟨_, rfl⟩
  have eL : ∀ st pe, L st pe = { state := st, pending := pe, fn, tmps := a.tmps, params := ps, assign, body, defers := w.heap.size } := fun _ _ => by rw [hL]
  clear hL
  -- the two blocks of the loop's own: D = w.heap.size, l = w.heap.size + 1
  obtain ⟨V, hV⟩ : ∃ V, (w.alloc (.deferred (some []))).alloc (.loop (L .ready none)) = V := ⟨_, rfl⟩
  have vs : V.heap.size = w.heap.size + 2 := by rw [← hV]; simp
  have vl : V.heap[w.heap.size + 1]? = some (.loop (L .ready none)) := by
    rw [← hV]
    have := World.alloc_heap_new (w.alloc (.deferred (some []))) (.loop (L .ready none))
    rwa [World.size_alloc] at this
  have vd : V.heap[w.heap.size]? = some (.deferred (some [])) := by rw [← hV]; exact (Below.heap_alloc _ _ _ (by simp)).trans (World.alloc_heap_new w _)
  have vI : I [] V := by rw [← hV]; exact hI.alloc _ (hI.alloc _ h0)
  have vb : Below w.heap.size w V := by rw [← hV]; exact ((Below.refl _ w).alloc (Nat.le_refl _) _).alloc (by simp) _
  have enter : (Instr.enterLoop fn a.tmps ps assign body none).run P w = .ok (w.heap.size + 1, [{ target := .collected w.heap.size, args := #[] }]) V := by
    rw [run_enterLoop_outer, ← eL, hV]
  clear hV
  have old : ∀ {A : World} {row : Option Nat}, (∀ r, row = some r → V.heap.size ≤ r ∧ ∃ o : Obj, A.heap[r]? = some o ∧ o.isCells = false) → ∀ r, row = some r → w.heap.size ≤ r ∧ ∃ o : Obj, A.heap[r]? = some o ∧ o.isCells = false := fun hr r e => by
    obtain ⟨hB, o, ho, hw⟩ := hr r e
    exact ⟨by omega, o, ho, hw⟩
  have stay : ∀ {A B : World} {row : Option Nat} {k : Nat} {o : Obj}, A.grownBy B row → (∀ r, row = some r → V.heap.size ≤ r ∧ ∃ o : Obj, A.heap[r]? = some o ∧ o.isCells = false) → A.heap[k]? = some o → k < V.heap.size → B.heap[k]? = some o :=
    fun hg hr hk hlt => (hg.block _ (Array.getElem?_eq_some_iff.1 hk).1 (fun e => by have := (hr _ e.symm).1; omega)).trans hk
  refine ⟨w.heap.size + 1, [{ target := .collected w.heap.size, args := #[] }], V, { target := .fn (.func gf) lb, args := #[.func (.yield (w.heap.size + 1)) #[] #[]] }, V, gf, #[.func (.yield (w.heap.size + 1)) #[] #[]] ++ lb, V, enter, ?_, ?_, ?_, fun _ => h1, ?_⟩
  · simp only [resolve, hg]
    simp [go_sem]
  · intro f' hf'
    simp [Target.leads] at hf'
    subst hf'
    exact hFg
  · simp [invoke, go_sem, eg]
  have key := hseq (w.heap.size + 1) (fun pre W => I pre W ∧ W.heap[w.heap.size + 1]? = some (.loop (L .ready none)) ∧ W.heap[w.heap.size]? = some (.deferred (some [])))
    (fun pre W => Ir pre W ∧ W.heap[w.heap.size + 1]? = some (.loop (L .done (some .ret))) ∧ W.heap[w.heap.size]? = some (.deferred (some []))) V vb
    (fun s A B row hs hg hr => ⟨hI s A B row hs.1 hg (old hr), stay hg hr hs.2.1 (by omega), stay hg hr hs.2.2 (by omega)⟩) (fun s A B row hs hg hr => ⟨hIr s A B row hs.1 hg (old hr), stay hg hr hs.2.1 (by omega), stay hg hr hs.2.2 (by omega)⟩)
    (fun s A B hs hst => ⟨hSI s A B hs.1 hst, (hStH A B hst _ (by omega)).trans hs.2.1, (hStH A B hst _ (Nat.le_refl _)).trans hs.2.2⟩) (fun s A B hs hst => ⟨hSIr s A B hs.1 hst, (hStH A B hst _ (by omega)).trans hs.2.1, (hStH A B hst _ (Nat.le_refl _)).trans hs.2.2⟩) ?_ ⟨vI, vl, vd⟩
  · refine key.mono ?_
    rintro e W2 ⟨⟨v, rfl⟩, ⟨xs, hS, hi, hl, hd⟩ | ⟨pre, hSp, hi, hl, hd⟩⟩
    · have he := run_endLoop (P := P) hl (by rw [eL]; simp)
      rw [eL] at he
      exact ⟨none, _, he, hdone _ xs _ (Nat.le_refl _) hS (hI.putObj _ hi (by omega) hl rfl) ((World.putObj_heap_other (by omega)).trans hd)⟩
    · have he := run_endLoop (P := P) hl (by rw [eL]; simp)
      rw [eL] at he
      exact ⟨some .ret, _, he, hstop _ pre _ (Nat.le_refl _) hSp (hIr.putObj _ hi (by omega) hl rfl) ((World.putObj_heap_other (by omega)).trans hd)⟩
  -- one round
  rintro pre x W ⟨hi, hl, hd⟩ hx hlen
  have hy := run_yield (P := P) (args := encs x) hl (by rw [eL]; exact hps x)
  rw [eL] at hy
  refine ⟨fn, _, assign, body, hy, roundIn_of_wpIn hfn (hassign _ pre x W _ hi hx fun a' Wa hka hpa hia hxa haa => ?_)⟩
  have hl1 := hka.same _ _ hl rfl
  have hd1 := hka.same _ _ hd rfl
  refine ⟨_, run_beginRound hl1 (by rw [eL]), ?_⟩
  have hlt := (Array.getElem?_eq_some_iff.1 hl1).1
  obtain ⟨U, hU⟩ : ∃ U, Wa.putObj (w.heap.size + 1) (.loop { L .ready none with state := .busy }) = U := ⟨_, rfl⟩
  have ul : U.heap[w.heap.size + 1]? = some (.loop { L .ready none with state := .busy }) := by rw [← hU]; exact World.putObj_heap_same hlt
  have ud : U.heap[w.heap.size]? = some (.deferred (some [])) := by rw [← hU]; exact (World.putObj_heap_other (by omega)).trans hd1
  have uK : Kp Wa U := by rw [← hU]; exact hKb _ _ _ _ (by omega) hl1 rfl rfl
  have uI : I pre U := by rw [← hU]; exact hI.putObj _ hia (by omega) hl1 rfl
  have uR : Rel pre x U := by rw [← hU]; exact (hRel pre x).putObj (s := ()) _ hxa (by omega) hl1 rfl
  have uA : Ax x a' U := by rw [← hU]; exact (hAx x a').putObj (s := ()) _ haa (by omega) hl1 rfl
  rw [hU]
  refine wpIn_mono (hbody _ pre x a' U uI uR uA hlen) ?_
  have kf : ∀ (W3 : World) (o' : Obj), KeepsFrom w.heap.size U W3 → KeepsFrom V.heap.size W (W3.putObj (w.heap.size + 1) o') := fun W3 o' hk3 => ⟨by
      have h1 := hka.size
      have h2 := hk3.size
      have h3 : U.heap.size = Wa.heap.size := by rw [← hU]; simp
      simp only [World.putObj_size]
      omega, fun k o hk h0 ho => by
      have hk1 := hka.same _ _ h0 ho
      have hk2 : U.heap[k]? = some o := by rw [← hU]; exact (World.putObj_heap_other (by omega)).trans hk1
      exact (World.putObj_heap_other (by omega)).trans (hk3.same _ _ (by omega) hk2 ho)⟩
  rintro e a3 W3 (⟨rfl, hk3, hp3, hi3⟩ | ⟨rfl, hk3, hi3⟩)
  · have hl3 := hk3.same _ _ (by omega) ul rfl
    have hr := run_endRound (P := P) none hl3
    have hlt3 := (Array.getElem?_eq_some_iff.1 hl3).1
    rw [eL] at hr
    refine ⟨_, _, hr, .inl ⟨rfl, ⟨hI.putObj _ hi3 (by omega) hl3 rfl, ?_, (World.putObj_heap_other (by omega)).trans (hk3.same _ _ (Nat.le_refl _) ud rfl)⟩, hKt hpa (hKt (hKt uK hp3) (hKb _ _ _ _ (by omega) hl3 rfl rfl)), kf _ _ hk3⟩⟩
    rw [World.putObj_heap_same hlt3, eL]
    rfl
  · have hl3 := hk3.same _ _ (by omega) ul rfl
    have hr := run_endRound (P := P) (some .ret) hl3
    have hlt3 := (Array.getElem?_eq_some_iff.1 hl3).1
    rw [eL] at hr
    refine ⟨_, _, hr, .inr ⟨rfl, ⟨hIr.putObj _ hi3 (by omega) hl3 rfl, ?_, (World.putObj_heap_other (by omega)).trans (hk3.same _ _ (Nat.le_refl _) ud rfl)⟩, kf _ _ hk3⟩⟩
    rw [World.putObj_heap_same hlt3, eL]
    rfl
end
theorem all_handsP (n : Nat) (bx rk : Nat) (T : Tr FV) (W : World) (hb : W.heap[bx]? = some (.cells #[.pointer (some ⟨rk, 0, none⟩)] 48 (0, 0))) (hr : RackAt W rk T) :
    HandsP Fence.wide n Tryz.prog 57 #[.pointer (some ⟨bx, 0, none⟩)] entA (fun pre x _ => pre ++ [x] <+: T.toL) (KpR rk T) (fun _ _ => False) (fun xs => xs = T.toL) (fun pre => pre <+: T.toL) T.toL.length W := fun lp J Jx V hV hJ _ _ _ hY h0 =>
  all1_in n (n - 1) lp bx rk T V J Jx (fun s A h => hJ s A A.drew none h (drew_grown A) (by nofun))
    (fun pre x W1 hj hp => by
      obtain ⟨fn, tm, asg, bd, hy, hR⟩ := hY pre x W1 hj hp (by have := hp.length_le; simp at this; omega)
      refine ⟨fn, tm, asg, bd, hy, hR.mono ?_⟩
      rintro e W' (⟨h1, h2, h3, _⟩ | ⟨h1, h2, _⟩)
      · exact .inl ⟨h1, h2, h3⟩
      · exact .inr ⟨h1, h2⟩) (blk_below hb hV) (hr.below hV) h0
end Go.Proofs.YtdooajmgfoobfaaGreatDoor.H
