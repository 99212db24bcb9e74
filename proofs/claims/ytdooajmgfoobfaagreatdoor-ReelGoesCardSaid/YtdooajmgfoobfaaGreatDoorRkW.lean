/- A rack's iterator. -/
import Derived.Test.YtdooajmgfoobfaaGreatDoorRkV
namespace Go.Proofs.YtdooajmgfoobfaaGreatDoor.H
open Go.RowKit Go.Proofs.YtdooajmgfoobfaaGreatDoor.PA Go.Proofs.YtdooajmgfoobfaaGreatDoorW.PrintWords Go.Proofs.YtdooajmgfoobfaaGreatDoorW.PrintLast Go.Proofs.YtdooajmgfoobfaaGreatDoorW.PrintMore
set_option linter.unusedVariables false
set_option linter.unusedSimpArgs false
/-- What a round leaves: the rack, as it was. -/
def KpR (rk : Nat) (T : Tr FV) (A B : World) : Prop := RackAt A rk T → RackAt B rk T
theorem RF_cells {w : World} {rk : Nat} {T : Tr FV} (h : RackAt w rk T) : ∀ i, RF rk T i → ∃ cs t, w.heap[i]? = some (.cells cs t (0, 0)) := by
  intro i hi
  rcases hi with rfl | hi
  · exact ⟨_, _, h.blk⟩
  · have key : ∀ t : Tr FV, At w t → i ∈ t.ids → ∃ cs tt, w.heap[i]? = some (.cells cs tt (0, 0)) := by
      intro t
      induction t with
      | nil => intro _ h; simp [Tr.ids] at h
      | node b k v l r hh m ihl ihr =>
        intro ht hm
        simp only [Tr.ids, List.mem_append, List.mem_cons] at hm
        rcases hm with hm | rfl | hm
        · exact ihl ht.left hm
        · exact ⟨_, _, ht.node⟩
        · exact ihr ht.right hm
    exact key T h.tree hi
theorem RackAt.putObj {W : World} {rk : Nat} {T : Tr FV} (h : RackAt W rk T) {l : Nat} {o o' : Obj} (hl : W.heap[l]? = some o) (ho : o.isCells = false) : RackAt (W.putObj l o') rk T :=
  h.keep (fun i hi _ => World.putObj_heap_other (by
    rintro rfl
    obtain ⟨cs, t, hc⟩ := RF_cells h _ hi
    rw [hl] at hc
    cases hc
    cases ho))
theorem RackAt.grown {W W' : World} {rk : Nat} {T : Tr FV} {row : Option Nat} (h : RackAt W rk T) (hg : W.grownBy W' row) (hr : ∀ r, row = some r → ∃ o : Obj, W.heap[r]? = some o ∧ o.isCells = false) : RackAt W' rk T :=
  h.keep (fun i hi hs => hg.block i hs (fun e => by
    obtain ⟨o, ho, hc⟩ := hr i e.symm
    obtain ⟨cs, t, h2⟩ := RF_cells h i hi
    rw [ho] at h2
    cases h2
    cases hc))
theorem kpR_putObj (rk : Nat) (T : Tr FV) (W : World) (l : Nat) (o o' : Obj) (hl : W.heap[l]? = some o) (ho : o.isCells = false) : KpR rk T W (W.putObj l o') := fun h => h.putObj hl ho
set_option maxRecDepth 100000 in
set_option maxHeartbeats 8000000 in
theorem all1_in (n m lp bx rk : Nat) (T : Tr FV) (W : World) (J Jx : List (ByteArray × FV) → World → Prop) (hd : ∀ s A, J s A → J s A.drew)
    (hY : ∀ pre x W1, J pre W1 → pre ++ [x] <+: T.toL → YieldAt Fence.wide m Tryz.prog lp (entA x) W1 fun e W' => (e = .returned (.bool true) ∧ J (pre ++ [x]) W' ∧ KpR rk T W1 W') ∨ (e = .returned (.bool false) ∧ Jx (pre ++ [x]) W'))
    (hb : W.heap[bx]? = some (.cells #[.pointer (some ⟨rk, 0, none⟩)] 48 (0, 0))) (hr : RackAt W rk T) (h0 : J [] W) :
    CallsIn Fence.wide n Tryz.prog 57 #[.func (.yield lp) #[] #[], .pointer (some ⟨bx, 0, none⟩)] W fun e W' => (∃ v, e = .returned v) ∧
      ((∃ xs, xs = T.toL ∧ J xs W') ∨ ∃ pre, pre <+: T.toL ∧ Jx pre W') := by
  have hc := up_in m lp T (fun s A => J s A ∧ RackAt A rk T) Jx (fun s A h => ⟨hd s A h.1, h.2.keep (fun _ _ _ => rfl)⟩)
    (fun pre x W1 h hp => by
      obtain ⟨fn, tm, asg, bd, hy, hR⟩ := hY pre x W1 h.1 hp
      refine ⟨fn, tm, asg, bd, hy, hR.mono ?_⟩
      rintro e W' (⟨rfl, h1, h2⟩ | ⟨rfl, h1⟩)
      · exact .inl ⟨rfl, h1, h2 h.2⟩
      · exact .inr ⟨rfl, h1⟩) (fun pre W1 h => h.2.tree) T (fun _ h => h) (n - 1) [] W (by simp) ⟨h0, hr⟩
  have d0 := blk_cell hb 0
  have d1 : W.cell? ⟨rk, 1, none⟩ = some (.pointer T.adr) := (blk_cell hr.blk 1).trans rfl
  have HC := Aside0.mk hc
  clear hc hb hr h0 hY hd
  refine callsIn_of_wp Tryz.func57 rfl trivial ?_ rfl
  simp only [Tryz.ntmps57, List.size_toArray, List.length_cons, List.length_nil, Nat.reduceAdd, Nat.reduceSub, Array.replicate_succ, Array.replicate_zero, List.push_toArray, List.append_toArray, List.nil_append, List.cons_append]
  gi_wp2_with fail
  refine ⟨trivial, fun h => by simp [Fence.wide] at h, ?_⟩
  refine HC.out.mono ?_
  clear HC
  rintro e w1 (⟨rfl, hj⟩ | ⟨rfl, q, hq, hj⟩)
  · have FIN := Aside0.mk (show J T.toL w1 by simpa using hj.1)
    clear hj
    gi_wp2
    exact bodyPost_end (results_none rfl _ _ _) rfl ⟨⟨_, rfl⟩, .inl ⟨_, rfl, FIN.out⟩⟩
  · have FIN := Aside0.mk (And.intro hq hj)
    clear hj hq
    gi_wp2
    exact bodyPost_end (results_none rfl _ _ _) rfl ⟨⟨_, rfl⟩, .inr ⟨_, FIN.out.1, FIN.out.2⟩⟩
theorem drew_grown (W : World) : W.grownBy W.drew none := ⟨rfl, rfl, rfl, Nat.le_refl _, fun _ _ _ => rfl⟩
theorem all_hands (n : Nat) (bx rk : Nat) (T : Tr FV) (W : World) (hb : W.heap[bx]? = some (.cells #[.pointer (some ⟨rk, 0, none⟩)] 48 (0, 0))) (hr : RackAt W rk T) :
    Hands Fence.wide n Tryz.prog 57 #[.pointer (some ⟨bx, 0, none⟩)] entA (fun x _ => x ∈ T.toL) (KpR rk T) (fun _ _ => False) (fun xs => xs = T.toL) (fun pre => pre <+: T.toL) T.toL.length W := fun lp J Jx V hV hJ _ _ _ hY h0 =>
  all1_in n (n - 1) lp bx rk T V J Jx (fun s A h => hJ s A A.drew none h (drew_grown A) (by nofun))
    (fun pre x W1 hj hp => hY pre x W1 hj (hp.subset (by simp)) (by have := hp.length_le; simp at this; omega)) (blk_below hb hV) (hr.below hV) h0
set_option maxRecDepth 100000 in
theorem All_calls (rk : Nat) (w : World) : Calls Tryz.prog 31 #[.pointer (some ⟨rk, 0, none⟩)] w fun e w' => e = .returned (.func (.func 57) #[] #[.pointer (some ⟨w.heap.size, 0, none⟩)]) ∧ w' = w.alloc (.cells #[.pointer (some ⟨rk, 0, none⟩)] 48) := by
  go_enter Tryz.func31, Tryz.ntmps31
  go_wp2
  go_ret
  exact ⟨rfl, rfl⟩
end Go.Proofs.YtdooajmgfoobfaaGreatDoor.H
