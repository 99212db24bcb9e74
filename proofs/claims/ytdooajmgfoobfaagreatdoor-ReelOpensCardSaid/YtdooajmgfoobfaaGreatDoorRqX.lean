/- Words that the laws' walks share. -/
import Derived.Test.YtdooajmgfoobfaaGreatDoorRqF
namespace Go.Proofs.YtdooajmgfoobfaaGreatDoor.H
open Go.RowKit Go.Shelf Go.Proofs.YtdooajmgfoobfaaGreatDoor.PA Go.Proofs.YtdooajmgfoobfaaGreatDoorW.PrintWords Go.Proofs.YtdooajmgfoobfaaGreatDoorW.PrintLast Go.Proofs.YtdooajmgfoobfaaGreatDoorW.PrintMore
set_option linter.unusedVariables false
set_option linter.unusedSimpArgs false
section
variable {lo g s base base' : Nat} {W W' : World} {v u : Value} {xs : List ByteArray} {ok ok' : Nat → Prop}
/-- A row of strings grows: all else stays. -/
theorem kept_strs (hr : Kd.R Kd.string 9 W base ok v xs) (hg : W.grownBy W' v.ownBlock) (i : Nat) (cs : Array Value) (t : TypeId) (hc : W.heap[i]? = some (.cells cs t (0, 0))) (ht : 9 ≠ t) : W'.heap[i]? = some (.cells cs t (0, 0)) :=
  blk_grown hc hg (Kd.R_ne hr hc ht)
theorem rn_strs {m : Rl} {D : Dk} (h : Rn W lo g s m D) (hr : Kd.R Kd.string 9 W base ok v xs) (hg : W.grownBy W' v.ownBlock) : Rn W' lo g s m D := by
  obtain ⟨F, h1, h2, h3⟩ := h
  refine ⟨F, ⟨kept_strs hr hg _ _ _ h1.blk (by decide), h1.disk.keep (fun i hi => ?_) (fun i cs hc => by rw [hc]; exact kept_strs hr hg i cs _ hc (by decide))⟩, h2, h3⟩
  obtain ⟨cs, t, hc, ht⟩ := h1.disk.typed i hi
  rw [hc]
  exact kept_strs hr hg i cs t hc (by rcases ht with rfl | rfl | rfl <;> decide)
theorem live_strs {roll : Int} {i : Nat} {im : ByteArray} {rs : List ByteArray} (h : Live W lo g s roll i im rs) (hr : Kd.R Kd.string 9 W base ok v xs) (hg : W.grownBy W' v.ownBlock) : Live W' lo g s roll i im rs := by
  obtain ⟨first, img, pss, D, h1, h2⟩ := h
  exact ⟨first, img, pss, D, rn_strs h1 hr hg, h2⟩
theorem rd_strs {b : List Int} (hb : Kd.R (Kd.int .u8) 5 W base' ok' u b) (hr : Kd.R Kd.string 9 W base ok v xs) (hg : W.grownBy W' v.ownBlock) : Kd.R (Kd.int .u8) 5 W' base' (fun _ => True) u b :=
  Kd.R_mono (Kd.R_step (Kd.R_bound hb) (fun k hk hlt => by
    obtain ⟨_, _, _, q, hq, cells, hc⟩ := hk
    have e : q = 5 := by simpa [Kd.int, Kd.scalar] using hq
    subst e
    rw [hc]
    exact kept_strs hr hg k cells _ hc (by decide))) (fun _ _ => trivial)
theorem bs_strs {ps : List (List Int)} (hb : BsAt W base' u ps) (hr : Kd.R Kd.string 9 W base ok v xs) (hg : W.grownBy W' v.ownBlock) : BsAt W' base' u ps :=
  Kd.R_mono (Kd.R_step (Kd.R_bound hb) (fun k hk hlt => by
    obtain ⟨_, _, _, q, hq, cells, hc⟩ := hk
    have e : q = 22 ∨ q = 5 := by simpa [KBs, Kd.slice, Kd.int, Kd.scalar] using hq
    rw [hc]
    rcases e with rfl | rfl <;> exact kept_strs hr hg k cells _ hc (by decide))) (fun _ _ => trivial)
theorem recL_many {D : Dk} {first : Nat} {img : List Int} {pss : List Sg} {B : Nat} (h : Neat D first img pss B) : (recL pss).length ≤ 100000 * 99 := by
  have hs := h.r.sok
  have hf := hs.few
  have : ∀ l : List Sg, (∀ x ∈ l, x.bytes.length ≤ 100000) → (recL l).length ≤ 100000 * l.length := by
    intro l
    induction l with
    | nil => intro _; simp [recL]
    | cons x l ih =>
      intro hx
      have h1 := ih (fun y hy => hx y (List.mem_cons_of_mem _ hy))
      have h2 := rec_len (hx x (by simp))
      have h3 := framesB_len x.1
      have e : recL (x :: l) = x.1 ++ recL l := rfl
      rw [e, List.length_append, List.length_cons]
      omega
  have h1 := this pss hs.len
  omega
theorem live_len {roll : Int} {i : Nat} {im : ByteArray} {rs : List ByteArray} (h : Live W lo g s roll i im rs) : rs.length ≤ 100000 * 99 := by
  obtain ⟨first, img, pss, D, h1, h2, h3, h4, h5⟩ := h
  have := recL_many h2
  rw [h5]
  unfold sLs
  rw [List.length_map]
  exact this
theorem lit_b0 (W : World) (base : Nat) (hb : base ≤ W.heap.size) : Kd.R (Kd.int .u8) 5 (W.alloc (.cells #[] 5)) base (fun _ => True) (.slice (some ⟨W.heap.size, 0, none⟩) 0 0) [] :=
  Kd.R_of_own (by simpa [encs] using own_lit_of (enc := Value.int .u8) W base 5 [] hb (by simp)) (fun _ _ => trivial)
theorem fuse_val (f n k : Int) (h0 : 0 < n) (h1 : n ≤ 1000) (h2 : n - 1 ≤ k) : 0 ≤ wrap64 ((IntKind.u64.wrap f).tmod n) ∧ wrap64 ((IntKind.u64.wrap f).tmod n) ≤ k := by
  have h3 : 0 ≤ IntKind.u64.wrap f := by
    have := IntKind.wrap_u64 f
    omega
  rw [Int.tmod_eq_emod_of_nonneg h3]
  have h4 := Int.emod_nonneg (IntKind.u64.wrap f) (show n ≠ 0 by omega)
  have h5 := Int.emod_lt_of_pos (IntKind.u64.wrap f) h0
  rw [wrap_in (by omega) (by omega)]
  omega
end
end Go.Proofs.YtdooajmgfoobfaaGreatDoor.H
