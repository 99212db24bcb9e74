/- tag.All: the iterator over a series' labels, for every loop body that leaves what was there. -/
import Derived.Test.YtiddemgeehcjpaaPAx0
import Derived.RangeFuncNested
import Derived.RangeFuncBound
import Derived.RangeFuncCalls
import Derived.RangeFuncLeaves
import Derived.Shelf.Abstract
import Derived.Shelf.RegionOpen
import Derived.WalkKit
import Derived.OwnWalkIn
import Derived.TacticsInMore
import Derived.LoopNIn
import Derived.LoopIn
namespace Go.Proofs.Ytiddemgeehcjpaa.H
open Go.RowKit Go.Shelf Go.Proofs.Ytiddemgeehcjpaa.PA Go.Proofs.YtiddemgeehcjpaaW.PrintWords Go.Proofs.YtiddemgeehcjpaaW.PrintLast Go.Proofs.YtiddemgeehcjpaaW.PrintMore
attribute [local go_sem] Oper.semAt_some

theorem ad_block (a : Addr) (j : Nat) : (a.add j).block = a.block := by unfold Addr.add; split <;> rfl
theorem lab_rd {α : Type} (pr : α → S32) (l : List α) (k : Nat) (h : k < l.length) : rd_T32 (l.map pr) (k : Int) = pr l[k] := by
  simp [rd_T32, List.getD_eq_getElem?_getD, List.getElem?_map, List.getElem?_eq_getElem h]

set_option maxRecDepth 100000 in
set_option maxHeartbeats 2000000 in
/-- tag.All's closure. The labels are told as a list of any type with a reading 'pr'. -/
theorem all1_in {α : Type} (pr : α → S32) (F : Fence) (n : Nat) (hF : F.fn 42) (hro : F.round = none) (hn : 1 ≤ n) (lp Bs n₀ : Nat) (m : ByteArray) (A : Option Addr) (c : Nat) (l : List α) (J Jx : List α → World → Prop)
    (hY : ∀ pre x W, J pre W → pre.length < l.length → YieldAt F (n - 1) Try.prog lp #[.string (pr x).f0, .string (pr x).f1] W fun e W' =>
      (e = .returned (.bool true) ∧ J (pre ++ [x]) W' ∧ Below n₀ W W') ∨ (e = .returned (.bool false) ∧ Jx (pre ++ [x]) W'))
    (hJ : ∀ pre W o, J pre W → J pre (W.alloc o)) (W : World) (hn₀ : n₀ ≤ W.heap.size)
    (_hB0 : W.cell? ⟨Bs, 0, none⟩ = some (.string m)) (hB1 : W.cell? ⟨Bs, 1, none⟩ = some (.slice A l.length c)) (hC : Kd.C k32 W A l.length (l.map pr)) (hblk : ∀ ad, A = some ad → 0 < l.length → ad.block < n₀) (h0 : J [] W) :
    CallsIn F n Try.prog 42 #[.func (.yield lp) #[] #[], .pointer (some ⟨Bs, 0, none⟩)] W fun e W' => (∃ v, e = .returned v) ∧
      (J l W' ∨ ∃ pre, pre <+: l ∧ Jx pre W') := by
  have huL := Try.underlying32
  have hmax : l.length ≤ 9223372036854775807 := hC.2.1
  refine callsIn_of_wp Try.func42 rfl hF ?_ hro
  simp only [Try.ntmps42, List.size_toArray, List.length_cons, List.length_nil, Nat.reduceAdd, Nat.reduceSub, Array.replicate_succ, Array.replicate_zero, List.push_toArray, List.append_toArray, List.nil_append, List.cons_append]
  have HC := Aside0.mk hC
  clear hC
  gi_wp2
  gi_loopw [4, 8, 10, 11, 12, 13, 14, 15, 16, 17, 18] (fun _ i _ _ _ _ _ _ _ _ _ wr => ∃ k : Nat, k ≤ l.length ∧ i = .int .i64 k ∧ J (l.take k) wr ∧ Below n₀ W wr)
    (fun _ i _ _ _ _ _ _ _ _ _ _ => l.length - (intOf i).toNat)
  case atStart => exact ⟨0, Nat.zero_le _, rfl, by simpa using h0, Below.refl _ _⟩
  case round =>
    obtain ⟨k, hk, rfl, hJs, hnx⟩ := hrel
    by_cases hlt : k < l.length
    · obtain ⟨ad, rfl, hc0, hc1⟩ := at_T32 HC.out (k : Int) (by omega) (by omega)
      have hbk := hblk ad rfl (by omega)
      have hb1 : (ad.add ((k : Int).toNat * 2)).block < n₀ := by rw [ad_block]; exact hbk
      replace hc0 := (hnx.cell hb1).trans hc0
      replace hc1 := (hnx.cell (p := ⟨(ad.add ((k : Int).toNat * 2)).block, (ad.add ((k : Int).toNat * 2)).off + 1, none⟩) hb1).trans hc1
      rw [lab_rd pr l k hlt] at hc0 hc1
      simp only [Int.toNat_natCast] at hc0 hc1
      have htk : l.take k ++ [l[k]] = l.take (k + 1) := (List.take_succ_eq_append_getElem hlt).symm
      have HTK := Aside0.mk htk
      clear htk
      obtain ⟨x, hx⟩ : ∃ x, l[k] = x := ⟨_, rfl⟩
      rw [hx] at HTK hc0 hc1
      clear hx
      obtain ⟨fn, tmps, assign, body, hy, hR⟩ := hY _ x _ (hJ _ _ (.cells #[.string (pr x).f0, .string (pr x).f1] 32) hJs) (by rw [List.length_take]; omega)
      gi_wp2
      refine hR.mono ?_
      rintro e W3 (⟨rfl, hJ3, hk3⟩ | ⟨rfl, hJx3⟩)
      · gi_wp2
        go_roundw
        case rel => exact ⟨k + 1, by omega, by simp, by rw [← HTK.out]; exact hJ3, (hnx.trans ((Below.refl n₀ wr).alloc (Nat.le_trans hn₀ hnx.size) _)).trans hk3⟩
        case measure => simp [intOf]; omega
      · gi_wp2
        refine bodyPost_ret (results_none rfl _ _ _) rfl ?_
        exact ⟨⟨_, rfl⟩, .inr ⟨_, by rw [HTK.out]; exact List.take_prefix _ _, hJx3⟩⟩
    · obtain rfl : k = l.length := by omega
      gi_wp2
      go_end0
      exact ⟨⟨_, rfl⟩, .inl (by rw [List.take_length] at hJs; exact hJs)⟩

/-- The iterator over a series at ⟨Bs⟩, for every loop body that keeps what lay below n₀. -/
theorem all_stops {α : Type} (pr : α → S32) (F : Fence) (n : Nat) (hF : F.fn 42) (hro : F.round = none) (hn : 1 ≤ n) (Bs n₀ : Nat) (m : ByteArray) (A : Option Addr) (c : Nat) (l : List α) (w : World) (hBs : Bs < w.heap.size) (hn₀ : n₀ ≤ w.heap.size)
    (hB0 : w.cell? ⟨Bs, 0, none⟩ = some (.string m)) (hB1 : w.cell? ⟨Bs, 1, none⟩ = some (.slice A l.length c)) (hC : Kd.C k32 w A l.length (l.map pr)) (hblk : ∀ ad, A = some ad → 0 < l.length → ad.block < n₀) :
    SeqStopsK F n Try.prog 42 #[.pointer (some ⟨Bs, 0, none⟩)] (fun x : α => #[Value.string (pr x).f0, Value.string (pr x).f1]) (Below n₀) (fun ys => ys = l) (fun pre => pre <+: l) l.length w := fun lp J Jx W hW hJ _ hY h0 => by
  have hB0' := (hW.cell (p := ⟨Bs, 0, none⟩) hBs).trans hB0
  have hB1' := (hW.cell (p := ⟨Bs, 1, none⟩) hBs).trans hB1
  refine (all1_in pr F n hF hro hn lp Bs n₀ m A c l J Jx hY (fun pre W1 o h => ?_) W (Nat.le_trans hn₀ hW.size) hB0' hB1' (Kd.C_below hC hW) hblk h0).mono ?_
  · exact hJ pre W1 (W1.alloc o) none h (World.grownBy_alloc W1 o none) (fun r e => by cases e)
  · rintro e W' ⟨he, hj | ⟨pre, hp, hj⟩⟩
    · exact ⟨he, .inl ⟨_, rfl, hj⟩⟩
    · exact ⟨he, .inr ⟨_, hp, hj⟩⟩

/-- A row that is read and has an element lies in a block that was there. -/
theorem C_blk {α : Type} {d : Kd α} {w : World} {A : Option Addr} {l : List α} (h : Kd.C d w A l.length l) (hs : 0 < d.sz) : ∀ ad, A = some ad → 0 < l.length → ad.block < w.heap.size := by
  rintro ad rfl h0
  obtain ⟨ad', e, hc⟩ := h.2.2 h0
  cases e
  obtain ⟨cs, hl, _, hu⟩ := hc 0 l[0] (List.getElem?_eq_getElem h0)
  have h1 := World.block_lt_of_cell? w _ (hu 0 cs[0] (List.getElem?_eq_getElem (by omega)))
  rwa [ad_block] at h1

set_option maxHeartbeats 1000000 in
/-- tag.All: the series is boxed; the function value captures the box. -/
theorem all_calls (m : ByteArray) (A : Option Addr) (n c : Nat) (w : World) :
    Calls Try.prog 28 #[.agg #[.string m, .slice A n c]] w fun e w' => e = .returned (.func (.func 42) #[] #[.pointer (some ⟨w.heap.size, 0, none⟩)]) ∧ w' = w.alloc (.cells #[.string m, .slice A n c] 25) := by
  have huS := Try.underlying25
  go_enter Try.func28, Try.ntmps28
  go_wp2
  go_ret
  exact ⟨rfl, rfl⟩
end Go.Proofs.Ytiddemgeehcjpaa.H
