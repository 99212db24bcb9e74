/- coil's Coil: which bytes its methods put behind. -/
import Derived.Test.YtdooajmgfoobfaaGreatDoorRlR
import Derived.Test.YtdooajmgfoobfaaGreatDoorBlH
import Derived.Shelf.RegionOpen
import Derived.WalkKit
import Derived.OwnWalkIn
import Derived.TacticsInMore
import Derived.LoopNIn
import Derived.LoopIn
import Derived.Test.YtdooajmgfoobfaaGreatDoorPAx
import Derived.Test.YtdooajmgfoobfaaGreatDoorZz
import Derived.RangeFuncKeeps
namespace Go.Proofs.YtdooajmgfoobfaaGreatDoor.H
open Go.RowKit Go.Shelf Go.Proofs.YtdooajmgfoobfaaGreatDoor.PA Go.Proofs.YtdooajmgfoobfaaGreatDoorW.PrintWords Go.Proofs.YtdooajmgfoobfaaGreatDoorW.PrintLast Go.Proofs.YtdooajmgfoobfaaGreatDoorW.PrintMore
attribute [local go_sem] Oper.semAt_some
set_option linter.unusedVariables false
set_option linter.unusedSimpArgs false
/-- The digits from place i on, the lowest first. -/
def gl (i n : Nat) : List (Int × Int) := if h : n < 128 then [((i : Int), (n : Int))] else ((i : Int), ((n % 128 : Nat) : Int)) :: gl (i + 1) (n / 128)
termination_by n
decreasing_by omega
theorem gl_last {i n : Nat} (h : n < 128) : gl i n = [((i : Int), (n : Int))] := by rw [gl, dif_pos h]
theorem gl_more {i n : Nat} (h : ¬ n < 128) : gl i n = ((i : Int), ((n % 128 : Nat) : Int)) :: gl (i + 1) (n / 128) := by rw [gl, dif_neg h]
theorem gl_pos (i n : Nat) : 0 < (gl i n).length := by
  by_cases h : n < 128
  · rw [gl_last h]; simp
  · rw [gl_more h]; simp
def glA (x : Int × Int) : Array Value := #[.int .i64 x.1, .int .u8 x.2]
def GlRel (x : Int × Int) : Prop := 0 ≤ x.1 ∧ 0 ≤ x.2 ∧ x.2 < 128
def BoxSt (b : Nat) (A B : World) : Prop := ∃ v, B = A.setCell ⟨b, 0, none⟩ v
def BoxKp (b : Nat) (A B : World) : Prop := B.heap[b]? = A.heap[b]?
set_option maxRecDepth 100000 in
set_option maxHeartbeats 8000000 in
theorem groups1_in (n : Nat) (hn : 1 ≤ n) (lp Bs : Nat) (m0 : Nat) (hm0 : m0 < 18446744073709551616) (W : World) (J Jx : List (Int × Int) → World → Prop)
    (hY : ∀ pre x W1, J pre W1 → GlRel x → pre.length < (gl 0 m0).length → YieldAt Fence.wide (n - 1) Tryz.prog lp (glA x) W1 fun e W' =>
      (e = .returned (.bool true) ∧ J (pre ++ [x]) W' ∧ BoxKp Bs W1 W') ∨ (e = .returned (.bool false) ∧ Jx (pre ++ [x]) W'))
    (hSJ : ∀ s A B, J s A → BoxSt Bs A B → J s B) (hSJx : ∀ s A B, Jx s A → BoxSt Bs A B → Jx s B) (hB : W.heap[Bs]? = some (.cells #[.int .u64 m0] 103 (0, 0))) (h0 : J [] W) :
    CallsIn Fence.wide n Tryz.prog 86 #[.func (.yield lp) #[] #[], .pointer (some ⟨Bs, 0, none⟩)] W fun e W' => (∃ v, e = .returned v) ∧
      ((∃ xs, xs = gl 0 m0 ∧ J xs W') ∨ ∃ pre, pre <+: gl 0 m0 ∧ Jx pre W') := by
  refine callsIn_of_wp Tryz.func86 rfl trivial ?_ rfl
  simp only [Tryz.ntmps86, List.size_toArray, List.length_cons, List.length_nil, Nat.reduceAdd, Nat.reduceSub, Array.replicate_succ, Array.replicate_zero, List.push_toArray, List.append_toArray, List.nil_append, List.cons_append]
  have HY := Aside0.mk hY
  have HSJ := Aside0.mk hSJ
  clear hY hSJ
  gi_wp2
  gi_loopw [3, 4, 5, 6, 7, 8, 9, 10, 11, 12, 13, 14, 15, 16, 17, 18] (fun r3 _ _ _ _ _ _ _ _ _ _ _ _ _ _ _ wr => ∃ (j m : Nat) (pre : List (Int × Int)), r3 = .int .i64 j ∧ wr.heap[Bs]? = some (.cells #[.int .u64 m] 103 (0, 0)) ∧ J pre wr ∧ pre ++ gl j m = gl 0 m0 ∧ 2 * j + m ≤ m0 ∧ j < 9223372036854775807)
    (fun r3 _ _ _ _ _ _ _ _ _ _ _ _ _ _ _ wr => match wr.cell? ⟨Bs, 0, none⟩ with | some (.int _ m) => m.toNat | _ => 0)
  case atStart => exact ⟨0, m0, [], rfl, hB, h0, rfl, by omega, by omega⟩
  case round =>
    obtain ⟨j, m, pre, rfl, hb, hJ, hpre, hjm, hj⟩ := hrel
    have c0 := blk_cell hb 0
    have HJP := Aside0.mk hJ
    have HPRE := Aside0.mk hpre
    have HB := Aside0.mk hb
    have HLT := Aside0.mk (show pre.length < (gl 0 m0).length by have := congrArg List.length hpre; rw [List.length_append] at this; have := gl_pos j m; omega)
    clear hJ hpre hb hB h0
    have hm64 : m < 18446744073709551616 := by omega
    have hd : IntKind.u8.wrap (bits .and .u64 (m : Int) 127) = ((m % 128 : Nat) : Int) := by
      rw [show bits .and .u64 (m : Int) 127 = (m : Int) % 128 from bits_mask .u64 64 (by decide) wraps_u64 7 (by decide) (m : Int) (by omega) (by omega), IntKind.wrap_u8]
      omega
    by_cases hlt : m < 128
    · have hltI : ((m : Int) < 128) := by omega
      have hm2 : ((m % 128 : Nat) : Int) = (m : Int) := by omega
      rw [hm2] at hd
      have HE := Aside0.mk (show pre ++ [((j : Int), (m : Int))] = gl 0 m0 by rw [← HPRE.out, gl_last hlt])
      obtain ⟨fn, tmps, assign, body, hy, hR⟩ := HY.out pre ((j : Int), (m : Int)) _ HJP.out ⟨by simp, by simp, hltI⟩ HLT.out
      have HRR := Aside0.mk hR
      clear hR
      simp only [glA] at hy
      gi_wp2
      refine HRR.out.mono ?_
      rintro e W3 (⟨rfl, hJ3, hk3⟩ | ⟨rfl, hJx3⟩)
      · have hb3 := Aside0.mk (show W3.heap[Bs]? = some (.cells #[.int .u64 m] 103 (0, 0)) from hk3.trans HB.out)
        have c3 := blk_cell hb3.out 0
        have HJ3 := Aside0.mk hJ3
        clear hJ3
        gi_wp2
        exact bodyPost_ret (results_none rfl _ _ _) rfl ⟨⟨_, rfl⟩, .inl ⟨_, HE.out, HJ3.out⟩⟩
      · have HJ3 := Aside0.mk hJx3
        clear hJx3
        gi_wp2
        exact bodyPost_ret (results_none rfl _ _ _) rfl ⟨⟨_, rfl⟩, .inr ⟨_, ⟨[], by rw [List.append_nil]; exact HE.out⟩, HJ3.out⟩⟩
    · have hltI : ¬ ((m : Int) < 128) := by omega
      have HE := Aside0.mk (show (pre ++ [((j : Int), ((m % 128 : Nat) : Int))]) ++ gl (j + 1) (m / 128) = gl 0 m0 by rw [List.append_assoc, ← HPRE.out, gl_more hlt]; rfl)
      obtain ⟨d, hdm⟩ : ∃ d : Int, ((m % 128 : Nat) : Int) = d := ⟨_, rfl⟩
      rw [hdm] at hd HE
      have hd2 : 0 ≤ d ∧ d < 128 := by omega
      clear hdm
      obtain ⟨fn, tmps, assign, body, hy, hR⟩ := HY.out pre ((j : Int), d) _ HJP.out ⟨by simp, hd2.1, hd2.2⟩ HLT.out
      have HRR := Aside0.mk hR
      clear hR
      simp only [glA] at hy
      gi_wp2
      refine HRR.out.mono ?_
      rintro e W3 (⟨rfl, hJ3, hk3⟩ | ⟨rfl, hJx3⟩)
      · have hb3 := Aside0.mk (show W3.heap[Bs]? = some (.cells #[.int .u64 m] 103 (0, 0)) from hk3.trans HB.out)
        have c3 := blk_cell hb3.out 0
        have f3 := blk_frozen hb3.out 0
        have HJ3 := Aside0.mk hJ3
        clear hJ3
        gi_wp2
        go_roundw
        case rel =>
          refine ⟨j + 1, m / 128, _, by simp, ?_, ?_, HE.out, by omega, by omega⟩
          · have := blk_set hb3.out 0 (.int .u64 ((m / 128 : Nat) : Int))
            simpa using this
          · exact HSJ.out _ _ _ HJ3.out ⟨_, rfl⟩
        case measure =>
          rw [c0]
          have h := blk_cell (blk_set hb3.out 0 (.int .u64 ((m : Int) / 128))) 0
          rw [h]
          simp
          omega
      · have HJ3 := Aside0.mk hJx3
        clear hJx3
        gi_wp2
        exact bodyPost_ret (results_none rfl _ _ _) rfl ⟨⟨_, rfl⟩, .inr ⟨_, ⟨gl (j + 1) (m / 128), HE.out⟩, HJ3.out⟩⟩
theorem groups_calls (m : Nat) (w : World) : Calls Tryz.prog 74 #[.int .u64 m] w fun e w' => e = .returned (.func (.func 86) #[] #[.pointer (some ⟨w.heap.size, 0, none⟩)]) ∧ w' = w.alloc (.cells #[.int .u64 m] 103) := by
  go_enter Tryz.func74, Tryz.ntmps74
  go_wp2
  go_ret
  exact ⟨rfl, rfl⟩
theorem groups_hands (n : Nat) (hn : 1 ≤ n) (Bs m0 : Nat) (hm0 : m0 < 18446744073709551616) (W : World) (hB : W.heap[Bs]? = some (.cells #[.int .u64 m0] 103 (0, 0))) :
    Hands Fence.wide n Tryz.prog 86 #[.pointer (some ⟨Bs, 0, none⟩)] glA (fun x _ => GlRel x) (BoxKp Bs) (BoxSt Bs) (fun xs => xs = gl 0 m0) (fun pre => pre <+: gl 0 m0) (gl 0 m0).length W := fun lp J Jx V hV hJ _ hSJ hSJx hY h0 =>
  groups1_in n hn lp Bs m0 hm0 V J Jx hY hSJ hSJx (blk_below hB hV) h0
end Go.Proofs.YtdooajmgfoobfaaGreatDoor.H
namespace Go.Proofs.YtdooajmgfoobfaaGreatDoor.H
open Go.RowKit Go.Proofs.YtdooajmgfoobfaaGreatDoor.PA Go.Proofs.YtdooajmgfoobfaaGreatDoorW.PrintWords Go.Proofs.YtdooajmgfoobfaaGreatDoorW.PrintLast Go.Proofs.YtdooajmgfoobfaaGreatDoorW.PrintMore
set_option linter.unusedVariables false
set_option linter.unusedSimpArgs false
theorem wrap_in {n : Int} (h1 : -9223372036854775808 ≤ n) (h2 : n ≤ 9223372036854775807) : wrap64 n = n := by unfold wrap64; omega
theorem rd_at (l r : List Int) (x : Int) : rd (l ++ x :: r) (l.length : Int) = x := by
  unfold rd
  rw [Int.toNat_natCast, List.getD_eq_getElem?_getD, List.getElem?_append_right (Nat.le_refl _), Nat.sub_self]
  rfl
theorem set_at (l r : List Int) (x y : Int) : (l ++ x :: r).set l.length y = l ++ y :: r := by
  rw [List.set_append_right _ _ (Nat.le_refl _), Nat.sub_self]
  rfl
theorem rev_loop : ∀ (N : Nat) (P M S : List Int) (K : Nat), M.length ≤ N → N < K → P.length + M.length + S.length ≤ 1000000 → slices_Reverse_byte_byte.l0 K (P ++ M ++ S) (P.length : Int) ((P.length : Int) + (M.length : Int) - 1) = some (P ++ M.reverse ++ S) := by
  intro N
  induction N using Nat.strongRecOn with
  | ind N ih =>
    intro P M S K hM hK hl
    obtain ⟨K, rfl⟩ : ∃ m, K = m + 1 := ⟨K - 1, by omega⟩
    unfold slices_Reverse_byte_byte.l0
    match M, hM, hl with
    | [], hM, hl => rw [if_neg (by simp; omega)]; simp
    | [a], hM, hl => rw [if_neg (by simp)]; simp
    | a :: c :: M', hM, hl =>
      obtain ⟨M2, b, hb⟩ : ∃ M2 b, c :: M' = M2 ++ [b] := ⟨(c :: M').dropLast, (c :: M').getLast (by simp), (List.dropLast_concat_getLast (by simp)).symm⟩
      rw [hb] at hM hl ⊢
      simp only [List.length_cons, List.length_append, List.length_nil] at hM hl ⊢
      rw [if_pos (by omega), if_pos (by omega), if_pos (by simp; omega), if_pos (by omega), if_pos (by simp; omega)]
      have e1 : rd (P ++ a :: (M2 ++ [b]) ++ S) (P.length : Int) = a := by rw [show P ++ a :: (M2 ++ [b]) ++ S = P ++ a :: (M2 ++ [b] ++ S) by simp]; exact rd_at _ _ _
      have e2 : rd (P ++ a :: (M2 ++ [b]) ++ S) ((P.length : Int) + ((M2.length + 1 + 1 : Nat) : Int) - 1) = b := by
        rw [show P ++ a :: (M2 ++ [b]) ++ S = (P ++ a :: M2) ++ b :: S by simp, show (P.length : Int) + ((M2.length + 1 + 1 : Nat) : Int) - 1 = ((P ++ a :: M2).length : Int) by simp; omega]
        exact rd_at _ _ _
      have e3 : (((P ++ a :: (M2 ++ [b]) ++ S).set (P.length : Int).toNat b).set ((P.length : Int) + ((M2.length + 1 + 1 : Nat) : Int) - 1).toNat a) = (P ++ [b]) ++ M2 ++ (a :: S) := by
        rw [Int.toNat_natCast, show P ++ a :: (M2 ++ [b]) ++ S = P ++ a :: (M2 ++ [b] ++ S) by simp, set_at, show P ++ b :: (M2 ++ [b] ++ S) = (P ++ b :: M2) ++ b :: S by simp, show ((P.length : Int) + ((M2.length + 1 + 1 : Nat) : Int) - 1).toNat = (P ++ b :: M2).length by simp; omega, set_at]
        simp
      simp only [Nat.zero_add] at *
      rw [e1, e2, e3, wrap_in (by omega) (by omega), wrap_in (by omega) (by omega)]
      have := ih M2.length (by omega) (P ++ [b]) M2 (a :: S) K (Nat.le_refl _) (by omega) (by simp; omega)
      rw [show (P.length : Int) + 1 = ((P ++ [b]).length : Int) by simp, show (P.length : Int) + ((M2.length + 1 + 1 : Nat) : Int) - 1 - 1 = ((P ++ [b]).length : Int) + (M2.length : Int) - 1 by simp; omega, this]
      simp
theorem rev_eq (l : List Int) (hl : l.length ≤ 1000000) : slices_Reverse_byte_byte.f (l.length + 1) l = some l.reverse := by
  have := rev_loop l.length [] l [] (l.length + 1) (Nat.le_refl _) (by omega) (by simp; omega)
  unfold slices_Reverse_byte_byte.f
  rw [wrap_in (by omega) (by omega)]
  simpa using this
end Go.Proofs.YtdooajmgfoobfaaGreatDoor.H
namespace Go.Proofs.YtdooajmgfoobfaaGreatDoor.H
open Go.RowKit Go.Shelf Go.Proofs.YtdooajmgfoobfaaGreatDoor.PA Go.Proofs.YtdooajmgfoobfaaGreatDoorW.PrintWords Go.Proofs.YtdooajmgfoobfaaGreatDoorW.PrintLast Go.Proofs.YtdooajmgfoobfaaGreatDoorW.PrintMore
attribute [local go_sem] Oper.semAt_some
set_option linter.unusedVariables false
set_option linter.unusedSimpArgs false
theorem info5 : (Tryz.prog.info? 5).map (fun i => (i.zero, i.size, i.bytes)) = some (some (.int .u8 0), 1, 1) := by kernel_rfl
/-! What a number from 0 on is as bytes. -/
def hiB (n : Nat) : List Int := if h : n = 0 then [] else hiB (n / 128) ++ [((n % 128 : Nat) : Int) + 128]
termination_by n
decreasing_by omega
def numB (n : Nat) : List Int := hiB (n / 128) ++ [((n % 128 : Nat) : Int)]
theorem hiB_zero : hiB 0 = [] := by rw [hiB, dif_pos rfl]
theorem hiB_pos {n : Nat} (h : n ≠ 0) : hiB n = hiB (n / 128) ++ [((n % 128 : Nat) : Int) + 128] := by rw [hiB, dif_neg h]
def dig (x : Int × Int) : Int := if 0 < x.1 then x.2 + 128 else x.2
theorem gl_hi : ∀ (N i n : Nat), n ≤ N → n ≠ 0 → ((gl (i + 1) n).map dig).reverse = hiB n := by
 intro N
 induction N with
 | zero => intro i n h0 h1; omega
 | succ N ih =>
  intro i n h0 h1
  rw [hiB_pos h1]
  by_cases h : n < 128
  ·rw [gl_last h, show n / 128 = 0 by omega, hiB_zero, show n % 128 = n by omega]
   simp [dig]
  ·rw [gl_more h, List.map_cons, List.reverse_cons, ih (i + 1) (n / 128) (by omega) (by omega)]
   simp [dig]
theorem gl_numB (n : Nat) : ((gl 0 n).map dig).reverse = numB n := by
 unfold numB
 by_cases h : n < 128
 ·rw [gl_last h, show n / 128 = 0 by omega, hiB_zero, show n % 128 = n by omega]
  simp [dig]
 ·rw [gl_more h, List.map_cons, List.reverse_cons, gl_hi _ 0 (n / 128) (Nat.le_refl _) (by omega)]
  simp [dig]
theorem hiB_len : ∀ (k n : Nat), n < 128 ^ k → (hiB n).length ≤ k := by
 intro k
 induction k with
 | zero => intro n h; rw [show n = 0 by simpa using h, hiB_zero]; simp
 | succ k ih =>
  intro n h
  by_cases h0 : n = 0
  ·rw [h0, hiB_zero]; simp
  ·have := ih (n / 128) (by rw [Nat.pow_succ] at h; omega)
   rw [hiB_pos h0, List.length_append, List.length_singleton]
   omega
theorem numB_len {n : Nat} (h : n < 18446744073709551616) : (numB n).length ≤ 11 := by
 have := hiB_len 10 (n / 128) (by omega)
 unfold numB
 rw [List.length_append, List.length_singleton]
 omega
theorem gl_len (n : Nat) (h : n < 18446744073709551616) : (gl 0 n).length ≤ 11 := by
 have := congrArg List.length (gl_numB n)
 rw [List.length_reverse, List.length_map] at this
 have := numB_len h
 omega
/-! Where bytes are being put. -/
def CS (w0 : World) (g : Nat) (bs : List Int) (W : World) : Prop := Below w0.heap.size w0 W ∧ w0.heap.size ≤ g ∧ ∃ v, W.heap[g]? = some (.cells #[v] 70 (0, 0)) ∧ Kd.R (Kd.int .u8) 5 W w0.heap.size (fun _ => True) v bs
/-- The block of the coil's row. -/
def CR (g : Nat) (W : World) : Option Nat := match W.heap[g]? with
 | some (.cells cs _ _) => (cs[0]?).bind Value.ownBlock
 | _ => none
theorem CR_of {g T : Nat} {W : World} {v : Value} (h : W.heap[g]? = some (.cells #[v] T (0, 0))) : CR g W = v.ownBlock := by
 unfold CR
 rw [h]
 rfl
theorem CR_eq {g : Nat} {W W' : World} (h : W'.heap[g]? = W.heap[g]?) : CR g W' = CR g W := by
 unfold CR
 rw [h]
/-- What else stays: whatever is not the coil's row, nor the coil itself; its row is the old one, or new. -/
def PF (g : Nat) (w w' : World) : Prop := w.heap.size ≤ w'.heap.size ∧ g < w.heap.size ∧ (∀ k o, w.heap[k]? = some o → k ≠ g → some k ≠ CR g w → w'.heap[k]? = some o) ∧ (CR g w' = CR g w ∨ ∃ b, CR g w' = some b ∧ w.heap.size ≤ b)
theorem PF.refl {g : Nat} {w : World} (h : g < w.heap.size) : PF g w w := ⟨Nat.le_refl _, h, fun _ _ h _ _ => h, .inl rfl⟩
theorem PF.trans {g : Nat} {a b c : World} (h : PF g a b) (k : PF g b c) : PF g a c := by
 refine ⟨Nat.le_trans h.1 k.1, h.2.1, fun i o hi hne hr => k.2.2.1 i o (h.2.2.1 i o hi hne hr) hne ?_, ?_⟩
 ·have hl := blk_lt hi
  rcases h.2.2.2 with e | ⟨q, e, hq⟩
  ·rw [e]; exact hr
  ·rw [e]
   intro e2
   injection e2 with e2
   omega
 ·rcases k.2.2.2 with e | ⟨q, e, hq⟩
  ·rw [e]; exact h.2.2.2
  ·exact .inr ⟨q, e, Nat.le_trans h.1 hq⟩
theorem PF.of_below {g : Nat} {w w' : World} (hg : g < w.heap.size) (h : Below w.heap.size w w') : PF g w w' := ⟨h.size, hg, fun k o hk _ _ => blk_below hk h, .inl (CR_eq (h.block g hg))⟩
theorem PF.put {w w1 : World} {g : Nat} {cv v1 : Value} (hv : w.heap[g]? = some (.cells #[cv] 70 (0, 0))) (hv1 : w1.heap[g]? = some (.cells #[cv] 70 (0, 0))) (hg : w.grownBy w1 cv.ownBlock) (hat : v1.ownBlock = cv.ownBlock ∨ ∃ b, v1.ownBlock = some b ∧ w.heap.size ≤ b) : PF g w (w1.setCell ⟨g, 0, none⟩ v1) := by
 have hgs : (w1.setCell ⟨g, 0, none⟩ v1).heap[g]? = some (.cells #[v1] 70 (0, 0)) := by simpa using blk_set hv1 0 v1
 refine ⟨by rw [World.size_setCell]; exact hg.size, blk_lt hv, fun k o hk hne hr => ?_, ?_⟩
 ·rw [CR_of hv] at hr
  exact (Below.heap_setCell w1 ⟨g, 0, none⟩ v1 k hne).trans ((hg.block k (blk_lt hk) hr).trans hk)
 ·rw [CR_of hv, CR_of hgs]
  exact hat
theorem PF.obj {g D : Nat} {a w : World} (h : PF g a w) (hD : a.heap.size ≤ D) (o' : Obj) : PF g a (w.putObj D o') := by
 have h2 := h.2.1
 have hs := (grownBy_putObj' w D o').size
 refine ⟨Nat.le_trans h.1 hs, h2, fun k o hk hne hr => ?_, ?_⟩
 ·have hl := blk_lt hk
  exact (World.putObj_heap_other (by omega)).trans (h.2.2.1 k o hk hne hr)
 ·rw [CR_eq (World.putObj_heap_other (show g ≠ D by omega))]
  exact h.2.2.2
theorem CS.lt {w0 W : World} {g : Nat} {bs : List Int} (h : CS w0 g bs W) : g < W.heap.size := by
 obtain ⟨_, _, v, hb, _⟩ := h
 exact blk_lt hb
theorem CS.kept {w0 W W' : World} {g : Nat} {bs : List Int} (h : CS w0 g bs W) (hb : Below W.heap.size W W') : CS w0 g bs W' := by
 obtain ⟨h1, h2, v, hk, hr⟩ := h
 exact ⟨h1.trans (hb.mono h1.size), h2, v, blk_below hk hb, Kd.R_below hr hb⟩
/-- A block that is no row of bytes. -/
theorem PF.blk {g k T : Nat} {w0 w w' : World} {bs : List Int} {cs : Array Value} (h : PF g w w') (hc : CS w0 g bs w) (hk : w.heap[k]? = some (.cells cs T (0, 0))) (hne : k ≠ g) (hT : T ≠ 5) : w'.heap[k]? = some (.cells cs T (0, 0)) := by
 obtain ⟨_, _, v, hv, hr⟩ := hc
 exact h.2.2.1 k _ hk hne (by rw [CR_of hv]; exact Kd.R_ne hr hk (Ne.symm hT))
structure NumSt (w : World) (pre : List (Int × Int)) (W : World) : Prop where
 hb : Below w.heap.size w W
 dg : ∃ v, W.heap[w.heap.size]? = some (.cells #[v] 22 (0, 0)) ∧ Kd.R (Kd.int .u8) 5 W w.heap.size (fun _ => True) v (pre.map dig)
 bx : ∃ u, W.heap[w.heap.size + 1]? = some (.cells #[u] 103 (0, 0))
 sz : w.heap.size + 2 ≤ W.heap.size
theorem NumSt.own (w : World) {B : Nat} (hB : w.heap.size ≤ B) : OwnFrom B (NumSt w) := fun s W W' row hs hg hr => by
 obtain ⟨v, h1, h2⟩ := hs.dg
 obtain ⟨u, h3⟩ := hs.bx
 exact ⟨hs.hb.grown hg hs.hb.size (fun k e => Nat.le_trans hB (hr k e).1), ⟨v, blk_grown h1 hg (cells_ne_row hr h1), R_ownFrom h2 hg hr⟩, ⟨u, blk_grown h3 hg (cells_ne_row hr h3)⟩, Nat.le_trans hs.sz hg.size⟩
theorem NumSt.box {w A B : World} {pre : List (Int × Int)} (h : NumSt w pre A) (hst : BoxSt (w.heap.size + 1) A B) : NumSt w pre B := by
 obtain ⟨u, rfl⟩ := hst
 obtain ⟨v, h1, h2⟩ := h.dg
 obtain ⟨q, hx⟩ := h.bx
 exact ⟨h.hb.setCell (p := ⟨w.heap.size + 1, 0, none⟩) (by simp only; omega) _, ⟨v, blk_far h1 (p := ⟨w.heap.size + 1, 0, none⟩) (by simp only; omega) _, Kd.R_set h2 hx (by decide) 0 _⟩, ⟨u, by simpa using blk_set hx 0 u⟩, by rw [World.size_setCell]; exact h.sz⟩
theorem box_heap {b : Nat} {A B : World} (h : BoxSt b A B) {k : Nat} (hk : k ≠ b) : B.heap[k]? = A.heap[k]? := by
 obtain ⟨u, rfl⟩ := h
 exact Below.heap_setCell A ⟨b, 0, none⟩ u k hk
/-- One digit more: the row grows, all else stays. -/
theorem NumSt.append {F : Fence} {nn : Nat} {P : Program} {ops : Array Oper} {rest : List Oper} {o : Oper} {a : Act} {Q : Exit → Act → World → Prop} {w W : World} {pre : List (Int × Int)} {v : Value} (x : Int × Int) (y : Int) (hy : dig x = y) (hP : P = Tryz.prog) (hgd : o.guard = none) (s q : Operand)
  (ho : o.op = .call { callee := .builtin .append, args := #[s, q], argTypes := #[22, 22] }) (hs : a.eval s = v) (hx : a.eval q = .slice (some ⟨W.heap.size, 0, none⟩) 1 1) (hS : NumSt w pre W) (hv : W.heap[w.heap.size]? = some (.cells #[v] 22 (0, 0)))
  (hl : pre.length ≤ 100)
  (h : ∀ A1 n1 c1 w1, w1.cell? ⟨w.heap.size, 0, none⟩ = some v → w1.frozen? ⟨w.heap.size, 0, none⟩ = false → (KeepsOthers W (w1.setCell ⟨w.heap.size, 0, none⟩ (.slice A1 n1 c1)) ∧ BoxKp (w.heap.size + 1) W (w1.setCell ⟨w.heap.size, 0, none⟩ (.slice A1 n1 c1)) ∧ NumSt w (pre ++ [x]) (w1.setCell ⟨w.heap.size, 0, none⟩ (.slice A1 n1 c1))) → wpListIn F nn P ops Q rest (a.put o.dst (.slice A1 n1 c1)) w1) :
  wpListIn F nn P ops Q (o :: rest) a (W.alloc (.cells #[.int .u8 y] 5)) := by
 subst hP
 obtain ⟨v0, hob, hro⟩ := hS.dg
 obtain ⟨u, hbx⟩ := hS.bx
 have hv0 : v0 = v := by rw [hob] at hv; injection hv with hv; injection hv with hv; simpa using hv
 subst hv0
 refine R_append_In (Kd.int .u8) w.heap.size hgd s q 22 5 (.int .u8 0) 1 ho Tryz.underlying22 info5 rfl (by decide) (by omega) v0 (pre.map dig) y [.int .u8 y] (fun _ => True) (fun _ => False) hs hx rfl (fun _ hk => hk.elim) (fun _ _ => trivial) hro hS.hb.size (by rw [List.length_map]; omega) ?_
 intro v1 w1 hr hg
 have hne : some w.heap.size ≠ v0.ownBlock := Kd.R_ne hro hob (by decide)
 have hnb : some (w.heap.size + 1) ≠ v0.ownBlock := Kd.R_ne hro hbx (by decide)
 have h1 := blk_grown hob hg hne
 have h2 := blk_grown hbx hg hnb
 obtain ⟨inner, hown⟩ := Kd.R_own hro
 have hlow : ∀ k, v0.ownBlock = some k → w.heap.size ≤ k := fun k hk => own_base hown k hk
 have hb1 : Below w.heap.size w w1 := hS.hb.grown hg hS.hb.size hlow
 obtain ⟨A1, n1, c1, hv1⟩ : ∃ A n c, v1 = .slice A n c := by obtain ⟨A, c, e⟩ := Kd.R_slice hr; exact ⟨A, _, c, e⟩
 subst hv1
 refine h A1 n1 c1 w1 (blk_cell h1 0) (blk_frozen h1 0) ⟨(keeps_grown hg hown).trans (KeepsOthers.setCell _ _ _), ?_, ?_⟩
 ·exact (Below.heap_setCell w1 ⟨w.heap.size, 0, none⟩ _ (w.heap.size + 1) (by simp only; omega)).trans (hg.block _ (blk_lt hbx) hnb)
 ·refine ⟨hb1.setCell (p := ⟨w.heap.size, 0, none⟩) (Nat.le_refl _) _, ⟨_, by simpa using blk_set h1 0 (.slice A1 n1 c1), ?_⟩, ⟨u, blk_far h2 (p := ⟨w.heap.size, 0, none⟩) (by simp only; omega) _⟩, by rw [World.size_setCell]; exact Nat.le_trans hS.sz hg.size⟩
  rw [List.map_append, List.map_singleton, hy]
  exact Kd.R_set hr h1 (by decide) 0 _
/-- Behind the append and the store, and the loop's own block. -/
theorem coil_fin {w0 w w6 w1 : World} {g D : Nat} {bs xs : List Int} {cv v1 : Value} (h0 : CS w0 g bs w) (hb : Below w.heap.size w w6) (hv : w.heap[g]? = some (.cells #[cv] 70 (0, 0))) (hc : Kd.R (Kd.int .u8) 5 w6 w0.heap.size (fun _ => True) cv bs) (hg : w6.drew.grownBy w1 cv.ownBlock)
  (hv1 : w1.heap[g]? = some (.cells #[cv] 70 (0, 0))) (hr : Kd.R (Kd.int .u8) 5 w1 w0.heap.size (fun _ => True) v1 (bs ++ xs)) (hB : Below w0.heap.size w0 w1) (hat : v1.ownBlock = cv.ownBlock ∨ ∃ b, v1.ownBlock = some b ∧ w6.drew.heap.size ≤ b) (hD : w.heap.size ≤ D) (hK : w6.heap[D]? = some (.deferred (some []))) :
  (w1.setCell ⟨g, 0, none⟩ v1).heap[D]? = some (.deferred (some [])) ∧ CS w0 g (bs ++ xs) ((w1.setCell ⟨g, 0, none⟩ v1).putObj D (.deferred none)) ∧ PF g w ((w1.setCell ⟨g, 0, none⟩ v1).putObj D (.deferred none)) := by
 have hlt : g < w.heap.size := blk_lt hv
 have hown := Kd.own_of_R hc
 have hne : some D ≠ cv.ownBlock := fun e => by obtain ⟨cl, hcl⟩ := own_typed hown D e.symm; rw [hK] at hcl; cases hcl
 have h1 : (w1.setCell ⟨g, 0, none⟩ v1).heap[D]? = some (.deferred (some [])) := (Below.heap_setCell w1 ⟨g, 0, none⟩ v1 D (by simp only; omega)).trans ((hg.block D (blk_lt (w := w6.drew) hK) hne).trans hK)
 have hgr := grownBy_putObj' (w1.setCell ⟨g, 0, none⟩ v1) D (.deferred none)
 have hrr : ∀ r, some D = some r → 0 ≤ r ∧ ∃ o : Obj, (w1.setCell ⟨g, 0, none⟩ v1).heap[r]? = some o ∧ o.isCells = false := fun r e => by cases e; exact ⟨Nat.zero_le _, _, h1, rfl⟩
 have hgs : (w1.setCell ⟨g, 0, none⟩ v1).heap[g]? = some (.cells #[v1] 70 (0, 0)) := by simpa using blk_set hv1 0 v1
 have hw0 := h0.1.size
 refine ⟨h1, ⟨?_, h0.2.1, v1, (World.putObj_heap_other (by omega)).trans hgs, R_ownFrom (Kd.R_set hr hv1 (by decide) 0 _) hgr hrr⟩, ?_⟩
 ·exact (hB.setCell (p := ⟨g, 0, none⟩) h0.2.1 _).grown hgr (by rw [World.size_setCell]; exact hB.size) (fun k e => by cases e; omega)
 ·have hp1 : PF g w w6 := PF.of_below hlt hb
  have hp2 : PF g w6.drew (w1.setCell ⟨g, 0, none⟩ v1) := PF.put (blk_drew (blk_below hv hb)) hv1 hg hat
  exact (hp1.trans hp2).obj hD _
set_option maxRecDepth 100000 in
set_option maxHeartbeats 8000000 in
theorem cnum_calls (w0 : World) (g : Nat) (bs : List Int) (m : Nat) (hm : m < 18446744073709551616) (hl : bs.length ≤ 100000000000000) (w : World) (h : CS w0 g bs w) :
  Calls Tryz.prog 54 #[.pointer (some ⟨g, 0, none⟩), .int .u64 m] w fun e w' => e = .returned (.tuple #[]) ∧ CS w0 g (bs ++ numB m) w' ∧ PF g w w' := by
 have HS := Aside0.mk h
 have HL := Aside0.mk hl
 clear h hl
 refine (callsIn_wide (n := 6)).1 ?_
 refine callsIn_of_wp_marks Tryz.func54 rfl trivial ?_ rfl
 simp only [Tryz.ntmps54, List.size_toArray, List.length_cons, List.length_nil, Nat.reduceAdd, Nat.reduceSub, Array.replicate_succ, Array.replicate_zero, List.push_toArray, List.append_toArray, List.nil_append, List.cons_append]
 gi_wp2_with fail
 refine ⟨trivial, ?_⟩
 gi_at_call 74
 refine (callsIn_wide.2 (groups_calls m _)).mono ?_
 rintro e w4 ⟨rfl, rfl⟩
 gi_wp2_with fail
 have hP0 : NumSt w [] ((w.alloc (.cells #[.slice none 0 0] 22)).alloc (.cells #[.int .u64 m] 103)) ∧ ((w.alloc (.cells #[.slice none 0 0] 22)).alloc (.cells #[.int .u64 m] 103)).heap[w.heap.size + 1]? = some (.cells #[.int .u64 m] 103 (0, 0)) := by
  have e0 := heap_alloc2_old w (.cells #[.slice none 0 0] 22) (.cells #[.int .u64 m] 103)
  have e1 := heap_alloc2_new w (.cells #[.slice none 0 0] 22) (.cells #[.int .u64 m] 103)
  exact ⟨⟨((Below.refl _ w).alloc (Nat.le_refl _) _).alloc (by simp) _, ⟨_, e0, Kd.R_nil _ _ _ _ _⟩, ⟨_, e1⟩, by simp⟩, e1⟩
 generalize (w.alloc (.cells #[.slice none 0 0] 22)).alloc (.cells #[.int .u64 m] 103) = w5 at hP0 ⊢
 obtain ⟨hP0, hbx⟩ := hP0
 have HP0 := Aside0.mk hP0
 have hsz5 := hP0.sz
 have hhands := groups_hands (6 - 1) (by omega) (w.heap.size + 1) m hm w5 hbx
 refine range_hands (F := Fence.wide) (n := 6) rfl (by omega) (gf := 86) (lb := #[.pointer (some ⟨w.heap.size + 1, 0, none⟩)]) rfl trivial (enters_of Tryz.func86 (by kernel_rfl) rfl)
  hhands (fun A B hst k hk => box_heap hst (by omega)) (fun _ => rfl) (fun h k => k.trans h) (fun W l o o' hl ho hc hw => World.putObj_heap_other (by omega))
  (NumSt w) (fun _ _ => False) (NumSt.own w (by omega)) (fun s W W' row hs hg hr => hs.elim) (fun x s W W' row hs hg hr => hs) hP0 (fun s A B hs hst => hs.box hst) (fun s A B hs _ => hs.elim)
  (fun x a' W => a' = { tmps := #[.pointer (some ⟨g, 0, none⟩), .int .u64 m, undef, undef, .pointer (some ⟨w.heap.size, 0, none⟩), .int .i64 x.1, .int .u8 x.2, .int .u64 m, .func (.func 86) #[] #[.pointer (some ⟨w.heap.size + 1, 0, none⟩)], .int .i64 x.1, .int .u8 x.2, undef, undef, undef, undef, undef, undef, undef, undef, undef, undef, undef, undef, undef, undef, undef, undef, undef, undef, undef], defers := [] })
  (fun x a' s W W' row hs hg hr => hs) ?assign ?body ?done ?stop
 case assign =>
  rintro lp pre ⟨i, d⟩ W K hI hR hK
  simp only [glA]
  gi_wp2
  exact hK _ _ (KeepsOthers.refl _) rfl hI hR rfl
 case body =>
  rintro lp pre ⟨i, d⟩ a' W hI hR rfl hln
  obtain ⟨vo, hob, hro⟩ := hI.dg
  obtain ⟨oA, oc, hvo, hol, hoC⟩ := Kd.R_reads hro
  have o0 := blk_cell hob 0
  have HI := Aside0.mk hI
  have HOB := Aside0.mk hob
  have HLN := Aside0.mk (show pre.length ≤ 100 by have := gl_len m hm; omega)
  unfold GlRel at hR
  simp only at hR
  obtain ⟨hi0, hd0, hd1⟩ := hR
  clear hI hob hro hol hoC hvo hln hbx hhands hP0 hsz5
  by_cases hi : i > 0
  ·have hor : bits .or .u8 d 128 = d + 128 := bits_join_low .u8 8 (by decide) wraps_u8 7 d 128 hd0 (by omega) (by omega) (by omega) (by omega) (by omega)
   have HY := Aside0.mk (show dig (i, d) = d + 128 by unfold dig; rw [if_pos hi])
   clear hi0 hd0 hd1
   gi_wp2_with (gi_at_builtin; refine NumSt.append (v := vo) (i, d) (d + 128) HY.out rfl rfl (.tmp 15) (.tmp 17) rfl rfl rfl HI.out HOB.out HLN.out ?_; intro A1 n1 c1 w1 g0 g1 hfin; have FIN := Aside0.mk hfin; clear hfin)
   exact .inl ⟨rfl, FIN.out⟩
  ·have HY := Aside0.mk (show dig (i, d) = d by unfold dig; rw [if_neg hi])
   have hi2 : i = 0 := by omega
   clear hi0 hd0 hd1 hi
   subst hi2
   gi_wp2_with (gi_at_builtin; refine NumSt.append (v := vo) (0, d) d HY.out rfl rfl (.tmp 15) (.tmp 17) rfl rfl rfl HI.out HOB.out HLN.out ?_; intro A1 n1 c1 w1 g0 g1 hfin; have FIN := Aside0.mk hfin; clear hfin)
   exact .inl ⟨rfl, FIN.out⟩
 case done =>
  rintro D xs W hD rfl hI hK
  obtain ⟨vo, hob, hro⟩ := hI.dg
  have o0 := blk_cell hob 0
  have hgl : (gl 0 m).length ≤ 11 := gl_len m hm
  have hrev := rev_eq ((gl 0 m).map dig) (by rw [List.length_map]; omega)
  rw [gl_numB] at hrev
  have hown := Kd.own_of_R hro
  have hcall := slices_Reverse_byte_byte.calls _ (fun k => some k = vo.ownBlock) vo _ _ w W hI.hb (Kd.R_of_own hown (fun k hk => hk.symm)) hrev
  have HNB := Aside0.mk (Kd.R_ne hro hob (by decide))
  have HD := Aside0.mk (show some D ≠ vo.ownBlock from fun e => by obtain ⟨cl, hcl⟩ := own_typed hown D e.symm; rw [hK] at hcl; cases hcl)
  have HI := Aside0.mk hI
  have HOB := Aside0.mk hob
  have HK := Aside0.mk hK
  clear hI hob hro hgl hrev hK hhands hP0 hbx hown
  gi_wp2_with fail
  refine ⟨trivial, ?_⟩
  gi_at_call 75
  refine (callsIn_wide.2 hcall).mono ?_
  rintro e w6 ⟨rfl, hr6, hb6, hk6⟩
  have hob6 : w6.heap[w.heap.size]? = some (.cells #[vo] 22 (0, 0)) := blk_kept HOB.out hk6 HNB.out
  have HK6 := Aside0.mk (blk_kept HK.out hk6 HD.out)
  obtain ⟨_, _, cv, hcv, hcr⟩ := HS.out
  have hlt : g < w.heap.size := blk_lt hcv
  have hcv6 := blk_below hcv hb6
  have hcr6 := Kd.R_below hcr hb6
  have c0 := blk_cell hob6 0
  have d0 := blk_cell hcv6 0
  have f0 := blk_frozen hcv6 0
  have HW6 := Aside0.mk hb6
  have HR6 := Aside0.mk hr6
  have HC6 := Aside0.mk hcr6
  have HV6 := Aside0.mk hcv6
  have HV := Aside0.mk hcv
  have HOB6 := Aside0.mk hob6
  clear hb6 hr6 hcr6 hcv6 hcv hcr hob6 hk6 hcall o0
  gi_wp2_with fail
  obtain ⟨vA, vc, e0, hvl, hvC⟩ := Kd.R_reads HR6.out
  subst e0
  have HB6 := Aside0.mk (HS.out.1.trans (HW6.out.mono HS.out.1.size))
  have HSZ := Aside0.mk (show w0.heap.size ≤ w6.drew.heap.size from HB6.out.size)
  have HLN := Aside0.mk (show (bs.length + (numB m).length) * 1 ≤ 140737488355328 by have := numB_len hm; have := HL.out; omega)
  have HRD := Aside0.mk (show ReadsRow (fun x cs => cs = [.int .u8 x]) (Kd.int .u8).sz w6.drew vA (numB m).length (numB m) from Kd.C_below hvC (below_drew1 (Below.refl _ _)))
  clear hvC hvl
  refine wpIn_wide.2 ?_
  refine wp_mono (Q := fun e a w => e = .normal ∧ _) ?_ (fun e a w h => h.2)
  refine start_ (n := 10) (S := fun w' => w'.cell? ⟨g, 0, none⟩ = some cv ∧ w'.cell? ⟨w.heap.size, 0, none⟩ = some (.slice vA (numB m).length vc)) (ds := [6, 9]) #[ff,ff,ff,ff,ff,ff,ff,ff,ff,ff] (by kernel_rfl) rfl rfl ⟨d0, c0⟩ (fun hHeld => ?_); refine with_tabW (T := rtab .any (opsOf Tryz.f54 8)) rfl (B := [0, 0, 2, 6, 14, 0, 62, 127, 255, 511]) (by kernel_rfl) (fun HT_ HW_ => ?_)
  refine pure_ (i := 0) (N := some 21) (v := ?_) (a' := ?_) #[tt,ff,ff,ff,ff,ff,ff,ff,ff,ff] rfl rfl (any_of HT_.out (by kernel_rfl)) (fun _ _ _ h => nomatch h.1) (Or.inl ⟨by rfl, ?_⟩) ?_ ?_
  rotate_left
  ·intro w'
   go_simp
   with_reducible rfl
  rotate_left
  ·simp only [Act.put, sA, sB, sC, i64_w, i32_w]
   rfl
  refine pure_ (i := 1) (N := some 22) (v := ?_) (a' := ?_) #[tt,tt,ff,ff,ff,ff,ff,ff,ff,ff] rfl rfl (any_of HT_.out (by kernel_rfl)) (fun _ _ _ h => nomatch h.1) (Or.inl ⟨by rfl, ?_⟩) ?_ ?_
  rotate_left
  ·intro w'
   go_simp
   with_reducible rfl
  rotate_left
  ·simp only [Act.put, sA, sB, sC, i64_w, i32_w]
   rfl
  refine pure_ (i := 2) (N := some 23) (v := ?_) (a' := ?_) #[tt,tt,tt,ff,ff,ff,ff,ff,ff,ff] rfl rfl (any_of HT_.out (by kernel_rfl)) (fun _ _ _ h => nomatch h.1) (Or.inl ⟨by rfl, ?_⟩) ?_ ?_
  rotate_left
  ·intro w'
   go_simp
   with_reducible rfl
  rotate_left
  ·simp only [Act.put, sA, sB, sC, i64_w, i32_w]
   rfl
  refine pure_ (i := 3) (N := some 24) (v := ?_) (a' := ?_) #[tt,tt,tt,tt,ff,ff,ff,ff,ff,ff] rfl rfl (any_of HT_.out (by kernel_rfl)) (fun _ _ _ h => nomatch h.1) (Or.inl ⟨by rfl, ?_⟩) ?_ ?_
  rotate_left
  ·intro w'
   go_simp
   with_reducible rfl
  rotate_left
  ·simp only [Act.put, sA, sB, sC, i64_w, i32_w]
   rfl
  refine take_ (i := 4) (N := some 25) (v := ?_) (a' := ?_) #[tt,tt,tt,tt,tt,ff,ff,ff,ff,ff] rfl rfl (take_ofW HT_.out HW_.out (by kernel_rfl)) (fun _ _ _ h => nomatch h.1) (Or.inl ⟨by rfl, ?_⟩) hHeld ?_ ?_
  rotate_left
  ·rintro w' ⟨s0, s1⟩
   go_simp
   with_reducible rfl
  rotate_left
  ·simp only [Act.put, sA, sB, sC, i64_w, i32_w]
   rfl
  refine take_ (i := 5) (N := some 26) (v := ?_) (a' := ?_) #[tt,tt,tt,tt,tt,tt,ff,ff,ff,ff] rfl rfl (take_ofW HT_.out HW_.out (by kernel_rfl)) (fun _ _ _ h => nomatch h.1) (Or.inl ⟨by rfl, ?_⟩) hHeld ?_ ?_
  rotate_left
  ·rintro w' ⟨s0, s1⟩
   go_simp
   with_reducible rfl
  rotate_left
  ·simp only [Act.put, sA, sB, sC, i64_w, i32_w]
   rfl
  refine last_ (i := 6) (N := some 27) #[tt,tt,tt,tt,tt,tt,tt,ff,ff,ff] rfl rfl (one_of HT_.out (by kernel_rfl)) (by decide) (fun K hK => ?_)
  refine Kd.R_append_rows_step (Rr := fun x cs => cs = [.int .u8 x]) (Kd.int .u8) (w0 := w0) w0.heap.size (by rfl) (.tmp 25) (.tmp 26) 22 5 (.int .u8 0) 1 rfl Tryz.underlying22 info5 rfl (by decide) (by omega) cv bs (numB m) vA (numB m).length vc (fun _ => True) (fun _ => False) rfl rfl (Kd.R_below HC6.out (below_drew1 (Below.refl _ _))) HRD.out (fun _ _ h => h) (fun _ hk => hk.elim) (fun _ _ => trivial) (below_drew1 HB6.out) HSZ.out HLN.out ?_
  intro v1 w1 hr hb hg hat
  refine (show K (Act.put _ (some 27) _) _ from hK.out _ _ ?_)
  clear hK K
  obtain ⟨v1A, v1n, v1c, e1⟩ : ∃ A n c, v1 = .slice A n c := by obtain ⟨A, c, e⟩ := Kd.R_slice hr; exact ⟨A, _, c, e⟩
  subst e1
  have hv7 := blk_grown (blk_drew HV6.out) hg (Kd.R_ne HC6.out HV6.out (by decide))
  have d7 := blk_cell hv7 0
  have f7 := blk_frozen hv7 0
  have HR7 := Aside0.mk hr
  have HB7 := Aside0.mk hb
  have HG7 := Aside0.mk hg
  have HV7 := Aside0.mk hv7
  have HAT := Aside0.mk hat
  clear hr hb hg hat hv7
  simp only [Act.put, sA, sB, sC]
  refine pure_ (i := 7) (N := some 28) (v := ?_) (a' := ?_) #[tt,tt,tt,tt,tt,tt,tt,tt,ff,ff] rfl rfl (any_of HT_.out (by kernel_rfl)) (fun _ _ _ h => nomatch h.1) (Or.inl ⟨by rfl, ?_⟩) ?_ ?_
  rotate_left
  ·intro w'
   go_simp
   with_reducible rfl
  rotate_left
  ·simp only [Act.put, sA, sB, sC, i64_w, i32_w]
   rfl
  refine pure_ (i := 8) (N := some 29) (v := ?_) (a' := ?_) #[tt,tt,tt,tt,tt,tt,tt,tt,tt,ff] rfl rfl (any_of HT_.out (by kernel_rfl)) (fun _ _ _ h => nomatch h.1) (Or.inl ⟨by rfl, ?_⟩) ?_ ?_
  rotate_left
  ·intro w'
   go_simp
   with_reducible rfl
  rotate_left
  ·simp only [Act.put, sA, sB, sC, i64_w, i32_w]
   rfl
  refine last_ (i := 9) (N := none) #[tt,tt,tt,tt,tt,tt,tt,tt,tt,tt] rfl rfl (one_of HT_.out (by kernel_rfl)) (by decide) (fun K hK => ?_)
  refine skip_ (w1 := ?_) (by rfl) rfl ?_ ?_
  rotate_left
  ·go_simp
   rfl
  refine hK.out _ _ ?_
  clear hK K
  refine done_ (done_of HT_.out (by kernel_rfl)) ?_
  refine ⟨rfl, ?_⟩
  clear hHeld HT_ HW_
  have FIN := Aside0.mk (coil_fin HS.out HW6.out HV.out HC6.out HG7.out HV7.out HR7.out HB7.out HAT.out (show w.heap.size ≤ D by omega) HK6.out)
  gi_wp2
  refine ⟨by simp, .inl ⟨_, _, rfl, run_takeDeferred FIN.out.1, ?_⟩⟩
  exact ⟨.tuple #[], by simp [results, Tryz.results54, go_sem], rfl, FIN.out.2.1, FIN.out.2.2⟩
 case stop =>
  rintro D pre W hD hS hI hK
  exact hI.elim
end Go.Proofs.YtdooajmgfoobfaaGreatDoor.H


