/- coil.groups: a number's digits to the base 128, handed over one by one. -/
import Derived.Test.YtpdppfihpnfblaaGreatBlR
import Derived.Test.YtpdppfihpnfblaaGreatBlH
import Derived.Shelf.RegionOpen
import Derived.WalkKit
import Derived.OwnWalkIn
import Derived.TacticsInMore
import Derived.LoopNIn
import Derived.LoopIn
namespace Go.Proofs.YtpdppfihpnfblaaGreat.H
open Go.RowKit Go.Shelf Go.Proofs.YtpdppfihpnfblaaGreat.PA Go.Proofs.YtpdppfihpnfblaaGreatW.PrintWords Go.Proofs.YtpdppfihpnfblaaGreatW.PrintLast Go.Proofs.YtpdppfihpnfblaaGreatW.PrintMore
attribute [local go_sem] Oper.semAt_some
set_option linter.unusedVariables false
set_option linter.unusedSimpArgs false
/-- The digits from place i on, the lowest first. -/
def gl (i n : Nat) : List (Int × Int) := if h : n < 128 then [((i : Int), (n : Int))] else ((i : Int), ((n % 128 : Nat) : Int)) :: gl (i + 1) (n / 128)
termination_by n
decreasing_by omega
theorem gl_last {i n : Nat} (h : n < 128) : gl i n = [((i : Int), (n : Int))] := by rw [gl, dif_pos h]
theorem gl_more {i n : Nat} (h : ¬ n < 128) : gl i n = ((i : Int), ((n % 128 : Nat) : Int)) :: gl (i + 1) (n / 128) := by rw [gl, dif_neg h]
theorem gl_pos (i n : Nat) : 0 < (gl i n).length := by
  by_cases h : n < 128
  · rw [gl_last h]; simp
  · rw [gl_more h]; simp
def glA (x : Int × Int) : Array Value := #[.int .i64 x.1, .int .u8 x.2]
def GlRel (x : Int × Int) : Prop := 0 ≤ x.1 ∧ 0 ≤ x.2 ∧ x.2 < 128
def BoxSt (b : Nat) (A B : World) : Prop := ∃ v, B = A.setCell ⟨b, 0, none⟩ v
def BoxKp (b : Nat) (A B : World) : Prop := B.heap[b]? = A.heap[b]?
set_option maxRecDepth 100000 in
set_option maxHeartbeats 8000000 in
theorem groups1_in (n : Nat) (hn : 1 ≤ n) (lp Bs : Nat) (m0 : Nat) (hm0 : m0 < 18446744073709551616) (W : World) (J Jx : List (Int × Int) → World → Prop)
    (hY : ∀ pre x W1, J pre W1 → GlRel x → pre.length < (gl 0 m0).length → YieldAt Fence.wide (n - 1) Tryz.prog lp (glA x) W1 fun e W' =>
      (e = .returned (.bool true) ∧ J (pre ++ [x]) W' ∧ BoxKp Bs W1 W') ∨ (e = .returned (.bool false) ∧ Jx (pre ++ [x]) W'))
    (hSJ : ∀ s A B, J s A → BoxSt Bs A B → J s B) (hSJx : ∀ s A B, Jx s A → BoxSt Bs A B → Jx s B) (hB : W.heap[Bs]? = some (.cells #[.int .u64 m0] 146 (0, 0))) (h0 : J [] W) :
    CallsIn Fence.wide n Tryz.prog 110 #[.func (.yield lp) #[] #[], .pointer (some ⟨Bs, 0, none⟩)] W fun e W' => (∃ v, e = .returned v) ∧
      ((∃ xs, xs = gl 0 m0 ∧ J xs W') ∨ ∃ pre, pre <+: gl 0 m0 ∧ Jx pre W') := by
  refine callsIn_of_wp Tryz.func110 rfl trivial ?_ rfl
  simp only [Tryz.ntmps110, List.size_toArray, List.length_cons, List.length_nil, Nat.reduceAdd, Nat.reduceSub, Array.replicate_succ, Array.replicate_zero, List.push_toArray, List.append_toArray, List.nil_append, List.cons_append]
  have HY := Aside0.mk hY
  have HSJ := Aside0.mk hSJ
  clear hY hSJ
  gi_wp2
  gi_loopw [3, 4, 5, 6, 7, 8, 9, 10, 11, 12, 13, 14, 15, 16, 17, 18] (fun r3 _ _ _ _ _ _ _ _ _ _ _ _ _ _ _ wr => ∃ (j m : Nat) (pre : List (Int × Int)), r3 = .int .i64 j ∧ wr.heap[Bs]? = some (.cells #[.int .u64 m] 146 (0, 0)) ∧ J pre wr ∧ pre ++ gl j m = gl 0 m0 ∧ 2 * j + m ≤ m0 ∧ j < 9223372036854775807)
    (fun r3 _ _ _ _ _ _ _ _ _ _ _ _ _ _ _ wr => match wr.cell? ⟨Bs, 0, none⟩ with | some (.int _ m) => m.toNat | _ => 0)
  case atStart => exact ⟨0, m0, [], rfl, hB, h0, rfl, by omega, by omega⟩
  case round =>
    obtain ⟨j, m, pre, rfl, hb, hJ, hpre, hjm, hj⟩ := hrel
    have c0 := blk_cell hb 0
    have HJP := Aside0.mk hJ
    have HPRE := Aside0.mk hpre
    have HB := Aside0.mk hb
    have HLT := Aside0.mk (show pre.length < (gl 0 m0).length by have := congrArg List.length hpre; rw [List.length_append] at this; have := gl_pos j m; omega)
    clear hJ hpre hb hB h0
    have hm64 : m < 18446744073709551616 := by omega
    have hd : IntKind.u8.wrap (bits .and .u64 (m : Int) 127) = ((m % 128 : Nat) : Int) := by
      rw [show bits .and .u64 (m : Int) 127 = (m : Int) % 128 from bits_mask .u64 64 (by decide) wraps_u64 7 (by decide) (m : Int) (by omega) (by omega), IntKind.wrap_u8]
      omega
    by_cases hlt : m < 128
    · have hltI : ((m : Int) < 128) := by omega
      have hm2 : ((m % 128 : Nat) : Int) = (m : Int) := by omega
      rw [hm2] at hd
      have HE := Aside0.mk (show pre ++ [((j : Int), (m : Int))] = gl 0 m0 by rw [← HPRE.out, gl_last hlt])
      obtain ⟨fn, tmps, assign, body, hy, hR⟩ := HY.out pre ((j : Int), (m : Int)) _ HJP.out ⟨by simp, by simp, hltI⟩ HLT.out
      have HRR := Aside0.mk hR
      clear hR
      simp only [glA] at hy
      gi_wp2
      refine HRR.out.mono ?_
      rintro e W3 (⟨rfl, hJ3, hk3⟩ | ⟨rfl, hJx3⟩)
      · have hb3 := Aside0.mk (show W3.heap[Bs]? = some (.cells #[.int .u64 m] 146 (0, 0)) from hk3.trans HB.out)
        have c3 := blk_cell hb3.out 0
        have HJ3 := Aside0.mk hJ3
        clear hJ3
        gi_wp2
        exact bodyPost_ret (results_none rfl _ _ _) rfl ⟨⟨_, rfl⟩, .inl ⟨_, HE.out, HJ3.out⟩⟩
      · have HJ3 := Aside0.mk hJx3
        clear hJx3
        gi_wp2
        exact bodyPost_ret (results_none rfl _ _ _) rfl ⟨⟨_, rfl⟩, .inr ⟨_, ⟨[], by rw [List.append_nil]; exact HE.out⟩, HJ3.out⟩⟩
    · have hltI : ¬ ((m : Int) < 128) := by omega
      have HE := Aside0.mk (show (pre ++ [((j : Int), ((m % 128 : Nat) : Int))]) ++ gl (j + 1) (m / 128) = gl 0 m0 by rw [List.append_assoc, ← HPRE.out, gl_more hlt]; rfl)
      obtain ⟨d, hdm⟩ : ∃ d : Int, ((m % 128 : Nat) : Int) = d := ⟨_, rfl⟩
      rw [hdm] at hd HE
      have hd2 : 0 ≤ d ∧ d < 128 := by omega
      clear hdm
      obtain ⟨fn, tmps, assign, body, hy, hR⟩ := HY.out pre ((j : Int), d) _ HJP.out ⟨by simp, hd2.1, hd2.2⟩ HLT.out
      have HRR := Aside0.mk hR
      clear hR
      simp only [glA] at hy
      gi_wp2
      refine HRR.out.mono ?_
      rintro e W3 (⟨rfl, hJ3, hk3⟩ | ⟨rfl, hJx3⟩)
      · have hb3 := Aside0.mk (show W3.heap[Bs]? = some (.cells #[.int .u64 m] 146 (0, 0)) from hk3.trans HB.out)
        have c3 := blk_cell hb3.out 0
        have f3 := blk_frozen hb3.out 0
        have HJ3 := Aside0.mk hJ3
        clear hJ3
        gi_wp2
        go_roundw
        case rel =>
          refine ⟨j + 1, m / 128, _, by simp, ?_, ?_, HE.out, by omega, by omega⟩
          · have := blk_set hb3.out 0 (.int .u64 ((m / 128 : Nat) : Int))
            simpa using this
          · exact HSJ.out _ _ _ HJ3.out ⟨_, rfl⟩
        case measure =>
          rw [c0]
          have h := blk_cell (blk_set hb3.out 0 (.int .u64 ((m : Int) / 128))) 0
          rw [h]
          simp
          omega
      · have HJ3 := Aside0.mk hJx3
        clear hJx3
        gi_wp2
        exact bodyPost_ret (results_none rfl _ _ _) rfl ⟨⟨_, rfl⟩, .inr ⟨_, ⟨gl (j + 1) (m / 128), HE.out⟩, HJ3.out⟩⟩
theorem groups_calls (m : Nat) (w : World) : Calls Tryz.prog 100 #[.int .u64 m] w fun e w' => e = .returned (.func (.func 110) #[] #[.pointer (some ⟨w.heap.size, 0, none⟩)]) ∧ w' = w.alloc (.cells #[.int .u64 m] 146) := by
  go_enter Tryz.func100, Tryz.ntmps100
  go_wp2
  go_ret
  exact ⟨rfl, rfl⟩
theorem groups_hands (n : Nat) (hn : 1 ≤ n) (Bs m0 : Nat) (hm0 : m0 < 18446744073709551616) (W : World) (hB : W.heap[Bs]? = some (.cells #[.int .u64 m0] 146 (0, 0))) :
    Hands Fence.wide n Tryz.prog 110 #[.pointer (some ⟨Bs, 0, none⟩)] glA (fun x _ => GlRel x) (BoxKp Bs) (BoxSt Bs) (fun xs => xs = gl 0 m0) (fun pre => pre <+: gl 0 m0) (gl 0 m0).length W := fun lp J Jx V hV hJ _ hSJ hSJx hY h0 =>
  groups1_in n hn lp Bs m0 hm0 V J Jx hY hSJ hSJx (blk_below hB hV) h0
end Go.Proofs.YtpdppfihpnfblaaGreat.H
