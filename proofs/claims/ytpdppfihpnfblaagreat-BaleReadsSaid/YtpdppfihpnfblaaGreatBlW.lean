/- slices.Values at each kind: its elements are handed over, in order. Laid by wip/values_bl.py. -/
import Derived.Test.YtpdppfihpnfblaaGreatBlS
namespace Go.Proofs.YtpdppfihpnfblaaGreat.H
open Go.RowKit Go.Shelf Go.Proofs.YtpdppfihpnfblaaGreat.PA Go.Proofs.YtpdppfihpnfblaaGreatW.PrintWords Go.Proofs.YtpdppfihpnfblaaGreatW.PrintLast Go.Proofs.YtpdppfihpnfblaaGreatW.PrintMore
attribute [local go_sem] Oper.semAt_some
set_option linter.unusedVariables false
set_option linter.unusedSimpArgs false

set_option maxRecDepth 100000 in
set_option maxHeartbeats 8000000 in
theorem values1Src_in (n : Nat) (hn : 1 ≤ n) (lp Bs c : Nat) (w0 : World) (A : Option Addr) (l : List (Src)) (hC : Kd.C kSrc w0 A l.length l) (W : World) (h0 : Below w0.heap.size w0 W) (J Jx : List (Src × List Value) → World → Prop)
    (hY : ∀ pre p W1, J pre W1 → (kSrc.K w0 p.1 p.2 ∧ p.1 ∈ l) → pre.length < l.length → YieldAt Fence.wide (n - 1) Tryz.prog lp #[encA p.2] W1 fun e W' =>
      (e = .returned (.bool true) ∧ J (pre ++ [p]) W' ∧ Below w0.heap.size W1 W') ∨ (e = .returned (.bool false) ∧ Jx (pre ++ [p]) W'))
    (hJ : ∀ pre A B, J pre A → Below A.heap.size A B → J pre B) (hB : W.cell? ⟨Bs, 0, none⟩ = some (.slice A l.length c)) (hJ0 : J [] W) :
    CallsIn Fence.wide n Tryz.prog 90 #[.func (.yield lp) #[] #[], .pointer (some ⟨Bs, 0, none⟩)] W fun e W' => (∃ v, e = .returned v) ∧
      ((∃ ps, ps.map Prod.fst = l ∧ J ps W') ∨ ∃ pre, pre.map Prod.fst <+: l ∧ Jx pre W') := by
  refine callsIn_of_wp Tryz.func90 rfl trivial ?_ rfl
  simp only [Tryz.ntmps90, List.size_toArray, List.length_cons, List.length_nil, Nat.reduceAdd, Nat.reduceSub, Array.replicate_succ, Array.replicate_zero, List.push_toArray, List.append_toArray, List.nil_append, List.cons_append]
  have HY := Aside0.mk hY
  have HJ := Aside0.mk hJ
  have HC := Aside0.mk hC
  have HW := Aside0.mk h0
  have hmx := hC.2.1
  clear hY hJ hC h0
  gi_wp2
  gi_loopw [4, 7, 8, 9, 10, 11, 12, 13, 14, 15] (fun _ r7 _ _ _ _ _ _ _ _ wr => ∃ (j : Nat) (pre : List (Src × List Value)), j ≤ l.length ∧ r7 = .int .i64 j ∧ J pre wr ∧ Below w0.heap.size w0 wr ∧ pre.map Prod.fst = l.take j)
    (fun _ r7 _ _ _ _ _ _ _ _ wr => l.length - (intOf r7).toNat)
  case atStart => exact ⟨0, [], Nat.zero_le _, rfl, hJ0, HW.out, by simp⟩
  case round =>
    obtain ⟨j, pre, hj, rfl, hJ, hb, hpre⟩ := hrel
    have HJP := Aside0.mk hJ
    have HBW := Aside0.mk hb
    have HPRE := Aside0.mk hpre
    have HPL := Aside0.mk (show pre.length = j by have := congrArg List.length hpre; rw [List.length_map, List.length_take] at this; omega)
    clear hJ hpre hb hB hJ0
    by_cases hlt : j < l.length
    · have hE := Kd.C_get HC.out zSrc (j : Int) (by omega) (by omega)
      rw [Int.toNat_natCast, show l.getD j zSrc = l[j] by rw [List.getD_eq_getElem?_getD, List.getElem?_eq_getElem hlt]; rfl] at hE
      have HTK := Aside0.mk (show l.take (j + 1) = l.take j ++ [l[j]] from List.take_succ_eq_append_getElem hlt)
      have HMEM := Aside0.mk (show l[j] ∈ l from List.getElem_mem hlt)
      generalize l[j] = x at hE HTK HMEM
      obtain ⟨ad, cs, rfl, _, hK, hcell⟩ := hE
      have HK := Aside0.mk hK
      have hcs := kSrc_open hK
      subst hcs
      have b0 : wr.cell? (ad.add (j * 3)) = some (.string x.name) := (HBW.out.cell (World.block_lt_of_cell? _ _ (hcell 0 _ rfl))).trans (hcell 0 _ rfl)
      have b1 : wr.cell? ⟨(ad.add (j * 3)).block, (ad.add (j * 3)).off + 1, none⟩ = some (.int .i64 x.time) := by rw [← add_field _ _ 1 (by omega)]; exact (HBW.out.cell (World.block_lt_of_cell? _ _ (hcell 1 _ rfl))).trans (hcell 1 _ rfl)
      have b2 : wr.cell? ⟨(ad.add (j * 3)).block, (ad.add (j * 3)).off + 2, none⟩ = some (.int .i64 x.at_) := by rw [← add_field _ _ 2 (by omega)]; exact (HBW.out.cell (World.block_lt_of_cell? _ _ (hcell 2 _ rfl))).trans (hcell 2 _ rfl)
      have HCL := Aside0.mk HC.out
      have hb3 : Below wr.heap.size wr (wr.alloc (.cells #[.string x.name, .int .i64 x.time, .int .i64 x.at_] 119)) := (Below.refl _ _).alloc (Nat.le_refl _) _
      have hyy := HY.out pre (x, [.string x.name, .int .i64 x.time, .int .i64 x.at_]) _ (HJ.out _ _ _ HJP.out hb3) ⟨HK.out, HMEM.out⟩ (by rw [HPL.out]; exact hlt)
      obtain ⟨fn, tmps, assign, body, hy, hR⟩ := hyy
      have HRR := Aside0.mk hR
      have HB3 := Aside0.mk hb3
      clear hcell hb3 hR
      simp only [encA] at hy
      gi_wp2
      refine HRR.out.mono ?_
      rintro e W3 (⟨rfl, hJ3, hk3⟩ | ⟨rfl, hJx3⟩)
      · have HJ3 := Aside0.mk hJ3
        have HK3 := Aside0.mk ((HBW.out.trans (HB3.out.mono HBW.out.size)).trans hk3)
        clear hJ3 hk3
        gi_wp2
        go_roundw
        case rel => exact ⟨j + 1, _, by omega, by simp, HJ3.out, HK3.out, by rw [List.map_append, HPRE.out, HTK.out]; rfl⟩
        case measure => simp [intOf]; omega
      · have HJ3 := Aside0.mk hJx3
        clear hJx3
        gi_wp2
        exact bodyPost_ret (results_none rfl _ _ _) rfl ⟨⟨_, rfl⟩, .inr ⟨_, by rw [List.map_append, HPRE.out]; exact ⟨l.drop (j + 1), by show l.take j ++ [x] ++ _ = l; rw [← HTK.out, List.take_append_drop]⟩, HJ3.out⟩⟩
    · obtain rfl : j = l.length := by omega
      have HE := Aside0.mk (show pre.map Prod.fst = l by rw [HPRE.out, List.take_length])
      clear HPRE
      gi_wp2
      go_end0
      exact ⟨⟨_, rfl⟩, .inl ⟨_, HE.out, HJP.out⟩⟩
theorem valuesSrc_calls (A : Option Addr) (m c : Nat) (w : World) : Calls Tryz.prog 68 #[.slice A m c] w fun e w' => e = .returned (.func (.func 90) #[] #[.pointer (some ⟨w.heap.size, 0, none⟩)]) ∧ w' = w.alloc (.cells #[.slice A m c] 34) := by
  go_enter Tryz.func68, Tryz.ntmps68
  go_wp2
  go_ret
  exact ⟨rfl, rfl⟩
theorem valuesSrc_hands (n : Nat) (hn : 1 ≤ n) (Bs c : Nat) (w0 : World) (A : Option Addr) (l : List (Src)) (hC : Kd.C kSrc w0 A l.length l) (W : World) (h0 : Below w0.heap.size w0 W) (hBs : Bs < W.heap.size) (hB : W.cell? ⟨Bs, 0, none⟩ = some (.slice A l.length c)) :
    Hands Fence.wide n Tryz.prog 90 #[.pointer (some ⟨Bs, 0, none⟩)] (fun p : Src × List Value => #[encA p.2]) (fun p _ => kSrc.K w0 p.1 p.2 ∧ p.1 ∈ l) (Below w0.heap.size) (fun _ _ => False) (fun ps => ps.map Prod.fst = l) (fun pre => pre.map Prod.fst <+: l) l.length W := fun lp J Jx V hV hJ _ _ _ hY hJ0 =>
  values1Src_in n hn lp Bs c w0 A l hC V (h0.trans (hV.mono h0.size)) J Jx hY (fun pre A B hA hb => hJ pre A B none hA (grown_of_below hb none) (fun r e => by cases e)) ((hV.cell (p := ⟨Bs, 0, none⟩) hBs).trans hB) hJ0

set_option maxRecDepth 100000 in
set_option maxHeartbeats 8000000 in
theorem values1Sen_in (n : Nat) (hn : 1 ≤ n) (lp Bs c : Nat) (w0 : World) (A : Option Addr) (l : List (Sen)) (hC : Kd.C kSen w0 A l.length l) (W : World) (h0 : Below w0.heap.size w0 W) (J Jx : List (Sen × List Value) → World → Prop)
    (hY : ∀ pre p W1, J pre W1 → (kSen.K w0 p.1 p.2 ∧ p.1 ∈ l) → pre.length < l.length → YieldAt Fence.wide (n - 1) Tryz.prog lp #[encA p.2] W1 fun e W' =>
      (e = .returned (.bool true) ∧ J (pre ++ [p]) W' ∧ Below w0.heap.size W1 W') ∨ (e = .returned (.bool false) ∧ Jx (pre ++ [p]) W'))
    (hJ : ∀ pre A B, J pre A → Below A.heap.size A B → J pre B) (hB : W.cell? ⟨Bs, 0, none⟩ = some (.slice A l.length c)) (hJ0 : J [] W) :
    CallsIn Fence.wide n Tryz.prog 91 #[.func (.yield lp) #[] #[], .pointer (some ⟨Bs, 0, none⟩)] W fun e W' => (∃ v, e = .returned v) ∧
      ((∃ ps, ps.map Prod.fst = l ∧ J ps W') ∨ ∃ pre, pre.map Prod.fst <+: l ∧ Jx pre W') := by
  refine callsIn_of_wp Tryz.func91 rfl trivial ?_ rfl
  simp only [Tryz.ntmps91, List.size_toArray, List.length_cons, List.length_nil, Nat.reduceAdd, Nat.reduceSub, Array.replicate_succ, Array.replicate_zero, List.push_toArray, List.append_toArray, List.nil_append, List.cons_append]
  have HY := Aside0.mk hY
  have HJ := Aside0.mk hJ
  have HC := Aside0.mk hC
  have HW := Aside0.mk h0
  have hmx := hC.2.1
  clear hY hJ hC h0
  gi_wp2
  gi_loopw [4, 7, 8, 9, 10, 11, 12, 13, 14, 15] (fun _ r7 _ _ _ _ _ _ _ _ wr => ∃ (j : Nat) (pre : List (Sen × List Value)), j ≤ l.length ∧ r7 = .int .i64 j ∧ J pre wr ∧ Below w0.heap.size w0 wr ∧ pre.map Prod.fst = l.take j)
    (fun _ r7 _ _ _ _ _ _ _ _ wr => l.length - (intOf r7).toNat)
  case atStart => exact ⟨0, [], Nat.zero_le _, rfl, hJ0, HW.out, by simp⟩
  case round =>
    obtain ⟨j, pre, hj, rfl, hJ, hb, hpre⟩ := hrel
    have HJP := Aside0.mk hJ
    have HBW := Aside0.mk hb
    have HPRE := Aside0.mk hpre
    have HPL := Aside0.mk (show pre.length = j by have := congrArg List.length hpre; rw [List.length_map, List.length_take] at this; omega)
    clear hJ hpre hb hB hJ0
    by_cases hlt : j < l.length
    · have hE := Kd.C_get HC.out zSen (j : Int) (by omega) (by omega)
      rw [Int.toNat_natCast, show l.getD j zSen = l[j] by rw [List.getD_eq_getElem?_getD, List.getElem?_eq_getElem hlt]; rfl] at hE
      have HTK := Aside0.mk (show l.take (j + 1) = l.take j ++ [l[j]] from List.take_succ_eq_append_getElem hlt)
      have HMEM := Aside0.mk (show l[j] ∈ l from List.getElem_mem hlt)
      generalize l[j] = x at hE HTK HMEM
      obtain ⟨ad, cs, rfl, _, hK, hcell⟩ := hE
      have HK := Aside0.mk hK
      obtain ⟨A_seqs, c_seqs, hcs, _⟩ := kSen_open hK
      subst hcs
      have b0 : wr.cell? (ad.add (j * 3)) = some (.string x.name) := (HBW.out.cell (World.block_lt_of_cell? _ _ (hcell 0 _ rfl))).trans (hcell 0 _ rfl)
      have b1 : wr.cell? ⟨(ad.add (j * 3)).block, (ad.add (j * 3)).off + 1, none⟩ = some (.int .i64 x.floor) := by rw [← add_field _ _ 1 (by omega)]; exact (HBW.out.cell (World.block_lt_of_cell? _ _ (hcell 1 _ rfl))).trans (hcell 1 _ rfl)
      have b2 : wr.cell? ⟨(ad.add (j * 3)).block, (ad.add (j * 3)).off + 2, none⟩ = some (.slice A_seqs x.seqs.length c_seqs) := by rw [← add_field _ _ 2 (by omega)]; exact (HBW.out.cell (World.block_lt_of_cell? _ _ (hcell 2 _ rfl))).trans (hcell 2 _ rfl)
      have HCL := Aside0.mk HC.out
      have hb3 : Below wr.heap.size wr (wr.alloc (.cells #[.string x.name, .int .i64 x.floor, .slice A_seqs x.seqs.length c_seqs] 122)) := (Below.refl _ _).alloc (Nat.le_refl _) _
      have hyy := HY.out pre (x, [.string x.name, .int .i64 x.floor, .slice A_seqs x.seqs.length c_seqs]) _ (HJ.out _ _ _ HJP.out hb3) ⟨HK.out, HMEM.out⟩ (by rw [HPL.out]; exact hlt)
      obtain ⟨fn, tmps, assign, body, hy, hR⟩ := hyy
      have HRR := Aside0.mk hR
      have HB3 := Aside0.mk hb3
      clear hcell hb3 hR
      simp only [encA] at hy
      gi_wp2
      refine HRR.out.mono ?_
      rintro e W3 (⟨rfl, hJ3, hk3⟩ | ⟨rfl, hJx3⟩)
      · have HJ3 := Aside0.mk hJ3
        have HK3 := Aside0.mk ((HBW.out.trans (HB3.out.mono HBW.out.size)).trans hk3)
        clear hJ3 hk3
        gi_wp2
        go_roundw
        case rel => exact ⟨j + 1, _, by omega, by simp, HJ3.out, HK3.out, by rw [List.map_append, HPRE.out, HTK.out]; rfl⟩
        case measure => simp [intOf]; omega
      · have HJ3 := Aside0.mk hJx3
        clear hJx3
        gi_wp2
        exact bodyPost_ret (results_none rfl _ _ _) rfl ⟨⟨_, rfl⟩, .inr ⟨_, by rw [List.map_append, HPRE.out]; exact ⟨l.drop (j + 1), by show l.take j ++ [x] ++ _ = l; rw [← HTK.out, List.take_append_drop]⟩, HJ3.out⟩⟩
    · obtain rfl : j = l.length := by omega
      have HE := Aside0.mk (show pre.map Prod.fst = l by rw [HPRE.out, List.take_length])
      clear HPRE
      gi_wp2
      go_end0
      exact ⟨⟨_, rfl⟩, .inl ⟨_, HE.out, HJP.out⟩⟩
theorem valuesSen_calls (A : Option Addr) (m c : Nat) (w : World) : Calls Tryz.prog 70 #[.slice A m c] w fun e w' => e = .returned (.func (.func 91) #[] #[.pointer (some ⟨w.heap.size, 0, none⟩)]) ∧ w' = w.alloc (.cells #[.slice A m c] 37) := by
  go_enter Tryz.func70, Tryz.ntmps70
  go_wp2
  go_ret
  exact ⟨rfl, rfl⟩
theorem valuesSen_hands (n : Nat) (hn : 1 ≤ n) (Bs c : Nat) (w0 : World) (A : Option Addr) (l : List (Sen)) (hC : Kd.C kSen w0 A l.length l) (W : World) (h0 : Below w0.heap.size w0 W) (hBs : Bs < W.heap.size) (hB : W.cell? ⟨Bs, 0, none⟩ = some (.slice A l.length c)) :
    Hands Fence.wide n Tryz.prog 91 #[.pointer (some ⟨Bs, 0, none⟩)] (fun p : Sen × List Value => #[encA p.2]) (fun p _ => kSen.K w0 p.1 p.2 ∧ p.1 ∈ l) (Below w0.heap.size) (fun _ _ => False) (fun ps => ps.map Prod.fst = l) (fun pre => pre.map Prod.fst <+: l) l.length W := fun lp J Jx V hV hJ _ _ _ hY hJ0 =>
  values1Sen_in n hn lp Bs c w0 A l hC V (h0.trans (hV.mono h0.size)) J Jx hY (fun pre A B hA hb => hJ pre A B none hA (grown_of_below hb none) (fun r e => by cases e)) ((hV.cell (p := ⟨Bs, 0, none⟩) hBs).trans hB) hJ0

set_option maxRecDepth 100000 in
set_option maxHeartbeats 8000000 in
theorem values1Cel_in (n : Nat) (hn : 1 ≤ n) (lp Bs c : Nat) (w0 : World) (A : Option Addr) (l : List (Cel)) (hC : Kd.C kCel w0 A l.length l) (W : World) (h0 : Below w0.heap.size w0 W) (J Jx : List (Cel × List Value) → World → Prop)
    (hY : ∀ pre p W1, J pre W1 → (kCel.K w0 p.1 p.2 ∧ p.1 ∈ l) → pre.length < l.length → YieldAt Fence.wide (n - 1) Tryz.prog lp #[encA p.2] W1 fun e W' =>
      (e = .returned (.bool true) ∧ J (pre ++ [p]) W' ∧ Below w0.heap.size W1 W') ∨ (e = .returned (.bool false) ∧ Jx (pre ++ [p]) W'))
    (hJ : ∀ pre A B, J pre A → Below A.heap.size A B → J pre B) (hB : W.cell? ⟨Bs, 0, none⟩ = some (.slice A l.length c)) (hJ0 : J [] W) :
    CallsIn Fence.wide n Tryz.prog 94 #[.func (.yield lp) #[] #[], .pointer (some ⟨Bs, 0, none⟩)] W fun e W' => (∃ v, e = .returned v) ∧
      ((∃ ps, ps.map Prod.fst = l ∧ J ps W') ∨ ∃ pre, pre.map Prod.fst <+: l ∧ Jx pre W') := by
  refine callsIn_of_wp Tryz.func94 rfl trivial ?_ rfl
  simp only [Tryz.ntmps94, List.size_toArray, List.length_cons, List.length_nil, Nat.reduceAdd, Nat.reduceSub, Array.replicate_succ, Array.replicate_zero, List.push_toArray, List.append_toArray, List.nil_append, List.cons_append]
  have HY := Aside0.mk hY
  have HJ := Aside0.mk hJ
  have HC := Aside0.mk hC
  have HW := Aside0.mk h0
  have hmx := hC.2.1
  clear hY hJ hC h0
  gi_wp2
  gi_loopw [4, 7, 8, 9, 10, 11, 12, 13, 14, 15] (fun _ r7 _ _ _ _ _ _ _ _ wr => ∃ (j : Nat) (pre : List (Cel × List Value)), j ≤ l.length ∧ r7 = .int .i64 j ∧ J pre wr ∧ Below w0.heap.size w0 wr ∧ pre.map Prod.fst = l.take j)
    (fun _ r7 _ _ _ _ _ _ _ _ wr => l.length - (intOf r7).toNat)
  case atStart => exact ⟨0, [], Nat.zero_le _, rfl, hJ0, HW.out, by simp⟩
  case round =>
    obtain ⟨j, pre, hj, rfl, hJ, hb, hpre⟩ := hrel
    have HJP := Aside0.mk hJ
    have HBW := Aside0.mk hb
    have HPRE := Aside0.mk hpre
    have HPL := Aside0.mk (show pre.length = j by have := congrArg List.length hpre; rw [List.length_map, List.length_take] at this; omega)
    clear hJ hpre hb hB hJ0
    by_cases hlt : j < l.length
    · have hE := Kd.C_get HC.out zCel (j : Int) (by omega) (by omega)
      rw [Int.toNat_natCast, show l.getD j zCel = l[j] by rw [List.getD_eq_getElem?_getD, List.getElem?_eq_getElem hlt]; rfl] at hE
      have HTK := Aside0.mk (show l.take (j + 1) = l.take j ++ [l[j]] from List.take_succ_eq_append_getElem hlt)
      have HMEM := Aside0.mk (show l[j] ∈ l from List.getElem_mem hlt)
      generalize l[j] = x at hE HTK HMEM
      obtain ⟨ad, cs, rfl, _, hK, hcell⟩ := hE
      have HK := Aside0.mk hK
      obtain ⟨A_labels, c_labels, A_vsamples, c_vsamples, A_vmembers, c_vmembers, hcs, _⟩ := kCel_open hK
      subst hcs
      have b0 : wr.cell? (ad.add (j * 16)) = some (.string x.metric) := (HBW.out.cell (World.block_lt_of_cell? _ _ (hcell 0 _ rfl))).trans (hcell 0 _ rfl)
      have b1 : wr.cell? ⟨(ad.add (j * 16)).block, (ad.add (j * 16)).off + 1, none⟩ = some (.slice A_labels x.labels.length c_labels) := by rw [← add_field _ _ 1 (by omega)]; exact (HBW.out.cell (World.block_lt_of_cell? _ _ (hcell 1 _ rfl))).trans (hcell 1 _ rfl)
      have b2 : wr.cell? ⟨(ad.add (j * 16)).block, (ad.add (j * 16)).off + 2, none⟩ = some (.int .i64 x.policy) := by rw [← add_field _ _ 2 (by omega)]; exact (HBW.out.cell (World.block_lt_of_cell? _ _ (hcell 2 _ rfl))).trans (hcell 2 _ rfl)
      have b3 : wr.cell? ⟨(ad.add (j * 16)).block, (ad.add (j * 16)).off + 3, none⟩ = some (.int .i64 x.start) := by rw [← add_field _ _ 3 (by omega)]; exact (HBW.out.cell (World.block_lt_of_cell? _ _ (hcell 3 _ rfl))).trans (hcell 3 _ rfl)
      have b4 : wr.cell? ⟨(ad.add (j * 16)).block, (ad.add (j * 16)).off + 4, none⟩ = some (.int .i64 x.rev) := by rw [← add_field _ _ 4 (by omega)]; exact (HBW.out.cell (World.block_lt_of_cell? _ _ (hcell 4 _ rfl))).trans (hcell 4 _ rfl)
      have b5 : wr.cell? ⟨(ad.add (j * 16)).block, (ad.add (j * 16)).off + 5, none⟩ = some (.bool x.dirty) := by rw [← add_field _ _ 5 (by omega)]; exact (HBW.out.cell (World.block_lt_of_cell? _ _ (hcell 5 _ rfl))).trans (hcell 5 _ rfl)
      have b6 : wr.cell? ⟨(ad.add (j * 16)).block, (ad.add (j * 16)).off + 6, none⟩ = some (.int .i64 x.vat.kind) := by rw [← add_field _ _ 6 (by omega)]; exact (HBW.out.cell (World.block_lt_of_cell? _ _ (hcell 6 _ rfl))).trans (hcell 6 _ rfl)
      have b7 : wr.cell? ⟨(ad.add (j * 16)).block, (ad.add (j * 16)).off + 7, none⟩ = some (.int .i64 x.vat.many) := by rw [← add_field _ _ 7 (by omega)]; exact (HBW.out.cell (World.block_lt_of_cell? _ _ (hcell 7 _ rfl))).trans (hcell 7 _ rfl)
      have b8 : wr.cell? ⟨(ad.add (j * 16)).block, (ad.add (j * 16)).off + 8, none⟩ = some (.int .i64 x.vat.high) := by rw [← add_field _ _ 8 (by omega)]; exact (HBW.out.cell (World.block_lt_of_cell? _ _ (hcell 8 _ rfl))).trans (hcell 8 _ rfl)
      have b9 : wr.cell? ⟨(ad.add (j * 16)).block, (ad.add (j * 16)).off + 9, none⟩ = some (.int .i64 x.vat.low) := by rw [← add_field _ _ 9 (by omega)]; exact (HBW.out.cell (World.block_lt_of_cell? _ _ (hcell 9 _ rfl))).trans (hcell 9 _ rfl)
      have b10 : wr.cell? ⟨(ad.add (j * 16)).block, (ad.add (j * 16)).off + 10, none⟩ = some (.int .i64 x.vat.last) := by rw [← add_field _ _ 10 (by omega)]; exact (HBW.out.cell (World.block_lt_of_cell? _ _ (hcell 10 _ rfl))).trans (hcell 10 _ rfl)
      have b11 : wr.cell? ⟨(ad.add (j * 16)).block, (ad.add (j * 16)).off + 11, none⟩ = some (.int .i64 x.vat.time) := by rw [← add_field _ _ 11 (by omega)]; exact (HBW.out.cell (World.block_lt_of_cell? _ _ (hcell 11 _ rfl))).trans (hcell 11 _ rfl)
      have b12 : wr.cell? ⟨(ad.add (j * 16)).block, (ad.add (j * 16)).off + 12, none⟩ = some (.int .i64 x.vat.seq) := by rw [← add_field _ _ 12 (by omega)]; exact (HBW.out.cell (World.block_lt_of_cell? _ _ (hcell 12 _ rfl))).trans (hcell 12 _ rfl)
      have b13 : wr.cell? ⟨(ad.add (j * 16)).block, (ad.add (j * 16)).off + 13, none⟩ = some (.string x.vat.source) := by rw [← add_field _ _ 13 (by omega)]; exact (HBW.out.cell (World.block_lt_of_cell? _ _ (hcell 13 _ rfl))).trans (hcell 13 _ rfl)
      have b14 : wr.cell? ⟨(ad.add (j * 16)).block, (ad.add (j * 16)).off + 14, none⟩ = some (.slice A_vsamples x.vat.samples.length c_vsamples) := by rw [← add_field _ _ 14 (by omega)]; exact (HBW.out.cell (World.block_lt_of_cell? _ _ (hcell 14 _ rfl))).trans (hcell 14 _ rfl)
      have b15 : wr.cell? ⟨(ad.add (j * 16)).block, (ad.add (j * 16)).off + 15, none⟩ = some (.slice A_vmembers x.vat.members.length c_vmembers) := by rw [← add_field _ _ 15 (by omega)]; exact (HBW.out.cell (World.block_lt_of_cell? _ _ (hcell 15 _ rfl))).trans (hcell 15 _ rfl)
      have HCL := Aside0.mk HC.out
      have hb3 : Below wr.heap.size wr (wr.alloc (.cells #[.string x.metric, .slice A_labels x.labels.length c_labels, .int .i64 x.policy, .int .i64 x.start, .int .i64 x.rev, .bool x.dirty, .int .i64 x.vat.kind, .int .i64 x.vat.many, .int .i64 x.vat.high, .int .i64 x.vat.low, .int .i64 x.vat.last, .int .i64 x.vat.time, .int .i64 x.vat.seq, .string x.vat.source, .slice A_vsamples x.vat.samples.length c_vsamples, .slice A_vmembers x.vat.members.length c_vmembers] 104)) := (Below.refl _ _).alloc (Nat.le_refl _) _
      have hyy := HY.out pre (x, [.string x.metric, .slice A_labels x.labels.length c_labels, .int .i64 x.policy, .int .i64 x.start, .int .i64 x.rev, .bool x.dirty, .int .i64 x.vat.kind, .int .i64 x.vat.many, .int .i64 x.vat.high, .int .i64 x.vat.low, .int .i64 x.vat.last, .int .i64 x.vat.time, .int .i64 x.vat.seq, .string x.vat.source, .slice A_vsamples x.vat.samples.length c_vsamples, .slice A_vmembers x.vat.members.length c_vmembers]) _ (HJ.out _ _ _ HJP.out hb3) ⟨HK.out, HMEM.out⟩ (by rw [HPL.out]; exact hlt)
      obtain ⟨fn, tmps, assign, body, hy, hR⟩ := hyy
      have HRR := Aside0.mk hR
      have HB3 := Aside0.mk hb3
      clear hcell hb3 hR
      simp only [encA] at hy
      gi_wp2
      refine HRR.out.mono ?_
      rintro e W3 (⟨rfl, hJ3, hk3⟩ | ⟨rfl, hJx3⟩)
      · have HJ3 := Aside0.mk hJ3
        have HK3 := Aside0.mk ((HBW.out.trans (HB3.out.mono HBW.out.size)).trans hk3)
        clear hJ3 hk3
        gi_wp2
        go_roundw
        case rel => exact ⟨j + 1, _, by omega, by simp, HJ3.out, HK3.out, by rw [List.map_append, HPRE.out, HTK.out]; rfl⟩
        case measure => simp [intOf]; omega
      · have HJ3 := Aside0.mk hJx3
        clear hJx3
        gi_wp2
        exact bodyPost_ret (results_none rfl _ _ _) rfl ⟨⟨_, rfl⟩, .inr ⟨_, by rw [List.map_append, HPRE.out]; exact ⟨l.drop (j + 1), by show l.take j ++ [x] ++ _ = l; rw [← HTK.out, List.take_append_drop]⟩, HJ3.out⟩⟩
    · obtain rfl : j = l.length := by omega
      have HE := Aside0.mk (show pre.map Prod.fst = l by rw [HPRE.out, List.take_length])
      clear HPRE
      gi_wp2
      go_end0
      exact ⟨⟨_, rfl⟩, .inl ⟨_, HE.out, HJP.out⟩⟩
theorem valuesCel_calls (A : Option Addr) (m c : Nat) (w : World) : Calls Tryz.prog 74 #[.slice A m c] w fun e w' => e = .returned (.func (.func 94) #[] #[.pointer (some ⟨w.heap.size, 0, none⟩)]) ∧ w' = w.alloc (.cells #[.slice A m c] 40) := by
  go_enter Tryz.func74, Tryz.ntmps74
  go_wp2
  go_ret
  exact ⟨rfl, rfl⟩
theorem valuesCel_hands (n : Nat) (hn : 1 ≤ n) (Bs c : Nat) (w0 : World) (A : Option Addr) (l : List (Cel)) (hC : Kd.C kCel w0 A l.length l) (W : World) (h0 : Below w0.heap.size w0 W) (hBs : Bs < W.heap.size) (hB : W.cell? ⟨Bs, 0, none⟩ = some (.slice A l.length c)) :
    Hands Fence.wide n Tryz.prog 94 #[.pointer (some ⟨Bs, 0, none⟩)] (fun p : Cel × List Value => #[encA p.2]) (fun p _ => kCel.K w0 p.1 p.2 ∧ p.1 ∈ l) (Below w0.heap.size) (fun _ _ => False) (fun ps => ps.map Prod.fst = l) (fun pre => pre.map Prod.fst <+: l) l.length W := fun lp J Jx V hV hJ _ _ _ hY hJ0 =>
  values1Cel_in n hn lp Bs c w0 A l hC V (h0.trans (hV.mono h0.size)) J Jx hY (fun pre A B hA hb => hJ pre A B none hA (grown_of_below hb none) (fun r e => by cases e)) ((hV.cell (p := ⟨Bs, 0, none⟩) hBs).trans hB) hJ0

set_option maxRecDepth 100000 in
set_option maxHeartbeats 8000000 in
theorem values1Emi_in (n : Nat) (hn : 1 ≤ n) (lp Bs c : Nat) (w0 : World) (A : Option Addr) (l : List (Emi)) (hC : Kd.C kEmi w0 A l.length l) (W : World) (h0 : Below w0.heap.size w0 W) (J Jx : List (Emi × List Value) → World → Prop)
    (hY : ∀ pre p W1, J pre W1 → (kEmi.K w0 p.1 p.2 ∧ p.1 ∈ l) → pre.length < l.length → YieldAt Fence.wide (n - 1) Tryz.prog lp #[encA p.2] W1 fun e W' =>
      (e = .returned (.bool true) ∧ J (pre ++ [p]) W' ∧ Below w0.heap.size W1 W') ∨ (e = .returned (.bool false) ∧ Jx (pre ++ [p]) W'))
    (hJ : ∀ pre A B, J pre A → Below A.heap.size A B → J pre B) (hB : W.cell? ⟨Bs, 0, none⟩ = some (.slice A l.length c)) (hJ0 : J [] W) :
    CallsIn Fence.wide n Tryz.prog 102 #[.func (.yield lp) #[] #[], .pointer (some ⟨Bs, 0, none⟩)] W fun e W' => (∃ v, e = .returned v) ∧
      ((∃ ps, ps.map Prod.fst = l ∧ J ps W') ∨ ∃ pre, pre.map Prod.fst <+: l ∧ Jx pre W') := by
  refine callsIn_of_wp Tryz.func102 rfl trivial ?_ rfl
  simp only [Tryz.ntmps102, List.size_toArray, List.length_cons, List.length_nil, Nat.reduceAdd, Nat.reduceSub, Array.replicate_succ, Array.replicate_zero, List.push_toArray, List.append_toArray, List.nil_append, List.cons_append]
  have HY := Aside0.mk hY
  have HJ := Aside0.mk hJ
  have HC := Aside0.mk hC
  have HW := Aside0.mk h0
  have hmx := hC.2.1
  clear hY hJ hC h0
  gi_wp2
  gi_loopw [4, 7, 8, 9, 10, 11, 12, 13, 14, 15] (fun _ r7 _ _ _ _ _ _ _ _ wr => ∃ (j : Nat) (pre : List (Emi × List Value)), j ≤ l.length ∧ r7 = .int .i64 j ∧ J pre wr ∧ Below w0.heap.size w0 wr ∧ pre.map Prod.fst = l.take j)
    (fun _ r7 _ _ _ _ _ _ _ _ wr => l.length - (intOf r7).toNat)
  case atStart => exact ⟨0, [], Nat.zero_le _, rfl, hJ0, HW.out, by simp⟩
  case round =>
    obtain ⟨j, pre, hj, rfl, hJ, hb, hpre⟩ := hrel
    have HJP := Aside0.mk hJ
    have HBW := Aside0.mk hb
    have HPRE := Aside0.mk hpre
    have HPL := Aside0.mk (show pre.length = j by have := congrArg List.length hpre; rw [List.length_map, List.length_take] at this; omega)
    clear hJ hpre hb hB hJ0
    by_cases hlt : j < l.length
    · have hE := Kd.C_get HC.out zEmi (j : Int) (by omega) (by omega)
      rw [Int.toNat_natCast, show l.getD j zEmi = l[j] by rw [List.getD_eq_getElem?_getD, List.getElem?_eq_getElem hlt]; rfl] at hE
      have HTK := Aside0.mk (show l.take (j + 1) = l.take j ++ [l[j]] from List.take_succ_eq_append_getElem hlt)
      have HMEM := Aside0.mk (show l[j] ∈ l from List.getElem_mem hlt)
      generalize l[j] = x at hE HTK HMEM
      obtain ⟨ad, cs, rfl, _, hK, hcell⟩ := hE
      have HK := Aside0.mk hK
      have hcs := kEmi_open hK
      subst hcs
      have b0 : wr.cell? (ad.add (j * 15)) = some (.string x.key) := (HBW.out.cell (World.block_lt_of_cell? _ _ (hcell 0 _ rfl))).trans (hcell 0 _ rfl)
      have b1 : wr.cell? ⟨(ad.add (j * 15)).block, (ad.add (j * 15)).off + 1, none⟩ = some (.string x.policy) := by rw [← add_field _ _ 1 (by omega)]; exact (HBW.out.cell (World.block_lt_of_cell? _ _ (hcell 1 _ rfl))).trans (hcell 1 _ rfl)
      have b2 : wr.cell? ⟨(ad.add (j * 15)).block, (ad.add (j * 15)).off + 2, none⟩ = some (.int .i64 x.kind) := by rw [← add_field _ _ 2 (by omega)]; exact (HBW.out.cell (World.block_lt_of_cell? _ _ (hcell 2 _ rfl))).trans (hcell 2 _ rfl)
      have b3 : wr.cell? ⟨(ad.add (j * 15)).block, (ad.add (j * 15)).off + 3, none⟩ = some (.int .i64 x.start) := by rw [← add_field _ _ 3 (by omega)]; exact (HBW.out.cell (World.block_lt_of_cell? _ _ (hcell 3 _ rfl))).trans (hcell 3 _ rfl)
      have b4 : wr.cell? ⟨(ad.add (j * 15)).block, (ad.add (j * 15)).off + 4, none⟩ = some (.int .i64 x.rev) := by rw [← add_field _ _ 4 (by omega)]; exact (HBW.out.cell (World.block_lt_of_cell? _ _ (hcell 4 _ rfl))).trans (hcell 4 _ rfl)
      have b5 : wr.cell? ⟨(ad.add (j * 15)).block, (ad.add (j * 15)).off + 5, none⟩ = some (.bool x.final) := by rw [← add_field _ _ 5 (by omega)]; exact (HBW.out.cell (World.block_lt_of_cell? _ _ (hcell 5 _ rfl))).trans (hcell 5 _ rfl)
      have b6 : wr.cell? ⟨(ad.add (j * 15)).block, (ad.add (j * 15)).off + 6, none⟩ = some (.int .i64 x.rkind) := by rw [← add_field _ _ 6 (by omega)]; exact (HBW.out.cell (World.block_lt_of_cell? _ _ (hcell 6 _ rfl))).trans (hcell 6 _ rfl)
      have b7 : wr.cell? ⟨(ad.add (j * 15)).block, (ad.add (j * 15)).off + 7, none⟩ = some (.int .i64 x.count) := by rw [← add_field _ _ 7 (by omega)]; exact (HBW.out.cell (World.block_lt_of_cell? _ _ (hcell 7 _ rfl))).trans (hcell 7 _ rfl)
      have b8 : wr.cell? ⟨(ad.add (j * 15)).block, (ad.add (j * 15)).off + 8, none⟩ = some (.int .i64 x.sum) := by rw [← add_field _ _ 8 (by omega)]; exact (HBW.out.cell (World.block_lt_of_cell? _ _ (hcell 8 _ rfl))).trans (hcell 8 _ rfl)
      have b9 : wr.cell? ⟨(ad.add (j * 15)).block, (ad.add (j * 15)).off + 9, none⟩ = some (.int .i64 x.min) := by rw [← add_field _ _ 9 (by omega)]; exact (HBW.out.cell (World.block_lt_of_cell? _ _ (hcell 9 _ rfl))).trans (hcell 9 _ rfl)
      have b10 : wr.cell? ⟨(ad.add (j * 15)).block, (ad.add (j * 15)).off + 10, none⟩ = some (.int .i64 x.max) := by rw [← add_field _ _ 10 (by omega)]; exact (HBW.out.cell (World.block_lt_of_cell? _ _ (hcell 10 _ rfl))).trans (hcell 10 _ rfl)
      have b11 : wr.cell? ⟨(ad.add (j * 15)).block, (ad.add (j * 15)).off + 11, none⟩ = some (.int .i64 x.q0) := by rw [← add_field _ _ 11 (by omega)]; exact (HBW.out.cell (World.block_lt_of_cell? _ _ (hcell 11 _ rfl))).trans (hcell 11 _ rfl)
      have b12 : wr.cell? ⟨(ad.add (j * 15)).block, (ad.add (j * 15)).off + 12, none⟩ = some (.int .i64 x.q1) := by rw [← add_field _ _ 12 (by omega)]; exact (HBW.out.cell (World.block_lt_of_cell? _ _ (hcell 12 _ rfl))).trans (hcell 12 _ rfl)
      have b13 : wr.cell? ⟨(ad.add (j * 15)).block, (ad.add (j * 15)).off + 13, none⟩ = some (.int .i64 x.q2) := by rw [← add_field _ _ 13 (by omega)]; exact (HBW.out.cell (World.block_lt_of_cell? _ _ (hcell 13 _ rfl))).trans (hcell 13 _ rfl)
      have b14 : wr.cell? ⟨(ad.add (j * 15)).block, (ad.add (j * 15)).off + 14, none⟩ = some (.bool x.over) := by rw [← add_field _ _ 14 (by omega)]; exact (HBW.out.cell (World.block_lt_of_cell? _ _ (hcell 14 _ rfl))).trans (hcell 14 _ rfl)
      have HCL := Aside0.mk HC.out
      have hb3 : Below wr.heap.size wr (wr.alloc (.cells #[.string x.key, .string x.policy, .int .i64 x.kind, .int .i64 x.start, .int .i64 x.rev, .bool x.final, .int .i64 x.rkind, .int .i64 x.count, .int .i64 x.sum, .int .i64 x.min, .int .i64 x.max, .int .i64 x.q0, .int .i64 x.q1, .int .i64 x.q2, .bool x.over] 30)) := (Below.refl _ _).alloc (Nat.le_refl _) _
      have hyy := HY.out pre (x, [.string x.key, .string x.policy, .int .i64 x.kind, .int .i64 x.start, .int .i64 x.rev, .bool x.final, .int .i64 x.rkind, .int .i64 x.count, .int .i64 x.sum, .int .i64 x.min, .int .i64 x.max, .int .i64 x.q0, .int .i64 x.q1, .int .i64 x.q2, .bool x.over]) _ (HJ.out _ _ _ HJP.out hb3) ⟨HK.out, HMEM.out⟩ (by rw [HPL.out]; exact hlt)
      obtain ⟨fn, tmps, assign, body, hy, hR⟩ := hyy
      have HRR := Aside0.mk hR
      have HB3 := Aside0.mk hb3
      clear hcell hb3 hR
      simp only [encA] at hy
      gi_wp2
      refine HRR.out.mono ?_
      rintro e W3 (⟨rfl, hJ3, hk3⟩ | ⟨rfl, hJx3⟩)
      · have HJ3 := Aside0.mk hJ3
        have HK3 := Aside0.mk ((HBW.out.trans (HB3.out.mono HBW.out.size)).trans hk3)
        clear hJ3 hk3
        gi_wp2
        go_roundw
        case rel => exact ⟨j + 1, _, by omega, by simp, HJ3.out, HK3.out, by rw [List.map_append, HPRE.out, HTK.out]; rfl⟩
        case measure => simp [intOf]; omega
      · have HJ3 := Aside0.mk hJx3
        clear hJx3
        gi_wp2
        exact bodyPost_ret (results_none rfl _ _ _) rfl ⟨⟨_, rfl⟩, .inr ⟨_, by rw [List.map_append, HPRE.out]; exact ⟨l.drop (j + 1), by show l.take j ++ [x] ++ _ = l; rw [← HTK.out, List.take_append_drop]⟩, HJ3.out⟩⟩
    · obtain rfl : j = l.length := by omega
      have HE := Aside0.mk (show pre.map Prod.fst = l by rw [HPRE.out, List.take_length])
      clear HPRE
      gi_wp2
      go_end0
      exact ⟨⟨_, rfl⟩, .inl ⟨_, HE.out, HJP.out⟩⟩
theorem valuesEmi_calls (A : Option Addr) (m c : Nat) (w : World) : Calls Tryz.prog 80 #[.slice A m c] w fun e w' => e = .returned (.func (.func 102) #[] #[.pointer (some ⟨w.heap.size, 0, none⟩)]) ∧ w' = w.alloc (.cells #[.slice A m c] 41) := by
  go_enter Tryz.func80, Tryz.ntmps80
  go_wp2
  go_ret
  exact ⟨rfl, rfl⟩
theorem valuesEmi_hands (n : Nat) (hn : 1 ≤ n) (Bs c : Nat) (w0 : World) (A : Option Addr) (l : List (Emi)) (hC : Kd.C kEmi w0 A l.length l) (W : World) (h0 : Below w0.heap.size w0 W) (hBs : Bs < W.heap.size) (hB : W.cell? ⟨Bs, 0, none⟩ = some (.slice A l.length c)) :
    Hands Fence.wide n Tryz.prog 102 #[.pointer (some ⟨Bs, 0, none⟩)] (fun p : Emi × List Value => #[encA p.2]) (fun p _ => kEmi.K w0 p.1 p.2 ∧ p.1 ∈ l) (Below w0.heap.size) (fun _ _ => False) (fun ps => ps.map Prod.fst = l) (fun pre => pre.map Prod.fst <+: l) l.length W := fun lp J Jx V hV hJ _ _ _ hY hJ0 =>
  values1Emi_in n hn lp Bs c w0 A l hC V (h0.trans (hV.mono h0.size)) J Jx hY (fun pre A B hA hb => hJ pre A B none hA (grown_of_below hb none) (fun r e => by cases e)) ((hV.cell (p := ⟨Bs, 0, none⟩) hBs).trans hB) hJ0

set_option maxRecDepth 100000 in
set_option maxHeartbeats 8000000 in
theorem values1Lab_in (n : Nat) (hn : 1 ≤ n) (lp Bs c : Nat) (w0 : World) (A : Option Addr) (l : List (Lab)) (hC : Kd.C kLab w0 A l.length l) (W : World) (h0 : Below w0.heap.size w0 W) (J Jx : List (Lab × List Value) → World → Prop)
    (hY : ∀ pre p W1, J pre W1 → (kLab.K w0 p.1 p.2 ∧ p.1 ∈ l) → pre.length < l.length → YieldAt Fence.wide (n - 1) Tryz.prog lp #[encA p.2] W1 fun e W' =>
      (e = .returned (.bool true) ∧ J (pre ++ [p]) W' ∧ Below w0.heap.size W1 W') ∨ (e = .returned (.bool false) ∧ Jx (pre ++ [p]) W'))
    (hJ : ∀ pre A B, J pre A → Below A.heap.size A B → J pre B) (hB : W.cell? ⟨Bs, 0, none⟩ = some (.slice A l.length c)) (hJ0 : J [] W) :
    CallsIn Fence.wide n Tryz.prog 107 #[.func (.yield lp) #[] #[], .pointer (some ⟨Bs, 0, none⟩)] W fun e W' => (∃ v, e = .returned v) ∧
      ((∃ ps, ps.map Prod.fst = l ∧ J ps W') ∨ ∃ pre, pre.map Prod.fst <+: l ∧ Jx pre W') := by
  refine callsIn_of_wp Tryz.func107 rfl trivial ?_ rfl
  simp only [Tryz.ntmps107, List.size_toArray, List.length_cons, List.length_nil, Nat.reduceAdd, Nat.reduceSub, Array.replicate_succ, Array.replicate_zero, List.push_toArray, List.append_toArray, List.nil_append, List.cons_append]
  have HY := Aside0.mk hY
  have HJ := Aside0.mk hJ
  have HC := Aside0.mk hC
  have HW := Aside0.mk h0
  have hmx := hC.2.1
  clear hY hJ hC h0
  gi_wp2
  gi_loopw [4, 7, 8, 9, 10, 11, 12, 13, 14, 15] (fun _ r7 _ _ _ _ _ _ _ _ wr => ∃ (j : Nat) (pre : List (Lab × List Value)), j ≤ l.length ∧ r7 = .int .i64 j ∧ J pre wr ∧ Below w0.heap.size w0 wr ∧ pre.map Prod.fst = l.take j)
    (fun _ r7 _ _ _ _ _ _ _ _ wr => l.length - (intOf r7).toNat)
  case atStart => exact ⟨0, [], Nat.zero_le _, rfl, hJ0, HW.out, by simp⟩
  case round =>
    obtain ⟨j, pre, hj, rfl, hJ, hb, hpre⟩ := hrel
    have HJP := Aside0.mk hJ
    have HBW := Aside0.mk hb
    have HPRE := Aside0.mk hpre
    have HPL := Aside0.mk (show pre.length = j by have := congrArg List.length hpre; rw [List.length_map, List.length_take] at this; omega)
    clear hJ hpre hb hB hJ0
    by_cases hlt : j < l.length
    · have hE := Kd.C_get HC.out zLab (j : Int) (by omega) (by omega)
      rw [Int.toNat_natCast, show l.getD j zLab = l[j] by rw [List.getD_eq_getElem?_getD, List.getElem?_eq_getElem hlt]; rfl] at hE
      have HTK := Aside0.mk (show l.take (j + 1) = l.take j ++ [l[j]] from List.take_succ_eq_append_getElem hlt)
      have HMEM := Aside0.mk (show l[j] ∈ l from List.getElem_mem hlt)
      generalize l[j] = x at hE HTK HMEM
      obtain ⟨ad, cs, rfl, _, hK, hcell⟩ := hE
      have HK := Aside0.mk hK
      have hcs := kLab_open hK
      subst hcs
      have b0 : wr.cell? (ad.add (j * 2)) = some (.string x.name) := (HBW.out.cell (World.block_lt_of_cell? _ _ (hcell 0 _ rfl))).trans (hcell 0 _ rfl)
      have b1 : wr.cell? ⟨(ad.add (j * 2)).block, (ad.add (j * 2)).off + 1, none⟩ = some (.string x.value) := by rw [← add_field _ _ 1 (by omega)]; exact (HBW.out.cell (World.block_lt_of_cell? _ _ (hcell 1 _ rfl))).trans (hcell 1 _ rfl)
      have HCL := Aside0.mk HC.out
      have hb3 : Below wr.heap.size wr (wr.alloc (.cells #[.string x.name, .string x.value] 98)) := (Below.refl _ _).alloc (Nat.le_refl _) _
      have hyy := HY.out pre (x, [.string x.name, .string x.value]) _ (HJ.out _ _ _ HJP.out hb3) ⟨HK.out, HMEM.out⟩ (by rw [HPL.out]; exact hlt)
      obtain ⟨fn, tmps, assign, body, hy, hR⟩ := hyy
      have HRR := Aside0.mk hR
      have HB3 := Aside0.mk hb3
      clear hcell hb3 hR
      simp only [encA] at hy
      gi_wp2
      refine HRR.out.mono ?_
      rintro e W3 (⟨rfl, hJ3, hk3⟩ | ⟨rfl, hJx3⟩)
      · have HJ3 := Aside0.mk hJ3
        have HK3 := Aside0.mk ((HBW.out.trans (HB3.out.mono HBW.out.size)).trans hk3)
        clear hJ3 hk3
        gi_wp2
        go_roundw
        case rel => exact ⟨j + 1, _, by omega, by simp, HJ3.out, HK3.out, by rw [List.map_append, HPRE.out, HTK.out]; rfl⟩
        case measure => simp [intOf]; omega
      · have HJ3 := Aside0.mk hJx3
        clear hJx3
        gi_wp2
        exact bodyPost_ret (results_none rfl _ _ _) rfl ⟨⟨_, rfl⟩, .inr ⟨_, by rw [List.map_append, HPRE.out]; exact ⟨l.drop (j + 1), by show l.take j ++ [x] ++ _ = l; rw [← HTK.out, List.take_append_drop]⟩, HJ3.out⟩⟩
    · obtain rfl : j = l.length := by omega
      have HE := Aside0.mk (show pre.map Prod.fst = l by rw [HPRE.out, List.take_length])
      clear HPRE
      gi_wp2
      go_end0
      exact ⟨⟨_, rfl⟩, .inl ⟨_, HE.out, HJP.out⟩⟩
theorem valuesLab_calls (A : Option Addr) (m c : Nat) (w : World) : Calls Tryz.prog 96 #[.slice A m c] w fun e w' => e = .returned (.func (.func 107) #[] #[.pointer (some ⟨w.heap.size, 0, none⟩)]) ∧ w' = w.alloc (.cells #[.slice A m c] 89) := by
  go_enter Tryz.func96, Tryz.ntmps96
  go_wp2
  go_ret
  exact ⟨rfl, rfl⟩
theorem valuesLab_hands (n : Nat) (hn : 1 ≤ n) (Bs c : Nat) (w0 : World) (A : Option Addr) (l : List (Lab)) (hC : Kd.C kLab w0 A l.length l) (W : World) (h0 : Below w0.heap.size w0 W) (hBs : Bs < W.heap.size) (hB : W.cell? ⟨Bs, 0, none⟩ = some (.slice A l.length c)) :
    Hands Fence.wide n Tryz.prog 107 #[.pointer (some ⟨Bs, 0, none⟩)] (fun p : Lab × List Value => #[encA p.2]) (fun p _ => kLab.K w0 p.1 p.2 ∧ p.1 ∈ l) (Below w0.heap.size) (fun _ _ => False) (fun ps => ps.map Prod.fst = l) (fun pre => pre.map Prod.fst <+: l) l.length W := fun lp J Jx V hV hJ _ _ _ hY hJ0 =>
  values1Lab_in n hn lp Bs c w0 A l hC V (h0.trans (hV.mono h0.size)) J Jx hY (fun pre A B hA hb => hJ pre A B none hA (grown_of_below hb none) (fun r e => by cases e)) ((hV.cell (p := ⟨Bs, 0, none⟩) hBs).trans hB) hJ0

set_option maxRecDepth 100000 in
set_option maxHeartbeats 8000000 in
theorem values1Int_in (n : Nat) (hn : 1 ≤ n) (lp Bs c : Nat) (w0 : World) (A : Option Addr) (l : List (Int)) (hC : Kd.C (Kd.int .i64) w0 A l.length l) (W : World) (h0 : Below w0.heap.size w0 W) (J Jx : List (Int × List Value) → World → Prop)
    (hY : ∀ pre p W1, J pre W1 → ((Kd.int .i64).K w0 p.1 p.2 ∧ p.1 ∈ l) → pre.length < l.length → YieldAt Fence.wide (n - 1) Tryz.prog lp #[enc1 p.2] W1 fun e W' =>
      (e = .returned (.bool true) ∧ J (pre ++ [p]) W' ∧ Below w0.heap.size W1 W') ∨ (e = .returned (.bool false) ∧ Jx (pre ++ [p]) W'))
    (hJ : ∀ pre A B, J pre A → Below A.heap.size A B → J pre B) (hB : W.cell? ⟨Bs, 0, none⟩ = some (.slice A l.length c)) (hJ0 : J [] W) :
    CallsIn Fence.wide n Tryz.prog 106 #[.func (.yield lp) #[] #[], .pointer (some ⟨Bs, 0, none⟩)] W fun e W' => (∃ v, e = .returned v) ∧
      ((∃ ps, ps.map Prod.fst = l ∧ J ps W') ∨ ∃ pre, pre.map Prod.fst <+: l ∧ Jx pre W') := by
  refine callsIn_of_wp Tryz.func106 rfl trivial ?_ rfl
  simp only [Tryz.ntmps106, List.size_toArray, List.length_cons, List.length_nil, Nat.reduceAdd, Nat.reduceSub, Array.replicate_succ, Array.replicate_zero, List.push_toArray, List.append_toArray, List.nil_append, List.cons_append]
  have HY := Aside0.mk hY
  have HJ := Aside0.mk hJ
  have HC := Aside0.mk hC
  have HW := Aside0.mk h0
  have hmx := hC.2.1
  clear hY hJ hC h0
  gi_wp2
  gi_loopw [4, 7, 8, 9, 10, 11, 12, 13, 14, 15] (fun _ r7 _ _ _ _ _ _ _ _ wr => ∃ (j : Nat) (pre : List (Int × List Value)), j ≤ l.length ∧ r7 = .int .i64 j ∧ J pre wr ∧ Below w0.heap.size w0 wr ∧ pre.map Prod.fst = l.take j)
    (fun _ r7 _ _ _ _ _ _ _ _ wr => l.length - (intOf r7).toNat)
  case atStart => exact ⟨0, [], Nat.zero_le _, rfl, hJ0, HW.out, by simp⟩
  case round =>
    obtain ⟨j, pre, hj, rfl, hJ, hb, hpre⟩ := hrel
    have HJP := Aside0.mk hJ
    have HBW := Aside0.mk hb
    have HPRE := Aside0.mk hpre
    have HPL := Aside0.mk (show pre.length = j by have := congrArg List.length hpre; rw [List.length_map, List.length_take] at this; omega)
    clear hJ hpre hb hB hJ0
    by_cases hlt : j < l.length
    · have hE := Kd.C_get HC.out (0 : Int) (j : Int) (by omega) (by omega)
      rw [Int.toNat_natCast, show l.getD j (0 : Int) = l[j] by rw [List.getD_eq_getElem?_getD, List.getElem?_eq_getElem hlt]; rfl] at hE
      have HTK := Aside0.mk (show l.take (j + 1) = l.take j ++ [l[j]] from List.take_succ_eq_append_getElem hlt)
      have HMEM := Aside0.mk (show l[j] ∈ l from List.getElem_mem hlt)
      generalize l[j] = x at hE HTK HMEM
      obtain ⟨ad, cs, rfl, _, hK, hcell⟩ := hE
      have HK := Aside0.mk hK
      have hcs : cs = [.int .i64 x] := hK
      subst hcs
      have b0 : wr.cell? (ad.add j) = some (.int .i64 x) := by have := (HBW.out.cell (World.block_lt_of_cell? _ _ (hcell 0 _ rfl))).trans (hcell 0 (.int .i64 x) rfl); rwa [show j * ((Kd.int .i64)).sz + 0 = j from by show j * 1 + 0 = j; omega] at this
      have HCL := Aside0.mk HC.out
      have hb3 : Below wr.heap.size wr (wr) := Below.refl _ _
      have hyy := HY.out pre (x, [.int .i64 x]) _ (HJ.out _ _ _ HJP.out hb3) ⟨HK.out, HMEM.out⟩ (by rw [HPL.out]; exact hlt)
      obtain ⟨fn, tmps, assign, body, hy, hR⟩ := hyy
      have HRR := Aside0.mk hR
      have HB3 := Aside0.mk hb3
      clear hcell hb3 hR
      simp only [enc1, List.headD_cons] at hy
      gi_wp2
      refine HRR.out.mono ?_
      rintro e W3 (⟨rfl, hJ3, hk3⟩ | ⟨rfl, hJx3⟩)
      · have HJ3 := Aside0.mk hJ3
        have HK3 := Aside0.mk ((HBW.out.trans (HB3.out.mono HBW.out.size)).trans hk3)
        clear hJ3 hk3
        gi_wp2
        go_roundw
        case rel => exact ⟨j + 1, _, by omega, by simp, HJ3.out, HK3.out, by rw [List.map_append, HPRE.out, HTK.out]; rfl⟩
        case measure => simp [intOf]; omega
      · have HJ3 := Aside0.mk hJx3
        clear hJx3
        gi_wp2
        exact bodyPost_ret (results_none rfl _ _ _) rfl ⟨⟨_, rfl⟩, .inr ⟨_, by rw [List.map_append, HPRE.out]; exact ⟨l.drop (j + 1), by show l.take j ++ [x] ++ _ = l; rw [← HTK.out, List.take_append_drop]⟩, HJ3.out⟩⟩
    · obtain rfl : j = l.length := by omega
      have HE := Aside0.mk (show pre.map Prod.fst = l by rw [HPRE.out, List.take_length])
      clear HPRE
      gi_wp2
      go_end0
      exact ⟨⟨_, rfl⟩, .inl ⟨_, HE.out, HJP.out⟩⟩
theorem valuesInt_calls (A : Option Addr) (m c : Nat) (w : World) : Calls Tryz.prog 93 #[.slice A m c] w fun e w' => e = .returned (.func (.func 106) #[] #[.pointer (some ⟨w.heap.size, 0, none⟩)]) ∧ w' = w.alloc (.cells #[.slice A m c] 86) := by
  go_enter Tryz.func93, Tryz.ntmps93
  go_wp2
  go_ret
  exact ⟨rfl, rfl⟩
theorem valuesInt_hands (n : Nat) (hn : 1 ≤ n) (Bs c : Nat) (w0 : World) (A : Option Addr) (l : List (Int)) (hC : Kd.C (Kd.int .i64) w0 A l.length l) (W : World) (h0 : Below w0.heap.size w0 W) (hBs : Bs < W.heap.size) (hB : W.cell? ⟨Bs, 0, none⟩ = some (.slice A l.length c)) :
    Hands Fence.wide n Tryz.prog 106 #[.pointer (some ⟨Bs, 0, none⟩)] (fun p : Int × List Value => #[enc1 p.2]) (fun p _ => (Kd.int .i64).K w0 p.1 p.2 ∧ p.1 ∈ l) (Below w0.heap.size) (fun _ _ => False) (fun ps => ps.map Prod.fst = l) (fun pre => pre.map Prod.fst <+: l) l.length W := fun lp J Jx V hV hJ _ _ _ hY hJ0 =>
  values1Int_in n hn lp Bs c w0 A l hC V (h0.trans (hV.mono h0.size)) J Jx hY (fun pre A B hA hb => hJ pre A B none hA (grown_of_below hb none) (fun r e => by cases e)) ((hV.cell (p := ⟨Bs, 0, none⟩) hBs).trans hB) hJ0

set_option maxRecDepth 100000 in
set_option maxHeartbeats 8000000 in
theorem values1Str_in (n : Nat) (hn : 1 ≤ n) (lp Bs c : Nat) (w0 : World) (A : Option Addr) (l : List (ByteArray)) (hC : Kd.C Kd.string w0 A l.length l) (W : World) (h0 : Below w0.heap.size w0 W) (J Jx : List (ByteArray × List Value) → World → Prop)
    (hY : ∀ pre p W1, J pre W1 → (Kd.string.K w0 p.1 p.2 ∧ p.1 ∈ l) → pre.length < l.length → YieldAt Fence.wide (n - 1) Tryz.prog lp #[enc1 p.2] W1 fun e W' =>
      (e = .returned (.bool true) ∧ J (pre ++ [p]) W' ∧ Below w0.heap.size W1 W') ∨ (e = .returned (.bool false) ∧ Jx (pre ++ [p]) W'))
    (hJ : ∀ pre A B, J pre A → Below A.heap.size A B → J pre B) (hB : W.cell? ⟨Bs, 0, none⟩ = some (.slice A l.length c)) (hJ0 : J [] W) :
    CallsIn Fence.wide n Tryz.prog 112 #[.func (.yield lp) #[] #[], .pointer (some ⟨Bs, 0, none⟩)] W fun e W' => (∃ v, e = .returned v) ∧
      ((∃ ps, ps.map Prod.fst = l ∧ J ps W') ∨ ∃ pre, pre.map Prod.fst <+: l ∧ Jx pre W') := by
  refine callsIn_of_wp Tryz.func112 rfl trivial ?_ rfl
  simp only [Tryz.ntmps112, List.size_toArray, List.length_cons, List.length_nil, Nat.reduceAdd, Nat.reduceSub, Array.replicate_succ, Array.replicate_zero, List.push_toArray, List.append_toArray, List.nil_append, List.cons_append]
  have HY := Aside0.mk hY
  have HJ := Aside0.mk hJ
  have HC := Aside0.mk hC
  have HW := Aside0.mk h0
  have hmx := hC.2.1
  clear hY hJ hC h0
  gi_wp2
  gi_loopw [4, 7, 8, 9, 10, 11, 12, 13, 14, 15] (fun _ r7 _ _ _ _ _ _ _ _ wr => ∃ (j : Nat) (pre : List (ByteArray × List Value)), j ≤ l.length ∧ r7 = .int .i64 j ∧ J pre wr ∧ Below w0.heap.size w0 wr ∧ pre.map Prod.fst = l.take j)
    (fun _ r7 _ _ _ _ _ _ _ _ wr => l.length - (intOf r7).toNat)
  case atStart => exact ⟨0, [], Nat.zero_le _, rfl, hJ0, HW.out, by simp⟩
  case round =>
    obtain ⟨j, pre, hj, rfl, hJ, hb, hpre⟩ := hrel
    have HJP := Aside0.mk hJ
    have HBW := Aside0.mk hb
    have HPRE := Aside0.mk hpre
    have HPL := Aside0.mk (show pre.length = j by have := congrArg List.length hpre; rw [List.length_map, List.length_take] at this; omega)
    clear hJ hpre hb hB hJ0
    by_cases hlt : j < l.length
    · have hE := Kd.C_get HC.out (⟨#[]⟩ : ByteArray) (j : Int) (by omega) (by omega)
      rw [Int.toNat_natCast, show l.getD j (⟨#[]⟩ : ByteArray) = l[j] by rw [List.getD_eq_getElem?_getD, List.getElem?_eq_getElem hlt]; rfl] at hE
      have HTK := Aside0.mk (show l.take (j + 1) = l.take j ++ [l[j]] from List.take_succ_eq_append_getElem hlt)
      have HMEM := Aside0.mk (show l[j] ∈ l from List.getElem_mem hlt)
      generalize l[j] = x at hE HTK HMEM
      obtain ⟨ad, cs, rfl, _, hK, hcell⟩ := hE
      have HK := Aside0.mk hK
      have hcs : cs = [.string x] := hK
      subst hcs
      have b0 : wr.cell? (ad.add j) = some (.string x) := by have := (HBW.out.cell (World.block_lt_of_cell? _ _ (hcell 0 _ rfl))).trans (hcell 0 (.string x) rfl); rwa [show j * (Kd.string).sz + 0 = j from by show j * 1 + 0 = j; omega] at this
      have HCL := Aside0.mk HC.out
      have hb3 : Below wr.heap.size wr (wr) := Below.refl _ _
      have hyy := HY.out pre (x, [.string x]) _ (HJ.out _ _ _ HJP.out hb3) ⟨HK.out, HMEM.out⟩ (by rw [HPL.out]; exact hlt)
      obtain ⟨fn, tmps, assign, body, hy, hR⟩ := hyy
      have HRR := Aside0.mk hR
      have HB3 := Aside0.mk hb3
      clear hcell hb3 hR
      simp only [enc1, List.headD_cons] at hy
      gi_wp2
      refine HRR.out.mono ?_
      rintro e W3 (⟨rfl, hJ3, hk3⟩ | ⟨rfl, hJx3⟩)
      · have HJ3 := Aside0.mk hJ3
        have HK3 := Aside0.mk ((HBW.out.trans (HB3.out.mono HBW.out.size)).trans hk3)
        clear hJ3 hk3
        gi_wp2
        go_roundw
        case rel => exact ⟨j + 1, _, by omega, by simp, HJ3.out, HK3.out, by rw [List.map_append, HPRE.out, HTK.out]; rfl⟩
        case measure => simp [intOf]; omega
      · have HJ3 := Aside0.mk hJx3
        clear hJx3
        gi_wp2
        exact bodyPost_ret (results_none rfl _ _ _) rfl ⟨⟨_, rfl⟩, .inr ⟨_, by rw [List.map_append, HPRE.out]; exact ⟨l.drop (j + 1), by show l.take j ++ [x] ++ _ = l; rw [← HTK.out, List.take_append_drop]⟩, HJ3.out⟩⟩
    · obtain rfl : j = l.length := by omega
      have HE := Aside0.mk (show pre.map Prod.fst = l by rw [HPRE.out, List.take_length])
      clear HPRE
      gi_wp2
      go_end0
      exact ⟨⟨_, rfl⟩, .inl ⟨_, HE.out, HJP.out⟩⟩
theorem valuesStr_calls (A : Option Addr) (m c : Nat) (w : World) : Calls Tryz.prog 109 #[.slice A m c] w fun e w' => e = .returned (.func (.func 112) #[] #[.pointer (some ⟨w.heap.size, 0, none⟩)]) ∧ w' = w.alloc (.cells #[.slice A m c] 92) := by
  go_enter Tryz.func109, Tryz.ntmps109
  go_wp2
  go_ret
  exact ⟨rfl, rfl⟩
theorem valuesStr_hands (n : Nat) (hn : 1 ≤ n) (Bs c : Nat) (w0 : World) (A : Option Addr) (l : List (ByteArray)) (hC : Kd.C Kd.string w0 A l.length l) (W : World) (h0 : Below w0.heap.size w0 W) (hBs : Bs < W.heap.size) (hB : W.cell? ⟨Bs, 0, none⟩ = some (.slice A l.length c)) :
    Hands Fence.wide n Tryz.prog 112 #[.pointer (some ⟨Bs, 0, none⟩)] (fun p : ByteArray × List Value => #[enc1 p.2]) (fun p _ => Kd.string.K w0 p.1 p.2 ∧ p.1 ∈ l) (Below w0.heap.size) (fun _ _ => False) (fun ps => ps.map Prod.fst = l) (fun pre => pre.map Prod.fst <+: l) l.length W := fun lp J Jx V hV hJ _ _ _ hY hJ0 =>
  values1Str_in n hn lp Bs c w0 A l hC V (h0.trans (hV.mono h0.size)) J Jx hY (fun pre A B hA hb => hJ pre A B none hA (grown_of_below hb none) (fun r e => by cases e)) ((hV.cell (p := ⟨Bs, 0, none⟩) hBs).trans hB) hJ0
end Go.Proofs.YtpdppfihpnfblaaGreat.H
