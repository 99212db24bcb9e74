/- slices.Values, AppendSeq, Collect at labels: the labels of a slice that is read, in a slice of the call's own. -/
import Derived.Test.YtiddemgeehcjpaaTagI
import Derived.Test.YtiddemgeehcjpaaTagL
import Derived.Maps.AppendAt
import Derived.RangeFuncBox
namespace Go.Proofs.Ytiddemgeehcjpaa.H
open Go.RowKit Go.Shelf Go.Proofs.Ytiddemgeehcjpaa.PA Go.Proofs.YtiddemgeehcjpaaW.PrintWords Go.Proofs.YtiddemgeehcjpaaW.PrintLast Go.Proofs.YtiddemgeehcjpaaW.PrintMore
attribute [local go_sem] Oper.semAt_some
set_option linter.unusedVariables false

set_option maxHeartbeats 1000000 in
theorem values_calls (A : Option Addr) (n c : Nat) (w : World) :
    Calls Try.prog 18 #[.slice A n c] w fun e w' => e = .returned (.func (.func 36) #[] #[.pointer (some ⟨w.heap.size, 0, none⟩)]) ∧ w' = w.alloc (.cells #[.slice A n c] 22) := by
  go_enter Try.func18, Try.ntmps18
  go_wp2
  go_ret
  exact ⟨rfl, rfl⟩

set_option maxRecDepth 100000 in
set_option maxHeartbeats 2000000 in
theorem values1_in (F : Fence) (n : Nat) (hF : F.fn 36) (hro : F.round = none) (hn : 1 ≤ n) (lp Bs n₀ : Nat) (A : Option Addr) (c : Nat) (l : List S32) (J Jx : List S32 → World → Prop)
    (hY : ∀ pre x W, J pre W → pre.length < l.length → YieldAt F (n - 1) Try.prog lp #[.agg #[.string x.f0, .string x.f1]] W fun e W' =>
      (e = .returned (.bool true) ∧ J (pre ++ [x]) W' ∧ Below n₀ W W') ∨ (e = .returned (.bool false) ∧ Jx (pre ++ [x]) W'))
    (hJ : ∀ pre W o, J pre W → J pre (W.alloc o)) (W : World) (hn₀ : n₀ ≤ W.heap.size)
    (hB1 : W.cell? ⟨Bs, 0, none⟩ = some (.slice A l.length c)) (hC : Kd.C k32 W A l.length l) (hblk : ∀ ad, A = some ad → 0 < l.length → ad.block < n₀) (h0 : J [] W) :
    CallsIn F n Try.prog 36 #[.func (.yield lp) #[] #[], .pointer (some ⟨Bs, 0, none⟩)] W fun e W' => (∃ v, e = .returned v) ∧
      (J l W' ∨ ∃ pre, pre <+: l ∧ Jx pre W') := by
  have huL := Try.underlying32
  have hmax : l.length ≤ 9223372036854775807 := hC.2.1
  refine callsIn_of_wp Try.func36 rfl hF ?_ hro
  simp only [Try.ntmps36, List.size_toArray, List.length_cons, List.length_nil, Nat.reduceAdd, Nat.reduceSub, Array.replicate_succ, Array.replicate_zero, List.push_toArray, List.append_toArray, List.nil_append, List.cons_append]
  have HC := Aside0.mk hC
  clear hC
  gi_wp2
  gi_loopw [4, 7, 9, 10, 11, 12, 13, 14] (fun _ i _ _ _ _ _ _ wr => ∃ k : Nat, k ≤ l.length ∧ i = .int .i64 k ∧ J (l.take k) wr ∧ Below n₀ W wr)
    (fun _ i _ _ _ _ _ _ _ => l.length - (intOf i).toNat)
  case atStart => exact ⟨0, Nat.zero_le _, rfl, by simpa using h0, Below.refl _ _⟩
  case round =>
    obtain ⟨k, hk, rfl, hJs, hnx⟩ := hrel
    by_cases hlt : k < l.length
    · obtain ⟨ad, rfl, hc0, hc1⟩ := at_T32 HC.out (k : Int) (by omega) (by omega)
      have hbk := hblk ad rfl (by omega)
      have hb1 : (ad.add ((k : Int).toNat * 2)).block < n₀ := by rw [ad_block]; exact hbk
      replace hc0 := (hnx.cell hb1).trans hc0
      replace hc1 := (hnx.cell (p := ⟨(ad.add ((k : Int).toNat * 2)).block, (ad.add ((k : Int).toNat * 2)).off + 1, none⟩) hb1).trans hc1
      rw [lab_at l k hlt] at hc0 hc1
      simp only [Int.toNat_natCast] at hc0 hc1
      have htk : l.take k ++ [l[k]] = l.take (k + 1) := (List.take_succ_eq_append_getElem hlt).symm
      have HTK := Aside0.mk htk
      clear htk
      obtain ⟨x, hx⟩ : ∃ x, l[k] = x := ⟨_, rfl⟩
      rw [hx] at HTK hc0 hc1
      clear hx
      obtain ⟨fn, tmps, assign, body, hy, hR⟩ := hY _ x _ (hJ _ _ (.cells #[.string x.f0, .string x.f1] 32) hJs) (by rw [List.length_take]; omega)
      gi_wp2
      refine hR.mono ?_
      rintro e W3 (⟨rfl, hJ3, hk3⟩ | ⟨rfl, hJx3⟩)
      · gi_wp2
        go_roundw
        case rel => exact ⟨k + 1, by omega, by simp, by rw [← HTK.out]; exact hJ3, (hnx.trans ((Below.refl n₀ wr).alloc (Nat.le_trans hn₀ hnx.size) _)).trans hk3⟩
        case measure => simp [intOf]; omega
      · gi_wp2
        refine bodyPost_ret (results_none rfl _ _ _) rfl ?_
        exact ⟨⟨_, rfl⟩, .inr ⟨_, by rw [HTK.out]; exact List.take_prefix _ _, hJx3⟩⟩
    · obtain rfl : k = l.length := by omega
      gi_wp2
      go_end0
      exact ⟨⟨_, rfl⟩, .inl (by rw [List.take_length] at hJs; exact hJs)⟩

theorem values_stops (F : Fence) (n : Nat) (hF : F.fn 36) (hro : F.round = none) (hn : 1 ≤ n) (Bs n₀ : Nat) (A : Option Addr) (c : Nat) (l : List S32) (w : World) (hBs : Bs < w.heap.size) (hn₀ : n₀ ≤ w.heap.size)
    (hB1 : w.cell? ⟨Bs, 0, none⟩ = some (.slice A l.length c)) (hC : Kd.C k32 w A l.length l) (hblk : ∀ ad, A = some ad → 0 < l.length → ad.block < n₀) :
    SeqStopsK F n Try.prog 36 #[.pointer (some ⟨Bs, 0, none⟩)] (fun x : S32 => #[Value.agg #[.string x.f0, .string x.f1]]) (Below n₀) (fun ys => ys = l) (fun pre => pre <+: l) l.length w := fun lp J Jx W hW hJ _ hY h0 => by
  have hB1' := (hW.cell (p := ⟨Bs, 0, none⟩) hBs).trans hB1
  refine (values1_in F n hF hro hn lp Bs n₀ A c l J Jx hY (fun pre W1 o h => ?_) W (Nat.le_trans hn₀ hW.size) hB1' (Kd.C_below hC hW) hblk h0).mono ?_
  · exact hJ pre W1 (W1.alloc o) none h (World.grownBy_alloc W1 o none) (fun r e => by cases e)
  · rintro e W' ⟨he, hj | ⟨pre, hp, hj⟩⟩
    · exact ⟨he, .inl ⟨_, rfl, hj⟩⟩
    · exact ⟨he, .inr ⟨_, hp, hj⟩⟩

/-- Labels' cells, one behind the other. -/
def cellsL (l : List S32) : List Value := l.flatMap (fun x => [.string x.f0, .string x.f1])
theorem cellsL_snoc (l : List S32) (x : S32) : cellsL (l ++ [x]) = cellsL l ++ [.string x.f0, .string x.f1] := by simp [cellsL]
theorem cellsL_length (l : List S32) : (cellsL l).length = l.length * 2 := by
  induction l with
  | nil => rfl
  | cons x l ih => simp only [cellsL, List.flatMap_cons, List.length_append, List.length_cons, List.length_nil] at *; omega
theorem infoLabel : (Try.prog.info? 32).map (fun i => (i.zero, i.size, i.bytes)) = some (some (.agg #[.string ByteArray.empty, .string ByteArray.empty]), 2, 32) := by kernel_rfl

set_option maxRecDepth 100000 in
set_option maxHeartbeats 4000000 in
theorem appendSeq_calls (A : Option Addr) (c : Nat) (l : List S32) (w : World) (Bs : Nat) (hBs : Bs < w.heap.size) (hB1 : w.cell? ⟨Bs, 0, none⟩ = some (.slice A l.length c)) (hC : Kd.C k32 w A l.length l) (hl : l.length ≤ 1000000) :
    Calls Try.prog 46 #[.slice none 0 0, .func (.func 36) #[] #[.pointer (some ⟨Bs, 0, none⟩)]] w fun e w' => ∃ v, e = .returned v ∧ w'.ownsRow w.heap.size 32 2 v l.length (cellsL l) ∧ Below w.heap.size w w' := by
  have huL := Try.underlying32
  obtain ⟨i0, hi, hz0, hz1, hz2⟩ := info_parts infoLabel
  have HC := Aside0.mk hC
  have HBK := Aside0.mk (C_blk hC (by decide))
  clear hC
  refine (callsIn_wide (n := 6)).1 ?_
  refine callsIn_of_wp_marks Try.func46 rfl trivial ?_ rfl
  simp only [Try.ntmps46, List.size_toArray, List.length_cons, List.length_nil, Nat.reduceAdd, Nat.reduceSub, Array.replicate_succ, Array.replicate_zero, List.push_toArray, List.append_toArray, List.nil_append, List.cons_append]
  gi_wp2_with fail
  have hbx : Boxed (w.alloc (.cells #[.slice none 0 0] 22)) w.heap.size 22 (.slice none 0 0) := Boxed.new _ _ _
  have hB1' := Lib.cell?_alloc_some (Obj.cells #[Value.slice none 0 0] 22) hB1
  have hbe : Below w.heap.size w (w.alloc (.cells #[.slice none 0 0] 22)) := (Below.refl _ _).alloc (Nat.le_refl _) _
  have hz : (w.alloc (.cells #[.slice none 0 0] 22)).heap.size = w.heap.size + 1 := by simp
  have hC1 := Kd.C_below HC.out hbe
  generalize w.alloc (.cells #[.slice none 0 0] 22) = w1 at hbx hB1' hbe hz hC1 ⊢
  refine wpIn_rangeFunc_ownH (F := Fence.wide) (n := 6) rfl (by omega) (gf := 36) (lb := #[.pointer (some ⟨Bs, 0, none⟩)]) rfl trivial (enters_of Try.func36 (by kernel_rfl) rfl)
    (values_stops Fence.wide (6 - 1) trivial rfl (by omega) Bs w.heap.size A c l w1 (by omega) (by omega) hB1' hC1 HBK.out)
    belowK_t (belowK_b (by omega)) (Below.refl _ _) (fun _ => rfl)
    (fun pre W => (∃ v, Boxed W w.heap.size 22 v ∧ W.ownsRow w.heap.size 32 2 v pre.length (cellsL pre) ∧ True) ∧ Below w.heap.size w W)
    (fun _ _ _ => False)
    (OwnFrom.and (Own.from (holdsRow_own w.heap.size w.heap.size 22 32 2 (fun pre => pre.length) (fun pre => cellsL pre) (fun _ _ => True)) _) (ownFrom_below (Nat.le_refl _) (by omega)))
    (fun _ _ _ _ _ hs _ _ => hs)
    ⟨⟨_, hbx, ⟨rfl, .inl ⟨rfl, rfl⟩⟩, trivial⟩, hbe⟩
    (fun x a' W => ∃ Bx, w.heap.size < Bx ∧ W.heap[Bx]? = some (.cells #[.string x.f0, .string x.f1] 32 (0, 0)) ∧ a' = { tmps := #[.slice none 0 0, .func (.func 36) #[] #[.pointer (some ⟨Bs, 0, none⟩)], .pointer (some ⟨w.heap.size, 0, none⟩), undef, .slice none 0 0, .pointer (some ⟨Bx, 0, none⟩), .func (.func 36) #[] #[.pointer (some ⟨Bs, 0, none⟩)], .agg #[.string x.f0, .string x.f1], undef, undef, undef, undef, undef], defers := [] })
    ?hAx ?assign ?body ?done ?stop
  case hAx =>
    rintro x a' s W W' row ⟨Bx, h1, h2, h3⟩ hg hr
    refine ⟨Bx, h1, ?_, h3⟩
    rw [hg.block Bx (Array.getElem?_eq_some_iff.1 h2).1 ?_]
    · exact h2
    · rintro rfl
      obtain ⟨_, o, ho, hc⟩ := hr Bx rfl
      rw [h2] at ho
      cases ho
      cases hc
  case assign =>
    rintro lp pre x W K ⟨⟨v, hv, ho, _⟩, hb⟩ hK
    have hs := hb.size
    have hvl := hv.lt
    gi_wp2
    refine hK _ _ ((KeepsOthers.alloc _ _).from _) ((Below.refl _ W).alloc hb.size _) ⟨⟨v, hv.alloc _, ?_, trivial⟩, hb.alloc hb.size _⟩ ⟨W.heap.size, hvl, World.alloc_heap_new W _, rfl⟩
    exact ho.kept (World.grownBy_alloc W _ none) (by cases v.ownBlock <;> simp)
  case body =>
    rintro lp pre x a' W hlp _ ⟨⟨v, hv, ho, _⟩, hb⟩ ⟨Bx, hBx, hX, rfl⟩ hlen
    have hcv := hv.cell
    have hfv := hv.frozen
    have hx0 : W.cell? ⟨Bx, 0, none⟩ = some (.string x.f0) := by rw [Lib.cell_of_heap hX]; rfl
    have hx1 : W.cell? ⟨Bx, 1, none⟩ = some (.string x.f1) := by rw [Lib.cell_of_heap hX]; rfl
    have HV := Aside0.mk hv
    have HO := Aside0.mk ho
    have HB := Aside0.mk hb
    have hsz := hb.size
    clear hv ho hb hX
    gi_wp2_with (gi_at_builtin; refine wpListIn_append_own _ rfl _ _ 22 rfl w.heap.size 32 i0 (.agg #[.string ByteArray.empty, .string ByteArray.empty]) 2 32 Try.underlying22 hi hz0 hz1 hz2 rfl (by decide) _ _ _ rfl (HO.out.kept (World.grownBy_alloc W (.cells #[.string x.f0, .string x.f1] 32) none) (by cases v.ownBlock <;> simp)) ⟨W.heap.size, 0, none⟩ 1 1 [.string x.f0, .string x.f1] rfl rfl ?c1 ?c2 ?c3 ?c4 ?c5 ?_)
    case c1 =>
      intro j u hj
      match j, hj with
      | 0, hj => simp at hj; subst hj; simp [Addr.add]
      | 1, hj => simp at hj; subst hj; simp [Addr.add]
    case c2 => intro u hu; simp at hu; rcases hu with rfl | rfl <;> rfl
    case c3 => unfold maxLen; omega
    case c4 => omega
    case c5 => simp; omega
    intro v' w2 hown' hgrow _
    obtain ⟨g', cap', rfl⟩ := ownsRow_succ hown'
    obtain ⟨hv1, hv2, hr2, hk2, hb2⟩ := HV.out.appended (by decide) HO.out hsz (Nat.le_refl _) hown' hgrow
    have hc1 := hv1.cell
    have hf1 := hv1.frozen
    have HV2 := Aside0.mk hv2
    have HR2 := Aside0.mk hr2
    have HK2 := Aside0.mk hk2
    have HB2 := Aside0.mk hb2
    clear hown' hgrow hv1 hv2 hr2 hk2 hb2
    gi_wp2
    refine ⟨HK2.out.from _, HB2.out, ⟨_, HV2.out, ?_, trivial⟩, HB.out.trans HB2.out⟩
    rw [List.length_append, cellsL_snoc]
    exact HR2.out
  case done =>
    rintro D xs W hD rfl ⟨⟨v, hv, ho, _⟩, hb⟩ hK
    have hcv := hv.cell
    have HO := Aside0.mk ho
    have HB := Aside0.mk hb
    have HK := Aside0.mk hK
    clear hv ho hb hK
    gi_wp2
    refine ⟨by simp, .inl ⟨_, _, rfl, run_takeDeferred HK.out, ?_⟩⟩
    exact ⟨_, results_tmp rfl _ _ _, ⟨v, rfl, ownsRow_putObj HO.out _ HK.out rfl, HB.out.trans (belowK_b (Nat.le_refl _) _ _ _ _ (by omega) HK.out rfl rfl)⟩⟩
  case stop =>
    rintro D c pre W _ _ h _
    exact h.elim

set_option maxHeartbeats 1000000 in
theorem collect_calls (A : Option Addr) (c : Nat) (l : List S32) (w : World) (Bs : Nat) (hBs : Bs < w.heap.size) (hB1 : w.cell? ⟨Bs, 0, none⟩ = some (.slice A l.length c)) (hC : Kd.C k32 w A l.length l) (hl : l.length ≤ 1000000) :
    Calls Try.prog 34 #[.func (.func 36) #[] #[.pointer (some ⟨Bs, 0, none⟩)]] w fun e w' => ∃ v, e = .returned v ∧ w'.ownsRow w.heap.size 32 2 v l.length (cellsL l) ∧ Below w.heap.size w w' := by
  have hcon := appendSeq_calls A c l w Bs hBs hB1 hC hl
  clear hB1 hC
  go_enter Try.func34, Try.ntmps34
  go_wp2_with (go_at_call 46; refine hcon.mono ?_; rintro e w' ⟨v, rfl, ho, hb⟩; have HO := Aside0.mk ho; clear ho)
  go_ret
  exact ⟨v, rfl, HO.out, hb⟩
end Go.Proofs.Ytiddemgeehcjpaa.H
