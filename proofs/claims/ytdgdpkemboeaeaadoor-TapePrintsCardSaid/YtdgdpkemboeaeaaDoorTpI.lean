/- Which kind a word is: slices.IndexFunc at the kinds' shapes. -/
import Derived.Test.YtdgdpkemboeaeaaDoorTpL
import Derived.RangeFuncNested
namespace Go.Proofs.YtdgdpkemboeaeaaDoor.H
open Go.RowKit Go.Shelf Go.Proofs.YtdgdpkemboeaeaaDoor.PT Go.Proofs.YtdgdpkemboeaeaaDoorW.PrintWords Go.Proofs.YtdgdpkemboeaeaaDoorW.PrintLast Go.Proofs.YtdgdpkemboeaeaaDoorW.PrintMore
set_option linter.unusedVariables false
set_option linter.unusedSimpArgs false
/-- The words that are left, at block B; they lay in w0. -/
structure Wds (w0 W : World) (B : Nat) (p : List ByteArray) : Prop where
  ex : ∃ A c, W.heap[B]? = some (.cells #[.slice A p.length c] 124 (0, 0)) ∧ p.length ≤ c ∧ Kd.C Kd.string w0 A p.length p
  hb : Below w0.heap.size w0 W
  hB : w0.heap.size ≤ B
theorem Wds.below {w0 W W' : World} {B : Nat} {p : List ByteArray} (h : Wds w0 W B p) (hb : Below W.heap.size W W') : Wds w0 W' B p := by
  obtain ⟨A, c, h1, h2, h3⟩ := h.ex
  exact ⟨⟨A, c, (hb.block _ (blk_lt h1)).trans h1, h2, h3⟩, h.hb.trans (hb.mono h.hb.size), h.hB⟩
def headB : List ByteArray → ByteArray
  | [] => ⟨#[]⟩
  | x :: _ => x
theorem Wds.tail {w0 W : World} {B : Nat} {x : ByteArray} {r : List ByteArray} {A A' : Option Addr} {c c' : Nat} (h : Wds w0 W B (x :: r)) (hB : W.heap[B]? = some (.cells #[.slice A (x :: r).length c] 124 (0, 0))) (hc : r.length ≤ c') (hC : Kd.C Kd.string w0 A' r.length r) :
    Wds w0 (W.setCell ⟨B, 0, none⟩ (.slice A' r.length c')) B r :=
  ⟨⟨A', c', blk_set hB 0 _, hc, hC⟩, h.hb.setCell (p := ⟨B, 0, none⟩) h.hB _, h.hB⟩
theorem C_tail {w : World} {x : ByteArray} {r : List ByteArray} {ad : Addr} (h : Kd.C Kd.string w (some ad) (x :: r).length (x :: r)) : Kd.C Kd.string w (some ⟨ad.block, ad.off + 1, none⟩) r.length r := by
  obtain ⟨h1, h2, h3⟩ := h
  refine ⟨rfl, by rw [List.length_cons] at h2; omega, fun _ => ⟨_, rfl, fun j p hj => ?_⟩⟩
  obtain ⟨ad', e, hc⟩ := h3 (by simp)
  obtain rfl := Option.some.inj e
  obtain ⟨cs, hl, hk, hu⟩ := hc (j + 1) p (by simpa using hj)
  refine ⟨cs, hl, hk, fun i u hi => ?_⟩
  have := hu i u hi
  have e1 : ad.add ((j + 1) * Kd.string.sz + i) = ⟨ad.block, ad.off + 1 + (j + i), none⟩ := by
    show ad.add ((j + 1) * 1 + i) = _
    unfold Addr.add
    rw [if_neg (by omega)]
    simp only [Addr.mk.injEq, true_and, and_true]
    omega
  have e2 : (⟨ad.block, ad.off + 1, none⟩ : Addr).add (j * Kd.string.sz + i) = ⟨ad.block, ad.off + 1 + (j + i), none⟩ := by
    show (⟨ad.block, ad.off + 1, none⟩ : Addr).add (j * 1 + i) = _
    unfold Addr.add
    split
    · rename_i h
      simp only [Addr.mk.injEq, true_and, and_true]
      omega
    · simp only [Addr.mk.injEq, true_and, and_true]
      omega
  rw [e2, ← e1]
  exact this
theorem C_empty {w : World} {r : List ByteArray} {A : Option Addr} (h : r.length = 0) : Kd.C Kd.string w A r.length r := ⟨rfl, by omega, fun h2 => absurd h2 (by omega)⟩
set_option maxRecDepth 100000 in
set_option maxHeartbeats 4000000 in
theorem next_calls {w0 W : World} {B : Nat} {p : List ByteArray} (h : Wds w0 W B p) :
    Calls Tryd.prog 89 #[.pointer (some ⟨B, 0, none⟩)] W fun e W' => e = .returned (.string (headB p)) ∧ Wds w0 W' B p.tail ∧ W.grownBy W' (some B) := by
  have H := Aside0.mk h
  obtain ⟨A, c, hB, hc, hC⟩ := h.ex
  clear h
  have b0 := blk_cell hB 0
  have f0 := blk_frozen hB 0
  have HB := Aside0.mk hB
  have HC := Aside0.mk hC
  clear hB hC
  cases p with
  | nil =>
    go_enter Tryd.func89, Tryd.ntmps89
    go_wp2
    go_ret
    exact ⟨rfl, H.out, grown_of_below (Below.refl _ _) _⟩
  | cons x r =>
    obtain ⟨ad, rfl, hcell⟩ := HC.out.2.2 (by simp)
    obtain ⟨cs, hcs, hk, hu⟩ := hcell 0 x rfl
    have e : cs = [.string x] := hk
    subst e
    have c0 := pw_cell_below (H.out.hb) (hu 0 (.string x) rfl)
    have ea : ad.add (0 * Kd.string.sz + 0) = ad := by unfold Addr.add; simp
    rw [ea] at c0
    clear ea
    have hmx := HC.out.2.1
    have HCE := Aside0.mk hcell
    clear hcell hu hcs hk
    simp only [List.length_cons] at b0 hc hmx
    have i0 : (0 : Int) ≤ (r.length : Int) := by omega
    have i1 : (r.length : Int) + 1 ≤ (c : Int) := by omega
    have i2 : (1 : Int) ≤ (r.length : Int) + 1 := by omega
    have i3 : (1 : Int) ≤ (c : Int) := by omega
    go_enter Tryd.func89, Tryd.ntmps89
    go_wp2
    all_goals
      refine bodyPost_ret (v := .string x) (by simp [results, Tryd.results89, go_sem]) rfl ⟨rfl, ?_, grownBy_setCell' _ _ _⟩
      first
      | exact H.out.tail HB.out (by omega) (C_tail HC.out)
      | exact H.out.tail HB.out (by omega) (C_empty (by omega))
theorem atoi_calls (x : ByteArray) (hs : x.size ≤ 1000000000) (w : World) (hE : Env w) :
    Calls Tryd.prog 47 #[.string x] w fun e w' => (∃ u, e = .returned (.tuple #[.int .i64 (numW x.data.toList), u])) ∧ Below w.heap.size w w' := by
  cases ha : Lib.atoiAll x.data.toList with
  | ok v =>
    have hr : numW x.data.toList = v := by unfold numW; rw [ha]
    refine (Tryd.strconv_Atoi_ok x (by omega) v ha w).mono ?_
    rintro e w' ⟨rfl, hb⟩
    refine ⟨⟨_, by rw [hr]⟩, ?_⟩
    rcases hb with rfl | ⟨t, rfl⟩
    · exact Below.refl _ _
    · exact Lib.bytesWorld_below _ _ _
  | range =>
    have hr : numW x.data.toList = Lib.atoiSat x.data.toList := by unfold numW; rw [ha]
    obtain ⟨te, pe, hc⟩ := hE.ran
    refine (Tryd.strconv_Atoi_range x (by omega) ha _ w hc (.inr ⟨te, pe, rfl⟩)).mono ?_
    rintro e w' ⟨N, rfl, _, _, hb⟩
    exact ⟨⟨_, by rw [hr]⟩, hb⟩
  | «syntax» =>
    have hr : numW x.data.toList = 0 := by unfold numW; rw [ha]
    obtain ⟨te, pe, hc⟩ := hE.syn
    refine (Tryd.strconv_Atoi_syntax x (by omega) ha _ w hc (.inr ⟨te, pe, rfl⟩)).mono ?_
    rintro e w' ⟨N, rfl, _, _, hb⟩
    exact ⟨⟨_, by rw [hr]⟩, hb⟩
set_option maxRecDepth 100000 in
set_option maxHeartbeats 4000000 in
/-- The next word as a number. -/
theorem wnumber_calls {w0 W : World} {B : Nat} {p : List ByteArray} (h : Wds w0 W B p) (hE : Env w0) (hs : (headB p).size ≤ 1000000000) :
    Calls Tryd.prog 92 #[.pointer (some ⟨B, 0, none⟩)] W fun e W' => e = .returned (.int .i64 (numW (headB p).data.toList)) ∧ Wds w0 W' B p.tail ∧ W.grownBy W' (some B) := by
  have hn := next_calls h
  generalize headB p = x at hs hn ⊢
  have HE := Aside0.mk hE
  clear hE h
  go_enter Tryd.func92, Tryd.ntmps92
  go_wp2_with (first
    | (go_at_call 89; refine hn.mono ?_; rintro e w1 ⟨rfl, hw, hg⟩; have HW := Aside0.mk hw; have HG := Aside0.mk hg; clear hw hg)
    | (go_at_call 47; refine (atoi_calls x hs _ (HE.out.below HW.out.hb)).mono ?_; rintro e w2 ⟨⟨u, rfl⟩, hb⟩; have HB := Aside0.mk hb; clear hb))
  exact bodyPost_ret (v := .int .i64 (numW x.data.toList)) (by simp [results, Tryd.results92, go_sem]) rfl ⟨rfl, HW.out.below HB.out, World.grownBy.trans HG.out (grown_of_below HB.out _)⟩
end Go.Proofs.YtdgdpkemboeaeaaDoor.H
namespace Go.Proofs.YtdgdpkemboeaeaaDoor.H
open Go.RowKit Go.Shelf Go.Proofs.YtdgdpkemboeaeaaDoor.PT Go.Proofs.YtdgdpkemboeaeaaDoorW.PrintWords Go.Proofs.YtdgdpkemboeaeaaDoorW.PrintLast Go.Proofs.YtdgdpkemboeaeaaDoorW.PrintMore
set_option linter.unusedVariables false
set_option linter.unusedSimpArgs false
theorem act1_calls (g x : ByteArray) (b1 b2 b3 b4 : Bool) (B : Nat) (w : World) (hB : ∀ o, (w.alloc o).cell? ⟨B, 0, none⟩ = some (.string x)) :
    Calls Tryd.prog 91 #[.agg #[.string g, .bool b1, .bool b2, .bool b3, .bool b4], .pointer (some ⟨B, 0, none⟩)] w fun e w' => e = .returned (.bool (g.toList == x.toList)) ∧ Below w.heap.size w w' := by
  go_enter Tryd.func91, Tryd.ntmps91
  go_wp2
  go_ret
  exact ⟨rfl, (Below.refl _ w).alloc (Nat.le_refl _) _⟩
theorem wordIx_none {x : List UInt8} (h : ∀ k : Int, 1 ≤ k → k ≤ 10 → x ≠ shW k) : wordIx x = 0 := by
  unfold wordIx
  rw [if_neg (h 1 (by omega) (by omega)), if_neg (h 2 (by omega) (by omega)), if_neg (h 3 (by omega) (by omega)), if_neg (h 4 (by omega) (by omega)), if_neg (h 5 (by omega) (by omega)), if_neg (h 6 (by omega) (by omega)), if_neg (h 7 (by omega) (by omega)), if_neg (h 8 (by omega) (by omega)), if_neg (h 9 (by omega) (by omega)), if_neg (h 10 (by omega) (by omega))]
set_option maxRecDepth 100000 in
set_option maxHeartbeats 4000000 in
theorem indexShape_calls (x : ByteArray) (B : Nat) (w : World) (hE : Env w) (hB : w.cell? ⟨B, 0, none⟩ = some (.string x)) :
    Calls Tryd.prog 90 #[.slice (some ⟨0, 5, none⟩) 10 10, .func (.func 91) #[] #[.pointer (some ⟨B, 0, none⟩)]] w fun e w' => e = .returned (.int .i64 ((wordIx x.data.toList : Int) - 1)) ∧ Below w.heap.size w w' := by
  have HE := Aside0.mk hE
  have HB := Aside0.mk hB
  clear hE hB
  go_enter Tryd.func90, Tryd.ntmps90
  go_wp2
  go_loopw [5, 8] (fun _ i wr => ∃ k : Nat, k ≤ 10 ∧ i = .int .i64 k ∧ (∀ z : Int, 1 ≤ z → z ≤ k → x.data.toList ≠ shW z) ∧ Below w.heap.size w wr) (fun _ i _ => 10 - (intOf i).toNat)
  case atStart => exact ⟨0, Nat.zero_le _, rfl, fun z h1 h2 => absurd h1 (by omega), Below.refl _ _⟩
  case round =>
    obtain ⟨k, hk, rfl, hpre, hb⟩ := hrel
    have HPRE := Aside0.mk hpre
    have HBe := Aside0.mk hb
    clear hpre hb
    by_cases hlt : k < 10
    · obtain ⟨c0, c1, c2, c3, c4⟩ := sh_cells (k := ((k : Int) + 1)) (HE.out.below HBe.out) (by omega) (by omega)
      rw [show ((k : Int) + 1).toNat = k + 1 by omega, show (k + 1) * 5 = 5 + k * 5 by omega] at c0 c1 c2 c3 c4
      have hword : (shB ((k : Int) + 1)).data.toList = shW ((k : Int) + 1) := rfl
      have HW := Aside0.mk hword
      clear hword
      generalize shB ((k : Int) + 1) = gw at c0 HW
      generalize shI ((k : Int) + 1) = gi at c1
      generalize shN ((k : Int) + 1) = gn at c2
      generalize shT ((k : Int) + 1) = gt at c3
      generalize shK ((k : Int) + 1) = gk at c4
      have hx : ∀ o, (wr.alloc o).cell? ⟨B, 0, none⟩ = some (.string x) := fun o => pw_cell_below ((Below.refl _ wr).alloc (Nat.le_refl _) o) (pw_cell_below HBe.out HB.out)
      have hcall := act1_calls gw x gi gn gt gk B wr hx
      clear hx
      obtain ⟨bb, hbb⟩ : ∃ bb, (gw.toList == x.toList) = bb := ⟨_, rfl⟩
      rw [hbb] at hcall
      have HBB := Aside0.mk hbb
      clear hbb
      cases bb with
      | true =>
        go_wp2_with (go_at_call 91; refine hcall.mono ?_; rintro e w2 ⟨rfl, hb⟩; have HB2 := Aside0.mk hb; clear hb)
        refine bodyPost_ret (v := .int .i64 (k : Int)) (by simp [results, Tryd.results90, go_sem]) rfl ⟨?_, HBe.out.trans (HB2.out.mono HBe.out.size)⟩
        have e := beq_iff_eq.1 HBB.out
        rw [Lib.toList_data, Lib.toList_data, HW.out] at e
        have e2 := word_ix (k := (k : Int) + 1) (by omega) (by omega)
        rw [e] at e2
        rw [e2, Int.add_sub_cancel]
      | false =>
        go_wp2_with (go_at_call 91; refine hcall.mono ?_; rintro e w2 ⟨rfl, hb⟩; have HB2 := Aside0.mk hb; clear hb)
        go_roundw
        case rel =>
          refine ⟨k + 1, by omega, by simp, fun z h1 h2 => ?_, HBe.out.trans (HB2.out.mono HBe.out.size)⟩
          by_cases hz : z ≤ k
          · exact HPRE.out z h1 hz
          · obtain rfl : z = (k : Int) + 1 := by omega
            intro e
            have := beq_eq_false_iff_ne.1 HBB.out
            rw [Lib.toList_data, Lib.toList_data, HW.out] at this
            exact this e.symm
        case measure => simp [intOf]; omega
    · obtain rfl : k = 10 := by omega
      go_wp2
      refine bodyPost_ret (v := .int .i64 (-1)) (by simp [results, Tryd.results90, go_sem]) rfl ⟨?_, HBe.out⟩
      rw [wordIx_none (fun z h1 h2 => HPRE.out z h1 h2)]
      rfl
end Go.Proofs.YtdgdpkemboeaeaaDoor.H

