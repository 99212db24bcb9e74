/- bale.Lines, and that the law is awake. -/
import Derived.Test.YtpdppfihpnfblaaGreatBlM
namespace Go.Proofs.YtpdppfihpnfblaaGreat.H
open Go.RowKit Go.Shelf Go.Proofs.YtpdppfihpnfblaaGreat.PA Go.Proofs.YtpdppfihpnfblaaGreatW.PrintWords Go.Proofs.YtpdppfihpnfblaaGreatW.PrintLast Go.Proofs.YtpdppfihpnfblaaGreatW.PrintMore
set_option linter.unusedVariables false
set_option linter.unusedSimpArgs false
set_option maxRecDepth 100000 in
set_option maxHeartbeats 8000000 in
theorem Lines_calls (x : Bat) (hG : gBat x) (w : World) : Calls Tryz.prog 12 #[.agg #[.int .i64 x.number, .int .i64 x.now, .string x.text]] w (BytesOut (bBat x) w) := by
  have G := Aside0.mk hG
  clear hG
  go_enter Tryz.func12, Tryz.ntmps12
  go_upto_region 1 with fail
  have HB := Aside0.mk ((Below.refl w.heap.size w).alloc (Nat.le_refl _) (.cells #[.int .i64 x.number, .int .i64 x.now, .string x.text] 48))
  have BK_v := Aside0.mk (blk_new w (.cells #[.int .i64 x.number, .int .i64 x.now, .string x.text] 48))
  generalize w.alloc (.cells #[.int .i64 x.number, .int .i64 x.now, .string x.text] 48) = W at HB BK_v ⊢
  have y0 := (blk_cell BK_v.out 0).trans rfl
  have y1 := (blk_cell BK_v.out 1).trans rfl
  have y2 := (blk_cell BK_v.out 2).trans rfl
  have hc := bytesBat_calls x _ W (kBat_mk W x) G.out
  have hub := Tryz.underlying48
  have huf := Tryz.underlying80
  go_wp2_with (go_at_call 29; refine (show Calls _ _ _ _ _ from hc).mono ?_; rintro e W1 ⟨⟨A', n', c', rfl, h1, h2, h3⟩, hb⟩; have H1 := Aside0.mk (And.intro h1 (And.intro h2 h3)); have HB1 := Aside0.mk (HB.out.trans (hb.mono HB.out.size)); clear h1 h2 h3 hb hc)
  exact bodyPost_ret (v := .slice A' n' c') (by simp [results, Tryz.results12, go_sem]) rfl ⟨⟨A', n', c', rfl, H1.out⟩, HB1.out⟩
theorem bBat_one : bBat ⟨1, 2, ⟨#[97, 98]⟩⟩ = [1, 2, 2, 97, 98] := by
  have e0 : hiB 0 = [] := hiB_zero
  have e1 : upB 1 = [1] := by unfold upB numB; rw [if_pos (by omega)]; simp [e0]
  have e2 : upB 2 = [2] := by unfold upB numB; rw [if_pos (by omega)]; simp [e0]
  have e3 : numB 2 = [2] := by unfold numB; simp [e0]
  have e4 : textB ⟨#[97, 98]⟩ = [2, 97, 98] := by
    unfold textB
    rw [show (⟨#[97, 98]⟩ : ByteArray).size = 2 from rfl, e3]
    rfl
  unfold bBat
  rw [e1, e2, e4]
  rfl
set_option maxRecDepth 100000 in
set_option maxHeartbeats 8000000 in
theorem awake_calls (w : World) : Calls Tryz.prog 4 #[] w fun e w' => e = .returned (.bool true) ∧ Below w.heap.size w w' := by
  have hc := Lines_calls ⟨1, 2, ⟨#[97, 98]⟩⟩ (by refine ⟨?_, ?_, ?_⟩ <;> simp [gUp, gTxt, ByteArray.size]) w
  rw [bBat_one] at hc
  have he : strOfNums [1, 2, 2, 97, 98] = ⟨#[1, 2, 2, 97, 98]⟩ := rfl
  go_enter Tryz.func4, Tryz.ntmps4
  go_wp2_with (go_at_call 12; refine (show Calls _ _ _ _ _ from hc).mono ?_; rintro e W1 ⟨⟨A', n', c', rfl, h1, h2, h3⟩, hb⟩; have hcv := C_str (n := n') (c := c') h1 (by rw [h1]; exact h3) W1 (Below.refl _ _); rw [he] at hcv; have HB1 := Aside0.mk hb; clear h1 h2 h3 hb hc)
  exact bodyPost_ret (v := .bool true) (by simp [results, Tryz.results4, go_sem]) rfl ⟨rfl, HB1.out⟩
end Go.Proofs.YtpdppfihpnfblaaGreat.H
