/- The law TapeLines: its walk. -/
import Derived.Test.YtdgdpkemboeaeaaDoorTpLc
namespace Go.Proofs.YtdgdpkemboeaeaaDoor.H
open Go.RowKit Go.Shelf Go.Proofs.YtdgdpkemboeaeaaDoor.PT Go.Proofs.YtdgdpkemboeaeaaDoor.PR Go.Proofs.YtdgdpkemboeaeaaDoorW.PrintWords Go.Proofs.YtdgdpkemboeaeaaDoorW.PrintLast Go.Proofs.YtdgdpkemboeaeaaDoorW.PrintMore
set_option linter.unusedVariables false
set_option linter.unusedSimpArgs false
attribute [local go_sem] max2_int max_two
set_option maxRecDepth 100000 in
set_option maxHeartbeats 16000000 in
theorem lineslaw_calls (s : ByteArray) (m : Int) (hm : 0 ≤ m ∧ m ≤ 255) (w : World) (hE : Env w) : Calls Tryd.prog 8 #[.string s, .int .u8 m] w fun e w' => e = .returned (.bool true) ∧ Below w.heap.size w w' := by
  have hw := fun W (hW : Env W) => awake_calls W hW
  have HE := Aside0.mk hE
  clear hE
  by_cases hs : s.size ≤ 3000
  · have i1 : ¬ (3000 : Int) < (s.size : Int) := by omega
    have HM := Aside0.mk hm
    clear hm
    go_enter Tryd.func8, Tryd.ntmps8
    go_upto_region 3 with (go_at_call 25; refine (hw _ HE.out).mono ?_; rintro e w1 ⟨rfl, hb⟩; have HB1 := Aside0.mk hb; clear hb)
    go_upto_region 5 with (fail)
    obtain ⟨M, hMe⟩ : ∃ M : Nat, wrap64 (m.tmod 9) = (M : Int) := by
      have := HM.out
      refine ⟨(m % 9).toNat, ?_⟩
      rw [Int.tmod_eq_emod_of_nonneg (by omega), wrap_in (by omega) (by omega)]
      omega
    rw [hMe]
    generalize hW4 : ((((w1.alloc (.cells #[.int .i64 0] 3)).alloc (.cells #[.int .i64 (M : Int)] 3)).alloc (.cells #[.bool true] 4)).alloc (.cells #[.bool false] 4)).alloc (.cells #[.string s] 9) = W4
    have hb4 : Below w1.heap.size w1 W4 := by rw [← hW4]; exact (((((Below.refl _ _).alloc (Nat.le_refl _) _).alloc (by simp only [World.size_alloc]; omega) _).alloc (by simp only [World.size_alloc]; omega) _).alloc (by simp only [World.size_alloc]; omega) _).alloc (by simp only [World.size_alloc]; omega) _
    have n0 : W4.heap[w1.heap.size]? = some (.cells #[.int .i64 ((0 : Nat) : Int)] 3 (0, 0)) := by rw [← hW4]; exact blk_alloc (blk_alloc (blk_alloc (blk_alloc (blk_new _ _) _) _) _) _
    have n1 : W4.heap[w1.heap.size + 1]? = some (.cells #[.int .i64 (M : Int)] 3 (0, 0)) := by
      rw [← hW4]
      refine blk_alloc (blk_alloc (blk_alloc ?_ _) _) _
      have := blk_new (w1.alloc (.cells #[.int .i64 0] 3)) (.cells #[.int .i64 (M : Int)] 3)
      rwa [World.size_alloc] at this
    have n2 : W4.heap[w1.heap.size + 2]? = some (.cells #[.bool true] 4 (0, 0)) := by
      rw [← hW4]
      refine blk_alloc (blk_alloc ?_ _) _
      have := blk_new ((w1.alloc (.cells #[.int .i64 0] 3)).alloc (.cells #[.int .i64 (M : Int)] 3)) (.cells #[.bool true] 4)
      rwa [World.size_alloc, World.size_alloc] at this
    have n3 : W4.heap[w1.heap.size + 3]? = some (.cells #[.bool false] 4 (0, 0)) := by
      rw [← hW4]
      refine blk_alloc ?_ _
      have := blk_new (((w1.alloc (.cells #[.int .i64 0] 3)).alloc (.cells #[.int .i64 (M : Int)] 3)).alloc (.cells #[.bool true] 4)) (.cells #[.bool false] 4)
      rwa [World.size_alloc, World.size_alloc, World.size_alloc] at this
    have n4 : W4.heap[w1.heap.size + 4]? = some (.cells #[.string (ba s.data.toList)] 9 (0, 0)) := by
      rw [← hW4, ba_of]
      have := blk_new ((((w1.alloc (.cells #[.int .i64 0] 3)).alloc (.cells #[.int .i64 (M : Int)] 3)).alloc (.cells #[.bool true] 4)).alloc (.cells #[.bool false] 4)) (.cells #[.string s] 9)
      rwa [World.size_alloc, World.size_alloc, World.size_alloc, World.size_alloc] at this
    have HL4 : LSt w w1.heap.size M s.data.toList 0 false W4 := ⟨HB1.out.trans (hb4.mono HB1.out.size), HB1.out.size, n0, n1, n2, n3, n4⟩
    have hb5 : Below W4.heap.size W4 (W4.alloc (.cells #[.string s] 9)) := (Below.refl _ _).alloc (Nat.le_refl _) _
    have hcall := lines1_law (Bs := W4.heap.size) (by rw [len_of]; exact hs) HE.out (HL4.below hb5) (by rw [ba_of]; exact blk_cell (blk_new W4 _) 0)
    have HCC := Aside0.mk hcall
    clear hcall hb5 hb4 hW4 n0 n1 n2 n3 n4 HL4 hMe
    go_upto_region 6 with (first
      | (go_at_call 26; refine (lines_calls s W4).mono ?_; rintro e w5 ⟨rfl, rfl⟩)
      | (go_at_call 54; refine (show Calls _ _ _ _ _ from HCC.out).mono ?_; rintro e w6 ⟨⟨v, rfl⟩, x, n, en, hl, hor⟩; have HL6 := Aside0.mk hl; have HOR := Aside0.mk hor; clear hl hor))
    have c0 := blk_cell HL6.out.n 0
    have c1 : w6.cell? ⟨w1.heap.size + 1, 0, none⟩ = some (.int .i64 (M : Int)) := blk_cell HL6.out.m 0
    have c2 : w6.cell? ⟨w1.heap.size + 1 + 1, 0, none⟩ = some (.bool true) := blk_cell HL6.out.ok 0
    have c3 : w6.cell? ⟨w1.heap.size + 1 + 1 + 1, 0, none⟩ = some (.bool en) := blk_cell HL6.out.en 0
    have c4 : w6.cell? ⟨w1.heap.size + 1 + 1 + 1 + 1, 0, none⟩ = some (.string (ba x)) := blk_cell HL6.out.rest 0
    have HBF := Aside0.mk HL6.out.b
    obtain ⟨bz, hbz⟩ : ∃ bz, (ba x).toList.isEmpty = bz := ⟨_, rfl⟩
    cases en with
    | true =>
      go_wp2
      refine bodyPost_ret (v := .bool true) (by simp [results, Tryd.results8, go_sem]) rfl ⟨rfl, HBF.out⟩
    | false =>
      cases bz with
      | true =>
        go_wp2
        refine bodyPost_ret (v := .bool true) (by simp [results, Tryd.results8, go_sem]) rfl ⟨rfl, HBF.out⟩
      | false =>
        have hmx : (n : Int) = if (M : Int) < 1 then 1 else (M : Int) := by
          rcases HOR.out with h | h | h
          · cases h
          · rw [ba_tl, h] at hbz
            cases hbz
          · rw [h]
            split <;> omega
        have hnb : ((n : Int) == if (M : Int) < 1 then 1 else (M : Int)) = true := by rw [beq_iff_eq]; exact hmx
        clear hmx
        go_wp2
        all_goals refine bodyPost_ret (v := .bool true) (by simp [results, Tryd.results8, go_sem]) rfl ⟨rfl, HBF.out⟩
  · have i1 : (3000 : Int) < (s.size : Int) := by omega
    clear hs
    go_enter Tryd.func8, Tryd.ntmps8
    go_upto_region 2 with (go_at_call 25; refine (hw _ HE.out).mono ?_; rintro e w1 ⟨rfl, hb⟩; have HB1 := Aside0.mk hb; clear hb)
    go_wp2_with (go_at_call 25; refine (hw _ (HE.out.below HB1.out)).mono ?_; rintro e w2 ⟨rfl, hb⟩; have HB2 := Aside0.mk (HB1.out.trans (hb.mono HB1.out.size)); clear hb)
    refine bodyPost_ret (v := .bool true) (by simp [results, Tryd.results8, go_sem]) rfl ⟨rfl, HB2.out⟩
end Go.Proofs.YtdgdpkemboeaeaaDoor.H
