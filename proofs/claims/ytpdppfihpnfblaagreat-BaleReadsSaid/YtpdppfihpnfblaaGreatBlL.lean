/- The laws' copies of what was seen and of what was marked. Laid by wip/refs3_bl.py. -/
import Derived.Test.YtpdppfihpnfblaaGreatBlI
namespace Go.Proofs.YtpdppfihpnfblaaGreat.H
open Go.RowKit Go.Shelf Go.Proofs.YtpdppfihpnfblaaGreat.PA Go.Proofs.YtpdppfihpnfblaaGreatW.PrintWords Go.Proofs.YtpdppfihpnfblaaGreatW.PrintLast Go.Proofs.YtpdppfihpnfblaaGreatW.PrintMore
set_option linter.unusedVariables false
set_option linter.unusedSimpArgs false
/-- A row of one's own is told. -/
structure RowAns {α : Type} (d : Kd α) (e b0 : Nat) (xs : List α) (w : World) (e' : Ending) (w' : World) : Prop where
  out : ∃ v', e' = .returned v' ∧ Kd.R d e w' b0 (fun _ => True) v' xs
  hb : Below w.heap.size w w'
/-- The reference's state of marks. -/
structure MarkAns (b0 : Nat) (a b : Int) (xs : List Src) (w : World) (e' : Ending) (w' : World) : Prop where
  out : ∃ v', e' = .returned (.agg #[.int .i64 a, .int .i64 b, v']) ∧ Kd.R kSrc 85 w' b0 (fun _ => True) v' xs
  hb : Below w.heap.size w w'
theorem R_setRow {α : Type} {d : Kd α} {e base b T : Nat} {W : World} {ok : Nat → Prop} {v : Value} {xs : List α} {old new : Array Value} (h : Kd.R d e W base ok v xs) (hb : W.heap[b]? = some (.cells old T (0, 0))) (ht : ∀ q, q ∈ e :: d.E → q ≠ T) : Kd.R d e (W.setRow b new) base ok v xs :=
  Kd.R_mono (Kd.R_grown (Kd.R_types h hb ht) (setRow_grown W b new) (fun k hk e => hk.2 (by injection e))) (fun _ hk => hk.1)
theorem own_new {v1 v3 : Value} {B s : Nat} (h : ∀ k, v3.ownBlock = some k → B ≤ k) (hat : v1.ownBlock = v3.ownBlock ∨ ∃ b, v1.ownBlock = some b ∧ s ≤ b) (hs : B ≤ s) : ∀ k, v1.ownBlock = some k → B ≤ k := by
  intro k hk
  rcases hat with e | ⟨b, e, hb⟩
  · exact h k (e.symm.trans hk)
  · rw [e] at hk; injection hk with hk; omega
set_option maxRecDepth 100000 in
set_option maxHeartbeats 8000000 in
theorem lawSen_calls (b0 : Nat) (xs : List Sen) (v : Value) (w : World) (hR : Kd.R kSen 122 w b0 (fun _ => True) v xs) (hb0 : b0 ≤ w.heap.size) (hl : xs.length ≤ 1000) : Calls Tryz.prog 28 #[.agg #[v]] w (RowAns kSen 88 b0 xs w) := by
  obtain ⟨A, c, rfl⟩ := Kd.R_slice hR
  obtain ⟨_, hlc, hC⟩ := Kd.R_reads' hR
  have HR := Aside0.mk hR
  have HC := Aside0.mk hC
  have HL := Aside0.mk hl
  have HB0 := Aside0.mk hb0
  have hmx := hC.2.1
  clear hR hC hb0
  go_enter Tryz.func28, Tryz.ntmps28
  go_upto_region 1 with fail
  have HB := Aside0.mk ((Below.refl w.heap.size w).alloc (Nat.le_refl _) (.cells #[.slice A xs.length c] 39))
  have BK_v := Aside0.mk (blk_new w (.cells #[.slice A xs.length c] 39))
  generalize w.alloc (.cells #[.slice A xs.length c] 39) = W at HB BK_v ⊢
  have y0 := (blk_cell BK_v.out 0).trans rfl
  go_wp2_with fail
  clear y0
  go_loopw [3, 5, 9] (fun v3 _ v9 wr => ∃ j : Nat, j ≤ xs.length ∧ v9 = .int .i64 j ∧ Kd.R kSen 88 wr b0 (fun _ => True) v3 (xs.take j) ∧ (∀ k, v3.ownBlock = some k → w.heap.size ≤ k) ∧ Below w.heap.size w wr) (fun _ _ v9 _ => xs.length - (intOf v9).toNat)
  case atStart => exact ⟨0, Nat.zero_le _, rfl, Kd.R_nil _ _ _ _ _, by intro k hk; simp [Value.ownBlock] at hk, HB.out⟩
  case round =>
    obtain ⟨j, hj, rfl, hr3, ho3, hb3⟩ := hrel
    clear HB BK_v
    have HR3 := Aside0.mk hr3
    have HO3 := Aside0.mk ho3
    have HB := Aside0.mk hb3
    clear hr3 ho3 hb3
    by_cases hlt : j < xs.length
    · skip
      obtain ⟨ad, _, rfl, _, _, _⟩ := Kd.C_get HC.out zSen (j : Int) (by omega) (by omega)
      obtain ⟨cs, hcl, hM, hcell⟩ := Kd.R_get HR.out zSen (j : Int) (by omega) (by omega)
      rw [Int.toNat_natCast, show xs.getD j zSen = xs[j] by rw [List.getD_eq_getElem?_getD, List.getElem?_eq_getElem hlt]; rfl] at hM
      rw [Int.toNat_natCast] at hcell
      have HTK := Aside0.mk (show xs.take (j + 1) = xs.take j ++ [xs[j]] from List.take_succ_eq_append_getElem hlt)
      generalize xs[j] = x at hM HTK
      obtain ⟨vs, hcs, gs⟩ := kSen_openM hM
      subst hcs
      obtain ⟨As, ns, cs, rfl⟩ := R_sl gs
      have HM := Aside0.mk (kSen.M_mono (fun _ _ => trivial) hM)
      clear hM gs
      have y0 : wr.cell? (ad.add (j * 3)) = some (.string x.name) := (HB.out.cell (World.block_lt_of_cell? _ _ (hcell 0 _ rfl))).trans (hcell 0 _ rfl)
      have y1 : wr.cell? ⟨(ad.add (j * 3)).block, (ad.add (j * 3)).off + 1, none⟩ = some (.int .i64 x.floor) := by rw [← add_field _ _ 1 (by omega)]; exact (HB.out.cell (World.block_lt_of_cell? _ _ (hcell 1 _ rfl))).trans (hcell 1 _ rfl)
      have y2 : wr.cell? ⟨(ad.add (j * 3)).block, (ad.add (j * 3)).off + 2, none⟩ = some (.slice As ns cs) := by rw [← add_field _ _ 2 (by omega)]; exact (HB.out.cell (World.block_lt_of_cell? _ _ (hcell 2 _ rfl))).trans (hcell 2 _ rfl)
      clear hcell hcl
      go_upto_region 5 with fail
      clear y0 y1 y2
      have hm := (Below.refl wr.heap.size wr).alloc (Nat.le_refl _) (.cells #[.string x.name, .int .i64 x.floor, .slice As ns cs] 122)
      have HMV := Aside0.mk (Kd.M_below (Kd.M_below HM.out HB.out) hm)
      have HRV := Aside0.mk (Kd.R_below HR3.out hm)
      have HBV := Aside0.mk (HB.out.trans (hm.mono HB.out.size))
      have BK_e := blk_new wr (.cells #[.string x.name, .int .i64 x.floor, .slice As ns cs] 122)
      clear HR3 HB hm
      generalize wr.alloc (.cells #[.string x.name, .int .i64 x.floor, .slice As ns cs] 122) = V at HMV HRV HBV BK_e ⊢
      have y0 := (blk_cell BK_e 0).trans rfl
      have y1 := (blk_cell BK_e 1).trans rfl
      have y2 := (blk_cell BK_e 2).trans rfl
      clear BK_e
      obtain ⟨inner, hown⟩ := Kd.R_own HRV.out
      have HMA := Aside0.mk (M_apart HMV.out hown (by decide))
      clear hown
      have HLT := Aside0.mk (show ((xs.take j).length + 1) * 1000 ≤ 140737488355328 by rw [List.length_take]; have := HL.out; omega)
      have HSZ := Aside0.mk (show b0 ≤ V.heap.size from Nat.le_trans HB0.out HBV.out.size)
      go_wp2_with (at_builtin; refine Kd.R_append kSen (w0 := V) b0 rfl (.tmp 13) (.tmp 15) 58 88 (.agg #[.string ⟨#[]⟩, .int .i64 0, .slice none 0 0]) 48 rfl Tryz.underlying58 infoSen2 rfl (by decide) (by omega) _ (xs.take j) x [.string x.name, .int .i64 x.floor, .slice As ns cs] (fun _ => True) (fun q => True ∧ _) rfl rfl HMA.out (fun _ hk => hk) (fun _ _ => trivial) HRV.out (Below.refl _ _) HSZ.out (Nat.le_trans (Nat.mul_le_mul_left _ (by decide)) HLT.out) ?_; intro v1 w4 hr hb hg hat; have HR4 := Aside0.mk hr; have HO4 := Aside0.mk (own_new HO3.out hat HBV.out.size); have HB4 := Aside0.mk (HBV.out.grown hg HBV.out.size (fun k hk => HO3.out k hk)); clear hr hb hg hat)
      go_roundw
      case rel => exact ⟨j + 1, by omega, by simp, by rw [HTK.out]; exact HR4.out, HO4.out, HB4.out⟩
      case measure => simp [intOf]; omega
    · obtain rfl : j = xs.length := by omega
      have HF := Aside0.mk (show Kd.R kSen 88 wr b0 (fun _ => True) _ xs by have := HR3.out; rwa [List.take_length] at this)
      clear HR3
      obtain ⟨A3, n3, c3, rfl⟩ := R_sl HF.out
      go_wp2
      exact bodyPost_ret (v := .slice A3 n3 c3) (by simp [results, Tryz.results28, go_sem]) rfl ⟨⟨_, rfl, HF.out⟩, HB.out⟩
set_option maxRecDepth 100000 in
set_option maxHeartbeats 8000000 in
theorem lawSrc_calls (b0 : Nat) (a b : Int) (xs : List Src) (v : Value) (w : World) (hR : Kd.R kSrc 119 w b0 (fun _ => True) v xs) (hb0 : b0 ≤ w.heap.size) (hl : xs.length ≤ 1000) : Calls Tryz.prog 27 #[.agg #[.int .i64 a, .int .i64 b, v]] w (MarkAns b0 a b xs w) := by
  obtain ⟨A, c, rfl⟩ := Kd.R_slice hR
  obtain ⟨_, hlc, hC⟩ := Kd.R_reads' hR
  have HR := Aside0.mk hR
  have HC := Aside0.mk hC
  have HL := Aside0.mk hl
  have HB0 := Aside0.mk hb0
  have hmx := hC.2.1
  clear hR hC hb0
  have hu := Tryz.underlying57
  go_enter Tryz.func27, Tryz.ntmps27
  go_upto_region 1 with fail
  have h1 := (Below.refl w.heap.size w).alloc (Nat.le_refl _) (.cells #[.int .i64 a, .int .i64 b, .slice A xs.length c] 36)
  have BK_v := Aside0.mk (blk_alloc (blk_new w (.cells #[.int .i64 a, .int .i64 b, .slice A xs.length c] 36)) (.cells #[.int .i64 0, .int .i64 0, .slice none 0 0] 57))
  have HB := Aside0.mk (h1.alloc (by rw [World.size_alloc]; omega) (.cells #[.int .i64 0, .int .i64 0, .slice none 0 0] 57))
  have BK_r := Aside0.mk (blk_new (w.alloc (.cells #[.int .i64 a, .int .i64 b, .slice A xs.length c] 36)) (.cells #[.int .i64 0, .int .i64 0, .slice none 0 0] 57))
  have hsz : (w.alloc (.cells #[.int .i64 a, .int .i64 b, .slice A xs.length c] 36)).heap.size = w.heap.size + 1 := World.size_alloc _ _
  rw [hsz] at BK_r
  clear h1 hsz
  generalize (w.alloc (.cells #[.int .i64 a, .int .i64 b, .slice A xs.length c] 36)).alloc (.cells #[.int .i64 0, .int .i64 0, .slice none 0 0] 57) = W at HB BK_v BK_r ⊢
  have y0 := (blk_cell BK_v.out 0).trans rfl
  have y1 := (blk_cell BK_v.out 1).trans rfl
  go_upto_region 2 with fail
  clear y0 y1
  have hm := (Below.refl W.heap.size W).alloc (Nat.le_refl _) (.cells #[.int .i64 a, .int .i64 b, .slice none 0 0] 57)
  have hms : w.heap.size + 1 + 1 ≤ W.heap.size := by have := blk_lt BK_r.out; omega
  have n_v := Aside0.mk (blk_below BK_v.out hm)
  have n_r := Aside0.mk (blk_below BK_r.out hm)
  have n_HB := Aside0.mk (HB.out.trans (hm.mono HB.out.size))
  have BK_m := Aside0.mk (blk_new W (.cells #[.int .i64 a, .int .i64 b, .slice none 0 0] 57))
  clear HB BK_v BK_r hm
  have HB := n_HB
  have BK_v := n_v
  have BK_r := n_r
  clear n_HB n_v n_r
  have HM := Aside0.mk hms
  clear hms
  generalize W.alloc (.cells #[.int .i64 a, .int .i64 b, .slice none 0 0] 57) = V at HB BK_v BK_r BK_m ⊢
  generalize W.heap.size = M at BK_m HM ⊢
  have y0 := (blk_cell BK_v.out 2).trans rfl
  go_wp2_with fail
  clear y0
  go_loopw [5, 14] (fun _ v14 wr => ∃ (j : Nat) (vv : Value), j ≤ xs.length ∧ v14 = .int .i64 j ∧ wr.heap[M]? = some (.cells #[.int .i64 a, .int .i64 b, vv] 57 (0, 0)) ∧ wr.heap[w.heap.size + 1]? = some (.cells #[.int .i64 0, .int .i64 0, .slice none 0 0] 57 (0, 0)) ∧ Kd.R kSrc 85 wr b0 (fun _ => True) vv (xs.take j) ∧ (∀ k, vv.ownBlock = some k → w.heap.size ≤ k) ∧ Below w.heap.size w wr) (fun _ v14 _ => xs.length - (intOf v14).toNat)
  case atStart => exact ⟨0, _, Nat.zero_le _, rfl, BK_m.out, BK_r.out, Kd.R_nil _ _ _ _ _, by intro k hk; simp [Value.ownBlock] at hk, HB.out⟩
  case round =>
    obtain ⟨j, vv, hj, rfl, hkm, hkr, hr3, ho3, hb3⟩ := hrel
    clear HB BK_v BK_r BK_m
    have HR3 := Aside0.mk hr3
    have HO3 := Aside0.mk ho3
    have HB := Aside0.mk hb3
    have BK_m := Aside0.mk hkm
    have BK_r := Aside0.mk hkr
    clear hr3 ho3 hb3 hkm hkr
    obtain ⟨A3, n3, c3, rfl⟩ := R_sl HR3.out
    by_cases hlt : j < xs.length
    · skip
      obtain ⟨ad, _, rfl, _, _, _⟩ := Kd.C_get HC.out zSrc (j : Int) (by omega) (by omega)
      obtain ⟨cs, hcl, hM, hcell⟩ := Kd.R_get HR.out zSrc (j : Int) (by omega) (by omega)
      rw [Int.toNat_natCast, show xs.getD j zSrc = xs[j] by rw [List.getD_eq_getElem?_getD, List.getElem?_eq_getElem hlt]; rfl] at hM
      rw [Int.toNat_natCast] at hcell
      have HTK := Aside0.mk (show xs.take (j + 1) = xs.take j ++ [xs[j]] from List.take_succ_eq_append_getElem hlt)
      generalize xs[j] = x at hM HTK
      have hcs := kSrc_openM hM
      subst hcs
      have HM_x := Aside0.mk (kSrc.M_mono (fun _ _ => trivial) hM)
      clear hM
      have y0 : wr.cell? (ad.add (j * 3)) = some (.string x.name) := (HB.out.cell (World.block_lt_of_cell? _ _ (hcell 0 _ rfl))).trans (hcell 0 _ rfl)
      have y1 : wr.cell? ⟨(ad.add (j * 3)).block, (ad.add (j * 3)).off + 1, none⟩ = some (.int .i64 x.time) := by rw [← add_field _ _ 1 (by omega)]; exact (HB.out.cell (World.block_lt_of_cell? _ _ (hcell 1 _ rfl))).trans (hcell 1 _ rfl)
      have y2 : wr.cell? ⟨(ad.add (j * 3)).block, (ad.add (j * 3)).off + 2, none⟩ = some (.int .i64 x.at_) := by rw [← add_field _ _ 2 (by omega)]; exact (HB.out.cell (World.block_lt_of_cell? _ _ (hcell 2 _ rfl))).trans (hcell 2 _ rfl)
      clear hcell hcl
      go_upto_region 5 with fail
      clear y0 y1 y2
      have hm := (Below.refl wr.heap.size wr).alloc (Nat.le_refl _) (.cells #[.string x.name, .int .i64 x.time, .int .i64 x.at_] 119)
      have HMV := Aside0.mk (Kd.M_below (Kd.M_below HM_x.out HB.out) hm)
      have HRV := Aside0.mk (Kd.R_below HR3.out hm)
      have HBV := Aside0.mk (HB.out.trans (hm.mono HB.out.size))
      have BK_e := blk_new wr (.cells #[.string x.name, .int .i64 x.time, .int .i64 x.at_] 119)
      have BKM := Aside0.mk (blk_below BK_m.out hm)
      have BKR := Aside0.mk (blk_below BK_r.out hm)
      clear HR3 HB BK_m BK_r hm
      generalize wr.alloc (.cells #[.string x.name, .int .i64 x.time, .int .i64 x.at_] 119) = V at HMV HRV HBV BKM BKR BK_e ⊢
      have y0 := (blk_cell BK_e 0).trans rfl
      have y1 := (blk_cell BK_e 1).trans rfl
      have y2 := (blk_cell BK_e 2).trans rfl
      have z2 := (blk_cell BKM.out 2).trans rfl
      clear BK_e
      obtain ⟨inner, hown⟩ := Kd.R_own HRV.out
      have HMA := Aside0.mk (M_apart HMV.out hown (by decide))
      clear hown
      have HLT := Aside0.mk (show ((xs.take j).length + 1) * 1000 ≤ 140737488355328 by rw [List.length_take]; have := HL.out; omega)
      have HSZ := Aside0.mk (show b0 ≤ V.heap.size from Nat.le_trans HB0.out HBV.out.size)
      have HNM := Aside0.mk (Kd.R_ne HRV.out BKM.out (by decide))
      have HNR := Aside0.mk (Kd.R_ne HRV.out BKR.out (by decide))
      go_wp2_with (at_builtin; refine Kd.R_append kSrc (w0 := V) b0 rfl (.tmp 19) (.tmp 21) 55 85 (.agg #[.string ⟨#[]⟩, .int .i64 0, .int .i64 0]) 32 rfl Tryz.underlying55 infoSrc2 rfl (by decide) (by omega) _ (xs.take j) x [.string x.name, .int .i64 x.time, .int .i64 x.at_] (fun _ => True) (fun q => True ∧ _) rfl rfl HMA.out (fun _ hk => hk) (fun _ _ => trivial) HRV.out (Below.refl _ _) HSZ.out (Nat.le_trans (Nat.mul_le_mul_left _ (by decide)) HLT.out) ?_; intro v1 w4 hr hb hg hat; obtain ⟨vA, vn, vc, rfl⟩ := R_sl hr; have HR4 := Aside0.mk hr; have HO4 := Aside0.mk (own_new HO3.out hat HBV.out.size); have HB4 := Aside0.mk (HBV.out.grown hg HBV.out.size (fun k hk => HO3.out k hk)); have HK4 := Aside0.mk (blk_grown BKM.out hg HNM.out); have HKR4 := Aside0.mk (blk_grown BKR.out hg HNR.out); have d4 := blk_cell HK4.out 2; have f4 := blk_frozen HK4.out 2; clear z2 hr hb hg hat)
      go_roundw
      case rel => exact ⟨j + 1, _, by omega, by simp, blk_put HK4.out 2 _ rfl, blk_far (p := ⟨M, 2, none⟩) HKR4.out (by have := HM.out; simp only; omega) _, by rw [HTK.out]; exact Kd.R_set HR4.out HK4.out (by decide) 2 _, HO4.out, HB4.out.setCell (p := ⟨M, 2, none⟩) (by have := HM.out; simp only; omega) _⟩
      case measure => simp [intOf]; omega
    · obtain rfl : j = xs.length := by omega
      have HF := Aside0.mk (show Kd.R kSrc 85 wr b0 (fun _ => True) _ xs by have := HR3.out; rwa [List.take_length] at this)
      clear HR3
      have h2 := BK_r.out
      have h3 := BK_m.out
      have hi : (Tryz.prog.info? 57).map (·.size) = some 3 := by kernel_rfl
      have H1C := Aside0.mk (show (#[.int .i64 a, .int .i64 b, .slice A3 n3 c3] : Array Value).all (·.oneCell') = true by simp [Value.oneCell'])
      have HFR := Aside0.mk (R_setRow (b := w.heap.size + 1) (new := #[.int .i64 a, .int .i64 b, .slice A3 n3 c3]) HF.out BK_r.out (by decide))
      have HKR := Aside0.mk (setRow_heap wr (w.heap.size + 1) #[.int .i64 0, .int .i64 0, .slice none 0 0] #[.int .i64 a, .int .i64 b, .slice A3 n3 c3] 57 (0, 0) BK_r.out)
      have HBR := Aside0.mk (HB.out.grown (setRow_grown wr (w.heap.size + 1) #[.int .i64 a, .int .i64 b, .slice A3 n3 c3]) HB.out.size (fun k hk => by injection hk with hk; omega))
      go_wp2_with (first | (refine wpList_load_row rfl 57 (.tmp 3) rfl M rfl 57 #[.int .i64 a, .int .i64 b, .slice A3 n3 c3] (0, 0) _ h3 hu rfl hi ?_) | (refine wpList_store_row rfl 57 (.tmp 2) (.tmp 25) rfl (w.heap.size + 1) #[.int .i64 a, .int .i64 b, .slice A3 n3 c3] rfl rfl 57 #[.int .i64 0, .int .i64 0, .slice none 0 0] h2 hi rfl H1C.out ?_))
      exact bodyPost_ret (v := .agg #[.int .i64 a, .int .i64 b, .slice A3 n3 c3]) (results_cell_row rfl _ _ (w.heap.size + 1) 57 #[.int .i64 a, .int .i64 b, .slice A3 n3 c3] (0, 0) _ rfl HKR.out hu rfl hi) rfl ⟨⟨_, rfl, HFR.out⟩, HBR.out⟩
end Go.Proofs.YtpdppfihpnfblaaGreat.H
