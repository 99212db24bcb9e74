/- The law TapeLines: the iterator with the law's function value; the law. -/
import Derived.Test.YtdgdpkemboeaeaaDoorTpLn
namespace Go.Proofs.YtdgdpkemboeaeaaDoor.H
open Go.RowKit Go.Shelf Go.Proofs.YtdgdpkemboeaeaaDoor.PT Go.Proofs.YtdgdpkemboeaeaaDoor.PR Go.Proofs.YtdgdpkemboeaeaaDoorW.PrintWords Go.Proofs.YtdgdpkemboeaeaaDoorW.PrintLast Go.Proofs.YtdgdpkemboeaeaaDoorW.PrintMore
set_option linter.unusedVariables false
set_option linter.unusedSimpArgs false
set_option maxRecDepth 100000 in
set_option maxHeartbeats 16000000 in
theorem tl1_bad {w0 W : World} {B M k : Nat} {x : List UInt8} (hx : x.length ≤ 3000) (hbad : (cutL x 10).2.2 = false ∨ actA (cutL x 10).1 = none) (hk : k ≤ 1000000) (h : LSt w0 B M x k false W) :
    Calls Tryd.prog 27 (#[actV zeroP (.slice none 0 0), .int .i64 2] ++ capsL B) W fun e W' => e = .returned (.bool (decide ((k : Int) + 1 < (M : Int)))) ∧ LSt w0 B M x (k + 1) true W' := by
  obtain ⟨p1, p2, p3⟩ := cutL_parts x 10
  obtain ⟨⟨r1, r2, r3, r4, r5, r6⟩, hact, hok6, hno6⟩ := refAct1_f (cutL x 10).1 (by have := (cut_len x).1; omega) 2200000 (by decide)
  have h6 : r6 = true → (cutL x 10).2.2 = false := by
    intro h6
    rcases hbad with hb | hb
    · exact hb
    · have := hok6 h6
      rw [hb] at this
      cases this
  have hone := (cut_len x).1
  have hsz : (ba x).size = x.length := ba_size x
  have hxe : (cutL x 10).2.2 = true → (cutL x 10).1.length < x.length := by
    intro he
    have := congrArg List.length (p1 he)
    rw [List.length_append, List.length_cons] at this
    omega
  have hxf : (cutL x 10).2.2 = false → (cutL x 10).1.length = x.length := fun he => by rw [(p2 he).1]
  have hpre : ∃ t, x = (cutL x 10).1 ++ t := by
    cases he : (cutL x 10).2.2 with
    | true => exact ⟨_, p1 he⟩
    | false => exact ⟨[], by rw [(p2 he).1, List.append_nil]⟩
  have hch2 : (cutL x 10).2.2 = true → ∀ (hj : (cutL x 10).1.length < (ba x).size), (ba x)[(cutL x 10).1.length] = 10 := by
    intro he hj
    have hlx : (cutL x 10).1.length < x.length := by rw [← ba_size]; exact hj
    show x[(cutL x 10).1.length]'hlx = 10
    have key : ∀ (y : List UInt8) (hy : (cutL x 10).1.length < y.length), y = (cutL x 10).1 ++ 10 :: (cutL x 10).2.1 → y[(cutL x 10).1.length]'hy = 10 := by
      intro y hy e
      subst e
      simp
    exact key x hlx (p1 he)
  generalize (cutL x 10).1 = one at p3 hact hone hxe hxf hpre hch2
  generalize (cutL x 10).2.2 = en at h6 hxe hxf hch2
  clear p1 p2 hbad hok6 hno6
  obtain ⟨t, ht⟩ := hpre
  have hex1 : (ba x).extract 0 one.length = ba one := by rw [ex_left, ba_data, ht, List.take_left]
  have hat : ∀ (j : Nat) (hj : j < (ba x).size), j < one.length → (ba x)[j] ≠ 10 := by
    intro j hj hj2 he
    have h1 : x[j]'(by rw [← ba_size]; exact hj) = 10 := he
    have h2 : x[j]'(by rw [← ba_size]; exact hj) = one[j] := by
      have key : ∀ (y : List UInt8) (hy : j < y.length), y = one ++ t → y[j]'hy = one[j] := by
        intro y hy e
        subst e
        exact List.getElem_append_left hj2
      exact key x _ ht
    rw [h2] at h1
    exact p3 (h1 ▸ List.getElem_mem hj2)
  clear ht p3
  have HL := Aside0.mk h
  have hrest := h.rest
  clear h
  generalize hX : ba x = X at hsz hex1 hat hch2 hrest
  have HX := Aside0.mk hX
  clear hX
  generalize x.length = xl at hx hsz hone hxe hxf
  simp only [actV, zeroP]
  obtain ⟨W1, hW1⟩ : ∃ W1, W.alloc (.cells #[.int .i64 0, .int .i64 0, .int .i64 0, .string ⟨#[]⟩, .slice none 0 0] 45) = W1 := ⟨_, rfl⟩
  have hb1 : Below W.heap.size W W1 := by rw [← hW1]; exact (Below.refl _ W).alloc (Nat.le_refl _) _
  have r0 := blk_cell (blk_below hrest hb1) 0
  have HAT := Aside0.mk hat
  have HB1 := Aside0.mk hb1
  have HEX1 := Aside0.mk hex1
  have HA1 := Aside0.mk hact
  have HW1 := Aside0.mk hW1
  have HCH := Aside0.mk hch2
  clear hat hb1 hex1 hact hch2
  have hen : (en = true ∧ r6 = false ∧ one.length < X.size) ∨ (en = false ∧ one.length = X.size) := by
    cases en with
    | true =>
      refine .inl ⟨rfl, ?_, by have := hxe rfl; omega⟩
      cases r6 with
      | true => have := h6 rfl; cases this
      | false => rfl
    | false => exact .inr ⟨rfl, by have := hxf rfl; omega⟩
  clear h6 hxe hxf
  go_enter Tryd.func27, Tryd.ntmps27
  go_wp2
  try rw [hW1]
  clear hW1
  go_loopw [10] (fun v wr => ∃ j : Nat, j ≤ one.length ∧ v = .int .i64 j ∧ wr = W1) (fun v _ => one.length - (intOf v).toNat)
  case atStart => exact ⟨0, Nat.zero_le _, rfl, rfl⟩
  case round =>
    obtain ⟨j, hj, rfl, rfl⟩ := hrel
    by_cases hlt : j < one.length
    · have hlx : j < X.size := by omega
      have hne := HAT.out j hlx hlt
      obtain ⟨ch, hch⟩ : ∃ ch, X[j]'hlx = ch := ⟨_, rfl⟩
      rw [hch] at hne
      have hnb : (((ch.toNat : Int)) == 10) = false := by
        rw [beq_eq_false_iff_ne]
        intro h2
        exact hne (UInt8.toNat_inj.1 (by have : (10 : UInt8).toNat = 10 := rfl; omega))
      clear hne hen hsz
      go_wp2
      go_roundw
      case rel => exact ⟨j + 1, by omega, by simp, by first | rfl | trivial⟩
      case measure => simp [intOf]; omega
    · obtain rfl : j = one.length := by omega
      have hx1 := HEX1.out
      rcases hen with ⟨rfl, rfl, hlx⟩ | ⟨rfl, hlx⟩
      · have hch := HCH.out rfl hlx
        go_upto_region 5 with (go_at_call 28; refine (tidemillref26_Act1.calls _ _ _ _ _ _ _ _ _ HA1.out).mono ?_; rintro e w3 ⟨v4, rfl, hr, hb⟩; obtain ⟨B4, d, rfl, hd, hD⟩ := Kd.R_reads hr; have HB3 := Aside0.mk hb; clear hr hb hD)
        generalize hW4 : w3.alloc (.cells #[.int .i64 r1, .int .i64 r2, .int .i64 r3, .string r4, .slice B4 r5.length d] 46) = W4
        have hb4 : Below w3.heap.size w3 W4 := by rw [← hW4]; exact (Below.refl _ _).alloc (Nat.le_refl _) _
        have H4 := Aside0.mk ((HL.out.below HB1.out).below (HB3.out.trans (hb4.mono HB3.out.size)))
        clear hW4 hb4 r0 hrest
        have c2 := blk_cell H4.out.ok 0
        have c3 := blk_cell H4.out.en 0
        have c4 : W4.cell? ⟨B + 4, 0, none⟩ = some (.string X) := by rw [← HX.out]; exact blk_cell H4.out.rest 0
        have f2 := blk_frozen H4.out.ok 0
        go_upto_region 7 with (fail)
        have H5 := Aside0.mk (H4.out.set 2 (.bool true) rfl (by decide) (fun _ => rfl) rfl rfl)
        clear c2 c3 c4 f2
        generalize W4.setCell ⟨B + 2, 0, none⟩ (.bool true) = W5 at H5 ⊢
        have c2 := blk_cell H5.out.ok 0
        have c3 := blk_cell H5.out.en 0
        have f3 := blk_frozen H5.out.en 0
        go_upto_region 11 with (fail)
        have H11 := Aside0.mk (H5.out.set (en' := true) 3 (.bool true) rfl (by decide) (fun h => by cases h) rfl rfl)
        clear f3 c3 c2
        generalize W5.setCell ⟨B + 3, 0, none⟩ (.bool true) = W11 at H11 ⊢
        have f0 := blk_frozen H11.out.n 0
        have c0 := blk_cell H11.out.n 0
        go_upto_region 12 with (fail)
        have H12 := Aside0.mk (show LSt w0 B M x (k + 1) true (W11.setCell ⟨B, 0, none⟩ (.int .i64 ((k : Int) + 1))) from H11.out.set (k' := k + 1) 0 (.int .i64 ((k : Int) + 1)) rfl (by decide) (fun h => by cases h) rfl rfl)
        clear f0 c0
        generalize W11.setCell ⟨B, 0, none⟩ (.int .i64 ((k : Int) + 1)) = W12 at H12 ⊢
        have c0 := blk_cell H12.out.n 0
        have c1 := blk_cell H12.out.m 0
        have c2 := blk_cell H12.out.ok 0
        go_wp2
        exact bodyPost_ret (v := .bool (decide ((k : Int) + 1 < (M : Int)))) (by simp [results, Tryd.results27, go_sem]) rfl ⟨rfl, H12.out⟩
      · have hle : X.size = one.length := hlx.symm
        clear hlx hsz
        have hnl : ¬ (one.length : Int) < (one.length : Int) := by omega
        cases r6 with
        | true =>
          go_upto_region 5 with (go_at_call 28; refine (tidemillref26_Act1.calls _ _ _ _ _ _ _ _ _ HA1.out).mono ?_; rintro e w3 ⟨v4, rfl, hr, hb⟩; obtain ⟨B4, d, rfl, hd, hD⟩ := Kd.R_reads hr; have HB3 := Aside0.mk hb; clear hr hb hD)
          generalize hW4 : w3.alloc (.cells #[.int .i64 r1, .int .i64 r2, .int .i64 r3, .string r4, .slice B4 r5.length d] 46) = W4
          have hb4 : Below w3.heap.size w3 W4 := by rw [← hW4]; exact (Below.refl _ _).alloc (Nat.le_refl _) _
          have H4 := Aside0.mk ((HL.out.below HB1.out).below (HB3.out.trans (hb4.mono HB3.out.size)))
          clear hW4 hb4 r0 hrest
          have c2 := blk_cell H4.out.ok 0
          have c3 := blk_cell H4.out.en 0
          have c4 : W4.cell? ⟨B + 4, 0, none⟩ = some (.string X) := by rw [← HX.out]; exact blk_cell H4.out.rest 0
          have f2 := blk_frozen H4.out.ok 0
          go_upto_region 7 with (fail)
          have H5 := Aside0.mk (H4.out.set 2 (.bool true) rfl (by decide) (fun _ => rfl) rfl rfl)
          clear c2 c3 c4 f2
          generalize W4.setCell ⟨B + 2, 0, none⟩ (.bool true) = W5 at H5 ⊢
          have c2 := blk_cell H5.out.ok 0
          have c3 := blk_cell H5.out.en 0
          have f3 := blk_frozen H5.out.en 0
          go_upto_region 11 with (fail)
          have H11 := Aside0.mk (H5.out.set (en' := true) 3 (.bool true) rfl (by decide) (fun h => by cases h) rfl rfl)
          clear f3 c3 c2
          generalize W5.setCell ⟨B + 3, 0, none⟩ (.bool true) = W11 at H11 ⊢
          have f0 := blk_frozen H11.out.n 0
          have c0 := blk_cell H11.out.n 0
          go_upto_region 12 with (fail)
          have H12 := Aside0.mk (show LSt w0 B M x (k + 1) true (W11.setCell ⟨B, 0, none⟩ (.int .i64 ((k : Int) + 1))) from H11.out.set (k' := k + 1) 0 (.int .i64 ((k : Int) + 1)) rfl (by decide) (fun h => by cases h) rfl rfl)
          clear f0 c0
          generalize W11.setCell ⟨B, 0, none⟩ (.int .i64 ((k : Int) + 1)) = W12 at H12 ⊢
          have c0 := blk_cell H12.out.n 0
          have c1 := blk_cell H12.out.m 0
          have c2 := blk_cell H12.out.ok 0
          go_wp2
          exact bodyPost_ret (v := .bool (decide ((k : Int) + 1 < (M : Int)))) (by simp [results, Tryd.results27, go_sem]) rfl ⟨rfl, H12.out⟩
        | false =>
          go_upto_region 5 with (go_at_call 28; refine (tidemillref26_Act1.calls _ _ _ _ _ _ _ _ _ HA1.out).mono ?_; rintro e w3 ⟨v4, rfl, hr, hb⟩; obtain ⟨B4, d, rfl, hd, hD⟩ := Kd.R_reads hr; have HB3 := Aside0.mk hb; clear hr hb hD)
          generalize hW4 : w3.alloc (.cells #[.int .i64 r1, .int .i64 r2, .int .i64 r3, .string r4, .slice B4 r5.length d] 46) = W4
          have hb4 : Below w3.heap.size w3 W4 := by rw [← hW4]; exact (Below.refl _ _).alloc (Nat.le_refl _) _
          have H4 := Aside0.mk ((HL.out.below HB1.out).below (HB3.out.trans (hb4.mono HB3.out.size)))
          clear hW4 hb4 r0 hrest
          have c2 := blk_cell H4.out.ok 0
          have c3 := blk_cell H4.out.en 0
          have c4 : W4.cell? ⟨B + 4, 0, none⟩ = some (.string X) := by rw [← HX.out]; exact blk_cell H4.out.rest 0
          have f2 := blk_frozen H4.out.ok 0
          go_upto_region 7 with (fail)
          have H5 := Aside0.mk (H4.out.set 2 (.bool true) rfl (by decide) (fun _ => rfl) rfl rfl)
          clear c2 c3 c4 f2
          generalize W4.setCell ⟨B + 2, 0, none⟩ (.bool true) = W5 at H5 ⊢
          have c2 := blk_cell H5.out.ok 0
          have c3 := blk_cell H5.out.en 0
          have f3 := blk_frozen H5.out.en 0
          go_upto_region 11 with (fail)
          have H11 := Aside0.mk (H5.out.set (en' := true) 3 (.bool true) rfl (by decide) (fun h => by cases h) rfl rfl)
          clear f3 c3 c2
          generalize W5.setCell ⟨B + 3, 0, none⟩ (.bool true) = W11 at H11 ⊢
          have f0 := blk_frozen H11.out.n 0
          have c0 := blk_cell H11.out.n 0
          go_upto_region 12 with (fail)
          have H12 := Aside0.mk (show LSt w0 B M x (k + 1) true (W11.setCell ⟨B, 0, none⟩ (.int .i64 ((k : Int) + 1))) from H11.out.set (k' := k + 1) 0 (.int .i64 ((k : Int) + 1)) rfl (by decide) (fun h => by cases h) rfl rfl)
          clear f0 c0
          generalize W11.setCell ⟨B, 0, none⟩ (.int .i64 ((k : Int) + 1)) = W12 at H12 ⊢
          have c0 := blk_cell H12.out.n 0
          have c1 := blk_cell H12.out.m 0
          have c2 := blk_cell H12.out.ok 0
          go_wp2
          exact bodyPost_ret (v := .bool (decide ((k : Int) + 1 < (M : Int)))) (by simp [results, Tryd.results27, go_sem]) rfl ⟨rfl, H12.out⟩
end Go.Proofs.YtdgdpkemboeaeaaDoor.H
namespace Go.Proofs.YtdgdpkemboeaeaaDoor.H
open Go.RowKit Go.Shelf Go.Proofs.YtdgdpkemboeaeaaDoor.PT Go.Proofs.YtdgdpkemboeaeaaDoor.PR Go.Proofs.YtdgdpkemboeaeaaDoorW.PrintWords Go.Proofs.YtdgdpkemboeaeaaDoorW.PrintLast Go.Proofs.YtdgdpkemboeaeaaDoorW.PrintMore
set_option linter.unusedVariables false
set_option linter.unusedSimpArgs false
set_option maxRecDepth 100000 in
set_option maxHeartbeats 16000000 in
theorem lines1_law {w0 W : World} {B M Bs : Nat} {s : List UInt8} (hs : s.length ≤ 3000) (hE : Env w0) (h : LSt w0 B M s 0 false W) (hB : W.cell? ⟨Bs, 0, none⟩ = some (.string (ba s))) :
    Calls Tryd.prog 54 #[.func (.func 27) #[] (capsL B), .pointer (some ⟨Bs, 0, none⟩)] W fun e W' => (∃ v, e = .returned v) ∧
      ∃ x n en, LSt w0 B M x n en W' ∧ (en = true ∨ x = [] ∨ (n : Int) = max (M : Int) 1) := by
  have HE := Aside0.mk hE
  have HS := Aside0.mk hs
  have HL := Aside0.mk h
  clear hE hs h
  go_enter Tryd.func54, Tryd.ntmps54
  go_wp2
  go_loopw [3] (fun r3 wr => ∃ (x : List UInt8) (n : Nat), r3 = .string (ba x) ∧ LSt w0 B M x n false wr ∧ (n = 0 ∨ n < M) ∧ x.length + n ≤ 3000)
    (fun r3 wr => (match r3 with | .string b => b.size | _ => 0))
  case atStart => exact ⟨s, 0, rfl, HL.out, .inl rfl, HS.out⟩
  case round =>
    obtain ⟨x, n, rfl, hl, hn, hxn⟩ := hrel
    have HLW := Aside0.mk hl
    have HN := Aside0.mk hn
    have HXN := Aside0.mk hxn
    clear hl hn hxn hB
    obtain ⟨bz, hbz⟩ : ∃ bz, (ba x).toList.isEmpty = bz := ⟨_, rfl⟩
    have HBZ := Aside0.mk (show bz = true ↔ x = [] by rw [← hbz, ba_tl, List.isEmpty_iff])
    cases bz with
    | true =>
      have HX0 := Aside0.mk (HBZ.out.1 rfl)
      clear HBZ
      go_wp2
      go_end0
      exact ⟨⟨_, rfl⟩, x, n, false, HLW.out, .inr (.inl HX0.out)⟩
    | false =>
      have HX := Aside0.mk (show x ≠ [] from fun h => by have := HBZ.out.2 h; cases this)
      clear HBZ
      have hcl := cut_len x
      have hc1 := cut_calls x (by have := HXN.out; omega) wr
      have hgood := fun (W : World) (a : PAct) (v : Value) (n₀ : Nat) hc ha (h : LSt w0 B M x n false W) hR => tl1_good (a := a) (v := v) (n₀ := n₀) (by have := HXN.out; omega) hc ha (by have := HXN.out; omega) h hR
      have hbad := fun (W : World) hb (h : LSt w0 B M x n false W) => tl1_bad (by have := HXN.out; omega) hb (by have := HXN.out; omega) h
      have hlt := fun hc => cut_less (s := x) hc
      obtain ⟨one, hone⟩ : ∃ one, (cutL x 10).1 = one := ⟨_, rfl⟩
      obtain ⟨beh, hbeh⟩ : ∃ beh, (cutL x 10).2.1 = beh := ⟨_, rfl⟩
      obtain ⟨en, hen⟩ : ∃ en, (cutL x 10).2.2 = en := ⟨_, rfl⟩
      rw [hone, hbeh, hen] at hc1
      rw [hone, hbeh] at hcl
      rw [hbeh, hen] at hlt
      rw [hone, hen] at hbad
      rw [hone, hbeh, hen] at hgood
      have HLE := Aside0.mk hcl
      have HG := Aside0.mk hgood
      have HBD := Aside0.mk hbad
      have HLT := Aside0.mk hlt
      have HC1 := Aside0.mk hc1
      clear hone hbeh hen hcl hgood hbad hlt hc1
      have hac := fun (W : World) (hW : Env W) => act_calls (ba one) (by rw [ba_size]; have := HLE.out; have := HXN.out; omega) W hW
      rw [ba_data] at hac
      cases hra : actA one with
      | none =>
        have e1 : resA one = (zeroP, false) := by unfold resA; rw [hra]
        rw [e1] at hac
        have HAC := Aside0.mk hac
        have HA := Aside0.mk hra
        clear hac hra e1
        go_upto_region 3 with (go_at_call 45; refine (show Calls _ _ _ _ _ from HC1.out).mono ?_; rintro e w1 ⟨rfl, hb⟩; have HB1 := Aside0.mk hb; clear hb)
        go_upto_region 4 with (go_at_call 55; refine (HAC.out w1 (HE.out.below (HLW.out.below HB1.out).b)).mono ?_; rintro e w2 ⟨v, rfl, hR, hb⟩; obtain ⟨vA, vc, rfl, hvl, hvC⟩ := Kd.R_reads hR; have HR2 := Aside0.mk hR; have HB2 := Aside0.mk (HB1.out.trans (hb.mono HB1.out.size)); clear hR hb hvl hvC; simp only [actV, zeroP, List.length_nil])
        generalize hW4 : w2.alloc (.cells #[.int .i64 0, .int .i64 0, .int .i64 0, .string ⟨#[]⟩, .slice vA 0 vc] 45) = W4
        have hb4 : Below w2.heap.size w2 W4 := by rw [← hW4]; exact (Below.refl _ _).alloc (Nat.le_refl _) _
        have hcall := HBD.out W4 (.inr HA.out) ((HLW.out.below HB2.out).below hb4)
        simp only [actV, zeroP, List.length_nil, List.append_toArray, List.cons_append, List.nil_append] at hcall
        have HCC := Aside0.mk hcall
        clear hcall hb4 hW4
        go_wp2_with (go_at_call 27; refine (show Calls _ _ _ _ _ from HCC.out).mono ?_; rintro e w5 ⟨rfl, hl⟩; have HL5 := Aside0.mk hl; clear hl)
        all_goals exact bodyPost_ret (results_none rfl _ _ _) rfl ⟨⟨_, rfl⟩, x, n + 1, true, HL5.out, .inl rfl⟩
      | some a =>
        have e1 : resA one = (a, true) := by unfold resA; rw [hra]
        rw [e1] at hac
        have HAC := Aside0.mk hac
        have HA := Aside0.mk hra
        clear hac hra e1
        cases en with
        | false =>
          go_upto_region 3 with (go_at_call 45; refine (show Calls _ _ _ _ _ from HC1.out).mono ?_; rintro e w1 ⟨rfl, hb⟩; have HB1 := Aside0.mk hb; clear hb)
          go_upto_region 4 with (go_at_call 55; refine (HAC.out w1 (HE.out.below (HLW.out.below HB1.out).b)).mono ?_; rintro e w2 ⟨v, rfl, hR, hb⟩; obtain ⟨vA, vc, rfl, hvl, hvC⟩ := Kd.R_reads hR; have HR2 := Aside0.mk hR; have HB2 := Aside0.mk (HB1.out.trans (hb.mono HB1.out.size)); clear hR hb hvl hvC; simp only [actV, zeroP, List.length_nil])
          generalize hW4 : w2.alloc (.cells #[.int .i64 a.k, .int .i64 a.i, .int .i64 a.n, .string a.t, .slice vA a.keep.length vc] 45) = W4
          have hb4 : Below w2.heap.size w2 W4 := by rw [← hW4]; exact (Below.refl _ _).alloc (Nat.le_refl _) _
          have hcall := HBD.out W4 (.inl (by first | rfl | trivial)) ((HLW.out.below HB2.out).below hb4)
          simp only [actV, zeroP, List.length_nil, List.append_toArray, List.cons_append, List.nil_append] at hcall
          have HCC := Aside0.mk hcall
          clear hcall hb4 hW4
          go_wp2_with (go_at_call 27; refine (show Calls _ _ _ _ _ from HCC.out).mono ?_; rintro e w5 ⟨rfl, hl⟩; have HL5 := Aside0.mk hl; clear hl)
          all_goals exact bodyPost_ret (results_none rfl _ _ _) rfl ⟨⟨_, rfl⟩, x, n + 1, true, HL5.out, .inl rfl⟩
        | true =>
          by_cases hm : (n : Int) + 1 < (M : Int)
          · go_upto_region 3 with (go_at_call 45; refine (show Calls _ _ _ _ _ from HC1.out).mono ?_; rintro e w1 ⟨rfl, hb⟩; have HB1 := Aside0.mk hb; clear hb)
            go_upto_region 4 with (go_at_call 55; refine (HAC.out w1 (HE.out.below (HLW.out.below HB1.out).b)).mono ?_; rintro e w2 ⟨v, rfl, hR, hb⟩; obtain ⟨vA, vc, rfl, hvl, hvC⟩ := Kd.R_reads hR; have HR2 := Aside0.mk hR; have HB2 := Aside0.mk (HB1.out.trans (hb.mono HB1.out.size)); clear hR hb hvl hvC; simp only [actV, zeroP, List.length_nil])
            generalize hW4 : w2.alloc (.cells #[.int .i64 a.k, .int .i64 a.i, .int .i64 a.n, .string a.t, .slice vA a.keep.length vc] 45) = W4
            have hb4 : Below w2.heap.size w2 W4 := by rw [← hW4]; exact (Below.refl _ _).alloc (Nat.le_refl _) _
            have hbk : W4.heap[w2.heap.size]? = some (.cells #[.int .i64 a.k, .int .i64 a.i, .int .i64 a.n, .string a.t, .slice vA a.keep.length vc] 45 (0, 0)) := by rw [← hW4]; exact blk_new _ _
            have hcall := HG.out W4 a (.slice vA a.keep.length vc) _ (by first | rfl | trivial) HA.out ((HLW.out.below HB2.out).below hb4) (show ElRel _ (a, .slice vA a.keep.length vc, 0) W4 from Kd.R_below HR2.out hb4)
            rw [decide_eq_true hm] at hcall
            simp only [actV, List.append_toArray, List.cons_append, List.nil_append] at hcall
            have HCC := Aside0.mk hcall
            have b0 := blk_cell hbk 0
            have b1 := blk_cell hbk 1
            have b2 := blk_cell hbk 2
            have b3 := blk_cell hbk 3
            have b4 := blk_cell hbk 4
            have HM := Aside0.mk hm
            have hu45 := Tryd.underlying45
            clear hcall hb4 hW4 hbk hm
            go_wp2_with (go_at_call 27; refine (show Calls _ _ _ _ _ from HCC.out).mono ?_; rintro e w5 ⟨rfl, hl⟩; have HL5 := Aside0.mk hl; clear hl b0 b1 b2 b3 b4)
            go_roundw
            case rel => exact ⟨beh, n + 1, rfl, HL5.out, .inr (by have := HM.out; omega), by have := HLT.out (by first | rfl | trivial); have := HXN.out; omega⟩
            case measure =>
              have := HLT.out (by first | rfl | trivial)
              simp only [ba_size]
              exact this
          · go_upto_region 3 with (go_at_call 45; refine (show Calls _ _ _ _ _ from HC1.out).mono ?_; rintro e w1 ⟨rfl, hb⟩; have HB1 := Aside0.mk hb; clear hb)
            go_upto_region 4 with (go_at_call 55; refine (HAC.out w1 (HE.out.below (HLW.out.below HB1.out).b)).mono ?_; rintro e w2 ⟨v, rfl, hR, hb⟩; obtain ⟨vA, vc, rfl, hvl, hvC⟩ := Kd.R_reads hR; have HR2 := Aside0.mk hR; have HB2 := Aside0.mk (HB1.out.trans (hb.mono HB1.out.size)); clear hR hb hvl hvC; simp only [actV, zeroP, List.length_nil])
            generalize hW4 : w2.alloc (.cells #[.int .i64 a.k, .int .i64 a.i, .int .i64 a.n, .string a.t, .slice vA a.keep.length vc] 45) = W4
            have hb4 : Below w2.heap.size w2 W4 := by rw [← hW4]; exact (Below.refl _ _).alloc (Nat.le_refl _) _
            have hbk : W4.heap[w2.heap.size]? = some (.cells #[.int .i64 a.k, .int .i64 a.i, .int .i64 a.n, .string a.t, .slice vA a.keep.length vc] 45 (0, 0)) := by rw [← hW4]; exact blk_new _ _
            have hcall := HG.out W4 a (.slice vA a.keep.length vc) _ (by first | rfl | trivial) HA.out ((HLW.out.below HB2.out).below hb4) (show ElRel _ (a, .slice vA a.keep.length vc, 0) W4 from Kd.R_below HR2.out hb4)
            rw [decide_eq_false (show ¬ (n : Int) + 1 < (M : Int) by omega)] at hcall
            simp only [actV, List.append_toArray, List.cons_append, List.nil_append] at hcall
            have HCC := Aside0.mk hcall
            have b0 := blk_cell hbk 0
            have b1 := blk_cell hbk 1
            have b2 := blk_cell hbk 2
            have b3 := blk_cell hbk 3
            have b4 := blk_cell hbk 4
            have HM := Aside0.mk hm
            have hu45 := Tryd.underlying45
            clear hcall hb4 hW4 hbk hm
            go_wp2_with (go_at_call 27; refine (show Calls _ _ _ _ _ from HCC.out).mono ?_; rintro e w5 ⟨rfl, hl⟩; have HL5 := Aside0.mk hl; clear hl b0 b1 b2 b3 b4)
            all_goals exact bodyPost_ret (results_none rfl _ _ _) rfl ⟨⟨_, rfl⟩, beh, n + 1, false, HL5.out, .inr (.inr (by have := HM.out; have := HN.out; omega))⟩
end Go.Proofs.YtdgdpkemboeaeaaDoor.H

