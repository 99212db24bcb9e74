/- The law TapeParses: its walk. -/
import Derived.Test.YtdgdpkemboeaeaaDoorTpZ
import Derived.Test.YtdgdpkemboeaeaaDoorTpA
import Derived.Test.YtdgdpkemboeaeaaDoorTpSm
namespace Go.Proofs.YtdgdpkemboeaeaaDoor.H
open Go.RowKit Go.Shelf Go.Proofs.YtdgdpkemboeaeaaDoor.PT Go.Proofs.YtdgdpkemboeaeaaDoor.PU Go.Proofs.YtdgdpkemboeaeaaDoorW.PrintWords Go.Proofs.YtdgdpkemboeaeaaDoorW.PrintLast Go.Proofs.YtdgdpkemboeaeaaDoorW.PrintMore
set_option linter.unusedVariables false
set_option linter.unusedSimpArgs false
def awS : ByteArray := ⟨#[98, 101, 97, 116, 32, 49, 32, 51, 10, 98, 97, 116, 99, 104, 32, 53, 32, 97, 58, 49, 124, 99, 124, 84, 49, 124, 83, 120, 46, 49, 37, 48, 97, 10]⟩
def awT : ByteArray := ⟨#[97, 58, 49, 124, 99, 124, 84, 49, 124, 83, 120, 46, 49, 10]⟩
def aw1 : PAct := ⟨3, 1, 3, ⟨#[]⟩, []⟩
def aw2 : PAct := ⟨1, 0, 5, awT, []⟩
theorem itoa_small (u : Nat) (h : u < 10) : Lib.itoa (u : Int) = [UInt8.ofNat (48 + u)] := by rw [Lib.itoa_nonneg, dec_small h]
theorem aw_line1 : lineP aw1 = [98, 101, 97, 116, 32, 49, 32, 51] := by
  have h1 : Lib.itoa 1 = [49] := itoa_small 1 (by decide)
  have h3 : Lib.itoa 3 = [51] := itoa_small 3 (by decide)
  show joinC 32 (shW 3 :: (([Lib.itoa 1] ++ [Lib.itoa 3]) ++ [] ++ [])) = _
  rw [h1, h3]
  decide +kernel
theorem aw_line2 : lineP aw2 = [98, 97, 116, 99, 104, 32, 53, 32, 97, 58, 49, 124, 99, 124, 84, 49, 124, 83, 120, 46, 49, 37, 48, 97] := by
  have h5 : Lib.itoa 5 = [53] := itoa_small 5 (by decide)
  show joinC 32 (shW 1 :: (([] ++ [Lib.itoa 5]) ++ [showL awT.data.toList] ++ [])) = _
  rw [h5]
  decide +kernel
theorem aw_parse : parseR awS.data.toList = ([aw1, aw2], 0, 0) := by
  have hg : ∀ a ∈ [aw1, aw2], goodP a = true := by
    intro a ha
    simp only [List.mem_cons, List.not_mem_nil, or_false] at ha
    rcases ha with rfl | rfl <;> decide +kernel
  have hp := parse_print [aw1, aw2] hg
  have e : printL [aw1, aw2] = awS.data.toList := by
    show (lineP aw1 ++ [10]) ++ ((lineP aw2 ++ [10]) ++ []) = _
    rw [aw_line1, aw_line2]
    rfl
  rw [e] at hp
  unfold parseR
  rw [hp]
  rfl
set_option maxRecDepth 100000 in
set_option maxHeartbeats 4000000 in
theorem awake_calls (w : World) (hE : Env w) : Calls Tryd.prog 25 #[] w fun e w' => e = .returned (.bool true) ∧ Below w.heap.size w w' := by
  have hp := fun W (hW : Env W) => parse_calls awS (by decide) W hW
  rw [aw_parse] at hp
  go_enter Tryd.func25, Tryd.ntmps25
  go_upto_region 2 with (go_at_call 40; refine (hp _ hE).mono ?_; rintro e w1 ⟨v, rfl, hR, hb⟩; obtain ⟨A, c, rfl, hl, hC⟩ := Kd.R_reads hR; have HB := Aside0.mk hb; have HC := Aside0.mk hC; clear hR hb hC)
  obtain ⟨ad, A0, c0, rfl, k0, k1, k2, k3, k4, _⟩ := at_T45 HC.out 0 (by omega) (by decide)
  obtain ⟨ad', A1, c1, e, l0, l1, l2, l3, l4, _⟩ := at_T45 HC.out 1 (by omega) (by decide)
  obtain rfl := Option.some.inj e
  clear hl
  simp only [rd_T45, List.map_cons, List.map_nil, s45, aw1, aw2, Int.toNat_zero, List.getD_cons_zero, List.getD_cons_succ, Int.toNat_one] at k0 k1 k2 l2 l3
  have z0 : ad.add (0 * 5) = ad := by unfold Addr.add; simp
  have z1 : ad.add (1 * 5) = ⟨ad.block, ad.off + 5, none⟩ := by unfold Addr.add; simp
  simp only [z0] at k0 k1 k2
  simp only [z1, awT] at l2 l3
  clear k3 k4 l0 l1 l4 e z0 z1
  go_wp2
  refine bodyPost_ret (v := .bool true) (by simp [results, Tryd.results25, go_sem]) rfl ⟨rfl, HB.out⟩
end Go.Proofs.YtdgdpkemboeaeaaDoor.H
namespace Go.Proofs.YtdgdpkemboeaeaaDoor.H
open Go.RowKit Go.Shelf Go.Proofs.YtdgdpkemboeaeaaDoor.PT Go.Proofs.YtdgdpkemboeaeaaDoor.PR Go.Proofs.YtdgdpkemboeaeaaDoorW.PrintWords Go.Proofs.YtdgdpkemboeaeaaDoorW.PrintLast Go.Proofs.YtdgdpkemboeaeaaDoorW.PrintMore
set_option linter.unusedVariables false
set_option linter.unusedSimpArgs false
theorem join_ge (c : UInt8) : ∀ (xs : List (List UInt8)) (x : List UInt8), x ∈ xs → x.length ≤ (joinC c xs).length
  | [], x, h => by cases h
  | [y], x, h => by rw [List.mem_singleton.1 h]; exact Nat.le_refl _
  | y :: z :: r, x, h => by
    rw [joinC, List.length_append, List.length_cons]
    rcases List.mem_cons.1 h with rfl | h
    · omega
    · have := join_ge c (z :: r) x h
      omega
theorem t_line (a : PAct) : a.t.size ≤ (lineP a).length := by
  by_cases h : a.t.size = 0
  · omega
  · have h1 : showL a.t.data.toList ∈ partsP a := by unfold partsP; simp [h]
    have h2 := join_ge 32 (partsP a) _ h1
    have h3 := showL_ge a.t.data.toList
    rw [len_of] at h3
    unfold lineP
    omega
theorem print_ge : ∀ (l : List PAct), l.length ≤ (printL l).length ∧ ∀ a ∈ l, (lineP a).length ≤ (printL l).length
  | [] => ⟨Nat.le_refl _, by simp⟩
  | b :: l => by
    have he : printL (b :: l) = lineP b ++ 10 :: printL l := by unfold printL; simp
    obtain ⟨h1, h2⟩ := print_ge l
    rw [he, List.length_append, List.length_cons, List.length_cons]
    refine ⟨by omega, fun a ha => ?_⟩
    rcases List.mem_cons.1 ha with rfl | ha
    · omega
    · have := h2 a ha
      omega
theorem map_ps (l : List PAct) : (l.map s45).map p45 = l := by rw [List.map_map]; exact (List.map_congr_left (g := id) (fun a _ => rfl)).trans (List.map_id l)
theorem map_qs (l : List PAct) : (l.map s46).map p46 = l := by rw [List.map_map]; exact (List.map_congr_left (g := id) (fun a _ => rfl)).trans (List.map_id l)
theorem printR_good {l : List PAct} (h : ∀ a ∈ l, goodP a = true) : printR l = (ba (printL l), 0, 0) := by unfold printR; rw [if_pos (badAt_all h)]
set_option maxRecDepth 100000 in
set_option maxHeartbeats 8000000 in
theorem parses_calls (s : ByteArray) (w : World) (hE : Env w) : Calls Tryd.prog 11 #[.string s] w fun e w' => e = .returned (.bool true) ∧ Below w.heap.size w w' := by
  have hw := fun W (hW : Env W) => awake_calls W hW
  have HE := Aside0.mk hE
  clear hE
  by_cases hs : s.size ≤ 3000
  · have i1 : ¬ (3000 : Int) < (s.size : Int) := by omega
    have hp := fun W (hW : Env W) => parse_calls s (by omega) W hW
    have hr := refParse_f s.data.toList (by rw [len_of]; omega)
    obtain ⟨hg, hpr⟩ := print_parse s.data.toList.length s.data.toList (Nat.le_refl _)
    rw [ba_of] at hr
    have hR : parseR s.data.toList = if (parseA s.data.toList).2 = true then ((parseA s.data.toList).1, 0, 0) else ([], ((parseA s.data.toList).1.length : Int), 2) := rfl
    rw [hR] at hp
    clear hR
    have hlen := len_of s
    generalize parseA s.data.toList = P at hp hr hg hpr
    obtain ⟨acts, okp⟩ := P
    simp only at hp hr hg hpr
    cases okp with
    | true =>
      have hpt := hpr rfl
      obtain ⟨n1, n2⟩ := print_ge acts
      rw [hpt, hlen] at n1
      have n3 : ∀ x ∈ acts.map s45, x.f3.size ≤ 1000000 := by
        intro x hx
        obtain ⟨a, ha, rfl⟩ := List.mem_map.1 hx
        have h1 := n2 a ha
        rw [hpt, hlen] at h1
        have h2 := t_line a
        show a.t.size ≤ 1000000
        omega
      have hpc := fun A c W (hW : Env W) hC => print_calls A c (acts.map s45) (by rw [List.length_map]; omega) n3 W hW hC
      rw [map_ps, printR_good hg, hpt, ba_of] at hpc
      have hsm := fun A B c c' W hA hB => same_calls A B c c' (acts.map s45) (acts.map s46) (by rw [map_ps, map_qs]) W hA hB
      have bb := beq_bb s
      simp only [if_true] at hp hr
      have HP := Aside0.mk hp
      have HR := Aside0.mk hr
      have HPC := Aside0.mk hpc
      have HSM := Aside0.mk hsm
      clear hp hr hpc hsm hg hpr hpt n1 n2 n3 hlen hs
      generalize acts.map s45 = l at HP HPC HSM
      generalize acts.map s46 = m at HR HSM
      go_enter Tryd.func11, Tryd.ntmps11
      go_upto_region 3 with (go_at_call 25; refine (hw _ HE.out).mono ?_; rintro e w1 ⟨rfl, hb⟩; have HB1 := Aside0.mk hb; clear hb)
      go_upto_region 4 with (go_at_call 40; refine (HP.out _ (HE.out.below HB1.out)).mono ?_; rintro e w2 ⟨v, rfl, hr, hb⟩; obtain ⟨A, c, rfl, hl, hC⟩ := Kd.R_reads hr; have HC := Aside0.mk hC; have HB2 := Aside0.mk (HB1.out.trans (hb.mono HB1.out.size)); clear hr hC hb)
      go_upto_region 5 with (go_at_call 41; refine (tidemillref26_Parse.calls _ _ _ _ _ _ HR.out).mono ?_; rintro e w3 ⟨v2, rfl, hr, hb⟩; obtain ⟨B, d, rfl, hd, hD⟩ := Kd.R_reads (Kd.S_R hr); have HD := Aside0.mk hD; have HC3 := Aside0.mk (Kd.C_below HC.out hb); have HB3 := Aside0.mk (HB2.out.trans (hb.mono HB2.out.size)); clear hr hD hb)
      go_upto_region 8 with (go_at_call 39; refine (HPC.out _ _ _ (HE.out.below HB3.out) HC3.out).mono ?_; rintro e w4 ⟨rfl, hb⟩; have HC4 := Aside0.mk (Kd.C_below HC3.out hb); have HD4 := Aside0.mk (Kd.C_below HD.out hb); have HB4 := Aside0.mk (HB3.out.trans (hb.mono HB3.out.size)); clear hb)
      go_wp2_with (go_at_call 29; refine (HSM.out _ _ _ _ _ HC4.out HD4.out).mono ?_; rintro e w5 ⟨rfl, hb⟩; have HB5 := Aside0.mk (HB4.out.trans (hb.mono HB4.out.size)); clear hb)
      refine bodyPost_ret (v := .bool true) (by simp [results, Tryd.results11, go_sem]) rfl ⟨rfl, HB5.out⟩
    | false =>
      simp only [Bool.false_eq_true, if_false] at hp hr
      have HP := Aside0.mk hp
      have HR := Aside0.mk hr
      clear hp hr hg hpr hlen hs
      generalize acts.length = n at HP HR
      go_enter Tryd.func11, Tryd.ntmps11
      go_upto_region 3 with (go_at_call 25; refine (hw _ HE.out).mono ?_; rintro e w1 ⟨rfl, hb⟩; have HB1 := Aside0.mk hb; clear hb)
      go_upto_region 4 with (go_at_call 40; refine (HP.out _ (HE.out.below HB1.out)).mono ?_; rintro e w2 ⟨v, rfl, hr, hb⟩; obtain ⟨A, c, rfl, hl, hC⟩ := Kd.R_reads hr; have HB2 := Aside0.mk (HB1.out.trans (hb.mono HB1.out.size)); clear hr hC hb)
      go_upto_region 5 with (go_at_call 41; refine (tidemillref26_Parse.calls _ _ _ _ _ _ HR.out).mono ?_; rintro e w3 ⟨v2, rfl, hr, hb⟩; obtain ⟨B, d, rfl, hd, hD⟩ := Kd.R_reads (Kd.S_R hr); have HB3 := Aside0.mk (HB2.out.trans (hb.mono HB2.out.size)); clear hr hD hb)
      go_wp2
      refine bodyPost_ret (v := .bool true) (by simp [results, Tryd.results11, go_sem]) rfl ⟨rfl, HB3.out⟩
  · have i1 : (3000 : Int) < (s.size : Int) := by omega
    clear hs
    go_enter Tryd.func11, Tryd.ntmps11
    go_upto_region 2 with (go_at_call 25; refine (hw _ HE.out).mono ?_; rintro e w1 ⟨rfl, hb⟩; have HB1 := Aside0.mk hb; clear hb)
    go_wp2_with (go_at_call 25; refine (hw _ (HE.out.below HB1.out)).mono ?_; rintro e w2 ⟨rfl, hb⟩; have HB2 := Aside0.mk (HB1.out.trans (hb.mono HB1.out.size)); clear hb)
    refine bodyPost_ret (v := .bool true) (by simp [results, Tryd.results11, go_sem]) rfl ⟨rfl, HB2.out⟩
end Go.Proofs.YtdgdpkemboeaeaaDoor.H

