/- The law TapeParses: its walk. -/
import Derived.Test.YtdgdpkemboeaeaaDoorTpZ
import Derived.Test.YtdgdpkemboeaeaaDoorTpA
import Derived.Test.YtdgdpkemboeaeaaDoorTpSm
namespace Go.Proofs.YtdgdpkemboeaeaaDoor.H
open Go.RowKit Go.Shelf Go.Proofs.YtdgdpkemboeaeaaDoor.PT Go.Proofs.YtdgdpkemboeaeaaDoor.PU Go.Proofs.YtdgdpkemboeaeaaDoorW.PrintWords Go.Proofs.YtdgdpkemboeaeaaDoorW.PrintLast Go.Proofs.YtdgdpkemboeaeaaDoorW.PrintMore
set_option linter.unusedVariables false
set_option linter.unusedSimpArgs false
def awS : ByteArray := ⟨#[98, 101, 97, 116, 32, 49, 32, 51, 10, 98, 97, 116, 99, 104, 32, 53, 32, 97, 58, 49, 124, 99, 124, 84, 49, 124, 83, 120, 46, 49, 37, 48, 97, 10]⟩
def awT : ByteArray := ⟨#[97, 58, 49, 124, 99, 124, 84, 49, 124, 83, 120, 46, 49, 10]⟩
def aw1 : PAct := ⟨3, 1, 3, ⟨#[]⟩, []⟩
def aw2 : PAct := ⟨1, 0, 5, awT, []⟩
theorem itoa_small (u : Nat) (h : u < 10) : Lib.itoa (u : Int) = [UInt8.ofNat (48 + u)] := by rw [Lib.itoa_nonneg, dec_small h]
theorem aw_line1 : lineP aw1 = [98, 101, 97, 116, 32, 49, 32, 51] := by
  have h1 : Lib.itoa 1 = [49] := itoa_small 1 (by decide)
  have h3 : Lib.itoa 3 = [51] := itoa_small 3 (by decide)
  show joinC 32 (shW 3 :: (([Lib.itoa 1] ++ [Lib.itoa 3]) ++ [] ++ [])) = _
  rw [h1, h3]
  decide +kernel
theorem aw_line2 : lineP aw2 = [98, 97, 116, 99, 104, 32, 53, 32, 97, 58, 49, 124, 99, 124, 84, 49, 124, 83, 120, 46, 49, 37, 48, 97] := by
  have h5 : Lib.itoa 5 = [53] := itoa_small 5 (by decide)
  show joinC 32 (shW 1 :: (([] ++ [Lib.itoa 5]) ++ [showL awT.data.toList] ++ [])) = _
  rw [h5]
  decide +kernel
theorem aw_parse : parseR awS.data.toList = ([aw1, aw2], 0, 0) := by
  have hg : ∀ a ∈ [aw1, aw2], goodP a = true := by
    intro a ha
    simp only [List.mem_cons, List.not_mem_nil, or_false] at ha
    rcases ha with rfl | rfl <;> decide +kernel
  have hp := parse_print [aw1, aw2] hg
  have e : printL [aw1, aw2] = awS.data.toList := by
    show (lineP aw1 ++ [10]) ++ ((lineP aw2 ++ [10]) ++ []) = _
    rw [aw_line1, aw_line2]
    rfl
  rw [e] at hp
  unfold parseR
  rw [hp]
  rfl
set_option maxRecDepth 100000 in
set_option maxHeartbeats 4000000 in
theorem awake_calls (w : World) (hE : Env w) : Calls Tryd.prog 25 #[] w fun e w' => e = .returned (.bool true) ∧ Below w.heap.size w w' := by
  have hp := fun W (hW : Env W) => parse_calls awS (by decide) W hW
  rw [aw_parse] at hp
  go_enter Tryd.func25, Tryd.ntmps25
  go_upto_region 2 with (go_at_call 40; refine (hp _ hE).mono ?_; rintro e w1 ⟨v, rfl, hR, hb⟩; obtain ⟨A, c, rfl, hl, hC⟩ := Kd.R_reads hR; have HB := Aside0.mk hb; have HC := Aside0.mk hC; clear hR hb hC)
  obtain ⟨ad, A0, c0, rfl, k0, k1, k2, k3, k4, _⟩ := at_T45 HC.out 0 (by omega) (by decide)
  obtain ⟨ad', A1, c1, e, l0, l1, l2, l3, l4, _⟩ := at_T45 HC.out 1 (by omega) (by decide)
  obtain rfl := Option.some.inj e
  clear hl
  simp only [rd_T45, List.map_cons, List.map_nil, s45, aw1, aw2, Int.toNat_zero, List.getD_cons_zero, List.getD_cons_succ, Int.toNat_one] at k0 k1 k2 l2 l3
  have z0 : ad.add (0 * 5) = ad := by unfold Addr.add; simp
  have z1 : ad.add (1 * 5) = ⟨ad.block, ad.off + 5, none⟩ := by unfold Addr.add; simp
  simp only [z0] at k0 k1 k2
  simp only [z1, awT] at l2 l3
  clear k3 k4 l0 l1 l4 e z0 z1
  go_wp2
  refine bodyPost_ret (v := .bool true) (by simp [results, Tryd.results25, go_sem]) rfl ⟨rfl, HB.out⟩
end Go.Proofs.YtdgdpkemboeaeaaDoor.H
namespace Go.Proofs.YtdgdpkemboeaeaaDoor.H
open Go.RowKit Go.Shelf Go.Proofs.YtdgdpkemboeaeaaDoor.PT Go.Proofs.YtdgdpkemboeaeaaDoor.PR Go.Proofs.YtdgdpkemboeaeaaDoorW.PrintWords Go.Proofs.YtdgdpkemboeaeaaDoorW.PrintLast Go.Proofs.YtdgdpkemboeaeaaDoorW.PrintMore
set_option linter.unusedVariables false
set_option linter.unusedSimpArgs false
theorem map_ps (l : List PAct) : (l.map s45).map p45 = l := by rw [List.map_map]; exact (List.map_congr_left (g := id) (fun a _ => rfl)).trans (List.map_id l)
theorem printR_good {l : List PAct} (h : ∀ a ∈ l, goodP a = true) : printR l = (ba (printL l), 0, 0) := by unfold printR; rw [if_pos (badAt_all h)]
end Go.Proofs.YtdgdpkemboeaeaaDoor.H

