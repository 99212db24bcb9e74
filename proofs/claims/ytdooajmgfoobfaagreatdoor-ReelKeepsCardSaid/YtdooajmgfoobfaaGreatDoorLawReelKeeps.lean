/- The row and the tied card of ReelKeeps: it returns true whatever the input; the input reads as it did. -/
import Derived.Test.YtdooajmgfoobfaaGreatDoorRows
import Derived.Test.YtdooajmgfoobfaaGreatDoorRqL
import Derived.Test.YtdooajmgfoobfaaGreatDoorPureReelKeeps
import Derived.WalkKit
import Derived.ProofKit
import Derived.OpenShut
import Derived.ShutString
import Derived.ChangeOld
import Derived.Below
import Derived.SizedLaws
import Derived.Carry
import Derived.ChangeSlices
import Derived.SliceStrings
import Derived.LaidMore
import Derived.Lay
import Derived.Stop.Joined
import Derived.SevenTiedAt
import Derived.Test.YtdooajmgfoobfaaGreatDoorTie
import Derived.Test.YtdooajmgfoobfaaGreatDoorCards
namespace Go.Proofs.YtdooajmgfoobfaaGreatDoor.reelKeeps
open Go.ChangeShapes Go.WideShapes Go.ChangeAt Go.RowKit
open Go.ChangeMaps (open_string shut_string)
set_option linter.unusedVariables false
theorem own : ownKnob Tryz.prog.godebug = none := by kernel_rfl
theorem laidOut : laidOutB Tryz.prog = true := by kernel_rfl
set_option maxRecDepth 100000 in
theorem lifted (os : Os) (started : os.Started) (H : Type) (enc : TypeId × Value → H) :
    ReturnsInHanded {} Tryz.checked os 4 .any (fun w args => (Rows.reelKeepsSpec.pre enc Tryz.prog Tryz.f4 Rows.reelKeepsRow.domain false w args ∧ laidMetH Tryz.prog Rows.reelKeepsRow.laid w) ∧ sizedMet enc Tryz.prog Tryz.f4 (OpenSpec.ofChange Rows.reelKeepsSpec) false w args) (Rows.reelKeepsSpec.post enc Tryz.prog Tryz.f4 false true false false) := by
  refine returnsInHanded_of_change_and (C := Tryz.checked) (X := fun w _ => laidMetH Tryz.prog Rows.reelKeepsRow.laid w) (fun _ _ _ hh h => h.of_heap hh) own started (by kernel_rfl) Tryz.func4
    (ChangeSpec.witness_shaped (enc := enc) (C := Tryz.checked) (os := os) (X := fun w _ => laidMetH Tryz.prog Rows.reelKeepsRow.laid w) false (World.laidAll Tryz.prog os Rows.reelKeepsRow.laid) #[.int .u16 0, .slice none 0 0] 8 (World.laidAll_os _ _ _)
      (World.shaped_of_ZipB (by kernel_rfl) (by kernel_rfl)) (by kernel_rfl) (by kernel_rfl) (by kernel_rfl)
      (by rw [MakeChecks.laidMetH_plain _ _ _ (by kernel_rfl)]; exact laidMet_laidAll _ (by kernel_rfl) (by kernel_rfl))) ?_
  intro W base args ds gs before hval0 hW hcnd hsz0 hL _
  have hsz : (DataW.weightsEach Tryz.prog (Tryz.f4.params.toList ++ Rows.reelKeepsSpec.plain.varTypes Tryz.prog) (ds ++ gs)).all (· ≤ reachBytes) = true := hsz0
  have hval : ∀ (j : Nat) t v, Tryz.f4.params[j]? = some t → args[j]? = some v → Value.okWide Tryz.prog W .any base t v := hval0
  have hW' := hW
  obtain ⟨p, q, hA0, hV, rfl, hfz, hnd⟩ := hW
  have hA : DataW.TrodAll enc Tryz.prog W 0 (fun _ => true) true Tryz.f4.params.toList args.toList ds p := hA0
  rw [Tryz.params4] at hA hval hsz
  obtain ⟨v0, vs0, d0, ds0, p0, q0, hargs, rfl, rfl, h0, r0⟩ := trodAll_cons hA
  obtain ⟨v1, vs1, d1, ds1, p1, q1, rfl, rfl, rfl, h1, r1⟩ := trodAll_cons r0
  obtain ⟨rfl, rfl, rfl⟩ := trodAll_nil r1
  obtain rfl : args = #[v0, v1] := by cases args; simp_all
  obtain ⟨rfl, rfl⟩ := trodVars_none hV
  obtain ⟨a0, rfl, rfl, rfl, w0⟩ := open_int Tryz.underlying38 (hval 0 38 v0 rfl rfl) h0
  have k1 := h1
  have lt1 : ∀ x ∈ p1, x.block < W.heap.size := by obtain ⟨m, hm⟩ := k1; exact DataW.trod_lt m _ _ _ hm
  obtain ⟨a1, len1, cap1, rfl⟩ := okWide_slice Tryz.underlying39 (hval 1 39 v1 rfl rfl)
  obtain ⟨l1, rfl, L1, C1, G1⟩ := Go.Proofs.YtdooajmgfoobfaaGreatDoor.H.open_acts h1
  clear hA0 hval0 hsz0 hsz
  have h := Pure.ReelKeeps a0 l1 w0 G1
  refine (Go.Proofs.YtdooajmgfoobfaaGreatDoor.H.reelKeeps_row a0 a1 cap1 l1 true W C1 L1 h (Go.Proofs.YtdooajmgfoobfaaGreatDoor.H.ev_of (hp := by kernel_rfl) hL)).mono fun e W' ⟨he, bel⟩ => ?_
  subst he
  exact ⟨_, rfl, _, _, _, [], _, [], hW', trodAll_mk1 (shut_bool Tryz.underlying4 _), (trodAll_cons_mk (shut_int Tryz.underlying38 w0) (trodAll_cons_mk (Below.trod laidOut (by kernel_rfl) (of_decide_eq_true (by kernel_rfl)) k1 bel lt1) trodAll_mk0)), rfl, bel.frame _, fun h => by cases h⟩
theorem over : Rows.reelKeepsRow.holds Tryz.pinned (OpenSpec.ofChange Rows.reelKeepsSpec) :=
  OpenClaim.holds_of_wide 4 Tryz.f4 rfl rfl rfl rfl rfl rfl rfl ⟨rfl, rfl, rfl, rfl, rfl⟩ rfl rfl rfl rfl rfl (by kernel_rfl) Tryz.func4 (by kernel_rfl)
    (of_decide_eq_true (by kernel_rfl)) (by unfold Func.isWrapper; first | (rw [if_pos (by decide +kernel)]; kernel_rfl) | (rw [if_neg (by decide +kernel)]; exact ⟨rfl, rfl⟩))
    (fun os started H enc _ => lifted os started H enc)
theorem proved : Rows.ReelKeepsSaid := over
theorem card_holds : Rows.ReelKeepsCardSaid :=
  Claim7.holds_tied_plain_at .later [] Rows.reelKeepsCard.laidKinds true Rows.reelKeepsCard.stood.harness true
    proved (fun _ h => by cases h) (by kernel_rfl) (fun _ h => by cases h) reelKeeps_row_tie rfl ⟨rfl, rfl⟩ (by kernel_rfl) rfl
    (fun f fn hf hfn => by
      obtain rfl : f = 4 := Option.some.inj ((show Tryz.prog.funcNamed Rows.reelKeepsRow.func = some 4 by kernel_rfl).symm.trans hf) |>.symm
      obtain rfl : fn = Tryz.f4 := (Option.some.inj (Tryz.func4.symm.trans hfn)).symm
      refine ⟨by kernel_rfl, fun j t ht => ?_⟩
      have hall : Tryz.f4.params.toList.all (fun t => Tryz.prog.wantsStandIn t == false) = true := by kernel_rfl
      have hm : t ∈ Tryz.f4.params.toList := by
        have := Array.mem_of_getElem? ht
        exact Array.mem_toList_iff.2 this
      exact beq_iff_eq.1 (List.all_eq_true.1 hall t hm))
    (by kernel_rfl)
end Go.Proofs.YtdooajmgfoobfaaGreatDoor.reelKeeps
namespace Go.Proofs.YtdooajmgfoobfaaGreatDoor
/-- What is claimed, under a short name. -/
theorem reelKeeps_holds : Rows.ReelKeepsCardSaid := reelKeeps.card_holds
#print axioms reelKeeps_holds
end Go.Proofs.YtdooajmgfoobfaaGreatDoor
