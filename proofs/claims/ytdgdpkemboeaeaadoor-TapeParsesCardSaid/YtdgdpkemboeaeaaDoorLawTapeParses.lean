/- The row and the tied card of TapeParses: it returns true whatever the input; the input reads as it did. -/
import Derived.Test.YtdgdpkemboeaeaaDoorRows
import Derived.Test.YtdgdpkemboeaeaaDoorTpRp
import Derived.WalkKit
import Derived.ProofKit
import Derived.OpenShut
import Derived.ShutString
import Derived.ChangeOld
import Derived.Below
import Derived.SizedLaws
import Derived.Carry
import Derived.ChangeSlices
import Derived.SliceStrings
import Derived.LaidMore
import Derived.Lay
import Derived.Stop.Joined
import Derived.SevenTiedAt
import Derived.Test.YtdgdpkemboeaeaaDoorTie
import Derived.Test.YtdgdpkemboeaeaaDoorCards
namespace Go.Proofs.YtdgdpkemboeaeaaDoor.tapeParses
open Go.ChangeShapes Go.WideShapes Go.ChangeAt Go.RowKit
open Go.ChangeMaps (open_string shut_string)
set_option linter.unusedVariables false
theorem own : ownKnob Tryd.prog.godebug = none := by kernel_rfl
theorem laidOut : laidOutB Tryd.prog = true := by kernel_rfl
set_option maxRecDepth 100000 in
theorem lifted (os : Os) (started : os.Started) (H : Type) (enc : TypeId × Value → H) :
    ReturnsInHanded {} Tryd.checked os 11 .any (fun w args => (Rows.tapeParsesSpec.pre enc Tryd.prog Tryd.f11 Rows.tapeParsesRow.domain false w args ∧ laidMetH Tryd.prog Rows.tapeParsesRow.laid w) ∧ sizedMet enc Tryd.prog Tryd.f11 (OpenSpec.ofChange Rows.tapeParsesSpec) false w args) (Rows.tapeParsesSpec.post enc Tryd.prog Tryd.f11 false true false false) := by
  refine returnsInHanded_of_change_and (C := Tryd.checked) (X := fun w _ => laidMetH Tryd.prog Rows.tapeParsesRow.laid w) (fun _ _ _ hh h => h.of_heap hh) own started (by kernel_rfl) Tryd.func11
    (ChangeSpec.witness_shaped (enc := enc) (C := Tryd.checked) (os := os) (X := fun w _ => laidMetH Tryd.prog Rows.tapeParsesRow.laid w) false (World.laidAll Tryd.prog os Rows.tapeParsesRow.laid) #[.string ByteArray.empty] 8 (World.laidAll_os _ _ _)
      (World.shaped_of_ZipB (by kernel_rfl) (by kernel_rfl)) (by kernel_rfl) (by kernel_rfl) (by kernel_rfl)
      (by rw [MakeChecks.laidMetH_plain _ _ _ (by kernel_rfl)]; exact laidMet_laidAll _ (by kernel_rfl) (by kernel_rfl))) ?_
  intro W base args ds gs before hval0 hW hcnd hsz0 hL _
  have hsz : (DataW.weightsEach Tryd.prog (Tryd.f11.params.toList ++ Rows.tapeParsesSpec.plain.varTypes Tryd.prog) (ds ++ gs)).all (· ≤ reachBytes) = true := hsz0
  have hval : ∀ (j : Nat) t v, Tryd.f11.params[j]? = some t → args[j]? = some v → Value.okWide Tryd.prog W .any base t v := hval0
  have hW' := hW
  obtain ⟨p, q, hA0, hV, rfl, hfz, hnd⟩ := hW
  have hA : DataW.TrodAll enc Tryd.prog W 0 (fun _ => true) true Tryd.f11.params.toList args.toList ds p := hA0
  rw [Tryd.params11] at hA hval hsz
  obtain ⟨v0, vs0, d0, ds0, p0, q0, hargs, rfl, rfl, h0, r0⟩ := trodAll_cons hA
  obtain ⟨rfl, rfl, rfl⟩ := trodAll_nil r0
  obtain rfl : args = #[v0] := by cases args; simp_all
  obtain ⟨rfl, rfl⟩ := trodVars_none hV
  obtain ⟨a0, rfl, rfl, rfl, y0⟩ := open_string Tryd.underlying9 (hval 0 9 v0 rfl rfl) h0
  have w0 : a0.size ≤ 140737488351232 := by
    have z := sized_string hsz (j := 0) (t := 9) rfl rfl
    rw [Array.length_toList] at z
    exact z
  clear hA0 hval0 hsz0 hsz
  have h := Pure.TapeParses a0 w0
  refine (Go.Proofs.YtdgdpkemboeaeaaDoor.H.tapeParses_row a0 true W  h (Go.Proofs.YtdgdpkemboeaeaaDoor.H.env_of (hp := by kernel_rfl) hL)).mono fun e W' ⟨he, bel⟩ => ?_
  subst he
  exact ⟨_, rfl, _, _, _, [], _, [], hW', trodAll_mk1 (shut_bool Tryd.underlying4 _), (trodAll_cons_mk (shut_string Tryd.underlying9 y0) trodAll_mk0), rfl, bel.frame _, fun h => by cases h⟩
theorem over : Rows.tapeParsesRow.holds Tryd.pinned (OpenSpec.ofChange Rows.tapeParsesSpec) :=
  OpenClaim.holds_of_wide 11 Tryd.f11 rfl rfl rfl rfl rfl rfl rfl ⟨rfl, rfl, rfl, rfl, rfl⟩ rfl rfl rfl rfl rfl (by kernel_rfl) Tryd.func11 (by kernel_rfl)
    (of_decide_eq_true (by kernel_rfl)) (by unfold Func.isWrapper; first | (rw [if_pos (by decide +kernel)]; kernel_rfl) | (rw [if_neg (by decide +kernel)]; exact ⟨rfl, rfl⟩))
    (fun os started H enc _ => lifted os started H enc)
theorem proved : Rows.TapeParsesSaid := over
theorem card_holds : Rows.TapeParsesCardSaid :=
  Claim7.holds_tied_plain_at .later [] Rows.tapeParsesCard.laidKinds true Rows.tapeParsesCard.stood.harness true
    proved (fun _ h => by cases h) (by kernel_rfl) (fun _ h => by cases h) tapeParses_row_tie rfl ⟨rfl, rfl⟩ (by kernel_rfl) rfl
    (fun f fn hf hfn => by
      obtain rfl : f = 11 := Option.some.inj ((show Tryd.prog.funcNamed Rows.tapeParsesRow.func = some 11 by kernel_rfl).symm.trans hf) |>.symm
      obtain rfl : fn = Tryd.f11 := (Option.some.inj (Tryd.func11.symm.trans hfn)).symm
      refine ⟨by kernel_rfl, fun j t ht => ?_⟩
      have hall : Tryd.f11.params.toList.all (fun t => Tryd.prog.wantsStandIn t == false) = true := by kernel_rfl
      have hm : t ∈ Tryd.f11.params.toList := by
        have := Array.mem_of_getElem? ht
        exact Array.mem_toList_iff.2 this
      exact beq_iff_eq.1 (List.all_eq_true.1 hall t hm))
    (by kernel_rfl)
end Go.Proofs.YtdgdpkemboeaeaaDoor.tapeParses
namespace Go.Proofs.YtdgdpkemboeaeaaDoor
/-- What is claimed, under a short name. -/
theorem tapeParses_holds : Rows.TapeParsesCardSaid := tapeParses.card_holds
#print axioms tapeParses_holds
end Go.Proofs.YtdgdpkemboeaeaaDoor
