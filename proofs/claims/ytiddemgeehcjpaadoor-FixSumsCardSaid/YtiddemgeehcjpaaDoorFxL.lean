/- The laws of Fix: the document's examples; FixTexts, FixReads, FixAdds: each walks to 'true'. -/
import Derived.Test.YtiddemgeehcjpaaDoorFxE
import Derived.Outline
namespace Go.Proofs.YtiddemgeehcjpaaDoor.H
open Go.RowKit Go.Shelf Go.Proofs.YtiddemgeehcjpaaDoor.PA Go.Proofs.YtiddemgeehcjpaaDoorW.PrintWords Go.Proofs.YtiddemgeehcjpaaDoorW.PrintLast Go.Proofs.YtiddemgeehcjpaaDoorW.PrintMore
set_option linter.unusedVariables false

theorem ex_text1 : fixL 1500000 = [49, 46, 53] := by
  have e1 : Lib.decDigits 1 = [49] := dec_small (by decide)
  have e2 : trim0 (lastD 6 500000) = [53] := by decide
  unfold fixL fixM
  rw [if_neg (by decide), show (1500000 : Int).natAbs / 1000000 = 1 from rfl, show (1500000 : Int).natAbs % 1000000 = 500000 from rfl, e1, if_neg (by decide), e2]
  rfl
theorem ex_text2 : fixL (-1) = [45, 48, 46, 48, 48, 48, 48, 48, 49] := by
  have e1 : Lib.decDigits 0 = [48] := dec_small (by decide)
  have e2 : trim0 (lastD 6 1) = [48, 48, 48, 48, 48, 49] := by decide
  unfold fixL fixM
  rw [if_pos (by decide), show (-1 : Int).natAbs / 1000000 = 0 from rfl, show (-1 : Int).natAbs % 1000000 = 1 from rfl, e1, if_neg (by decide), e2]
  rfl
theorem ex_read : readL [48, 49, 46, 53, 48] = (1500000, 0) := by decide
set_option maxRecDepth 100000 in
set_option maxHeartbeats 1000000 in
theorem awake_calls (w : World) (htab : Tab w) : Calls Tryd.prog 12 #[] w fun e w' => e = .returned (.bool true) ∧ Below w.heap.size w w' := by
  have h1 := fun W => read_calls ⟨#[48, 49, 46, 53, 48]⟩ (by decide) W
  rw [show (ByteArray.mk #[48, 49, 46, 53, 48]).data.toList = [48, 49, 46, 53, 48] from rfl, ex_read] at h1
  have h2 := fun W (hW : Tab W) => text_calls 1500000 (by decide) (by decide) W hW
  have h3 := fun W (hW : Tab W) => text_calls (-1) (by decide) (by decide) W hW
  rw [ex_text1] at h2
  rw [ex_text2] at h3
  have HT := Lib.hid htab
  clear htab
  go_enter Tryd.func12, Tryd.ntmps12
  go_wp2_with fail
  go_at_call 14
  refine (h1 _).mono ?_
  rintro e w1 ⟨rfl, hb⟩
  have HB1 := Aside0.mk hb
  clear hb
  go_wp2_with fail
  go_at_call 13
  refine (h2 _ (tab_below HT.out HB1.out)).mono ?_
  rintro e w2 ⟨rfl, hb⟩
  have HB2 := Aside0.mk (HB1.out.trans (hb.mono HB1.out.size))
  clear hb
  go_wp2_with fail
  go_at_call 13
  refine (h3 _ (tab_below HT.out HB2.out)).mono ?_
  rintro e w3 ⟨rfl, hb⟩
  have HB3 := Aside0.mk (HB2.out.trans (hb.mono HB2.out.size))
  clear hb
  go_wp2
  go_ret
  exact ⟨rfl, HB3.out⟩

end Go.Proofs.YtiddemgeehcjpaaDoor.H
