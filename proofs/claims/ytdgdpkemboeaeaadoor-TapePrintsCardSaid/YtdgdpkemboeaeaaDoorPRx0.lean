/- A part of the proof: words, contracts and walks that the other texts of this folder use. -/
-- laid by wip/xprint.py (a program of this session) over the kit's print; Lean checks it
import Derived.Test.YtdgdpkemboeaeaaDoorProg
import Derived.Test.YtdgdpkemboeaeaaDoorWMore
import Derived.Below
import Derived.Deep.Draws
import Derived.Deep.AppendLies
import Derived.Maps.AppendAt
import Derived.OwnWalk
import Derived.Laws.BytesArg
import Derived.Laws.MakeOwn
import Derived.Laws.OwnMore
import Derived.Deep.OwnRows
import Derived.Tactics
import Derived.Lib.ConvBytes
import Derived.Laws.Slices
import Derived.WalkKit
import Derived.KernelRfl
import Derived.RowKit3
import Derived.Deep.LoopGhost
import Derived.Deep.QuietTactic
import Derived.BigQuiet
import Derived.WideLaws
import Derived.Deep.DeepCutAuto
import Derived.Deep.CutBlock
import Derived.Deep.RegionHeld3
import Derived.Laws.Rows
import Derived.Lib.AppendStr
import Derived.ArgAppend
import Derived.Laws.IdiomCopy
import Derived.OrdersHeld
import Derived.Laws.BitsLemmas
import Derived.RowKit
import Derived.Test.YtdgdpkemboeaeaaDoorPTx
import Derived.Test.YtdgdpkemboeaeaaDoorWWords
import Derived.Test.YtdgdpkemboeaeaaDoorWLast
import Derived.Test.YtdgdpkemboeaeaaDoorWTab
import Derived.Test.YtdgdpkemboeaeaaDoorWFour
import Derived.Test.YtdgdpkemboeaeaaDoorWQPut
import Derived.Test.YtdgdpkemboeaeaaDoorWApart
import Derived.Test.YtdgdpkemboeaeaaDoorWArr
import Derived.Test.YtdgdpkemboeaeaaDoorWZeros
import Derived.Test.YtdgdpkemboeaeaaDoorWFoot
import Derived.Test.YtdgdpkemboeaeaaDoorWKept
import Derived.Test.YtdgdpkemboeaeaaDoorWShare
import Derived.Test.YtdgdpkemboeaeaaDoorWN
import Derived.Test.YtdgdpkemboeaeaaDoorWFootNe
import Derived.Test.YtdgdpkemboeaeaaDoorWAt
import Derived.Test.YtdgdpkemboeaeaaDoorWEqStruct
import Derived.Test.YtdgdpkemboeaeaaDoorWRepsOne
import Derived.Test.YtdgdpkemboeaeaaDoorWInv
import Derived.Test.YtdgdpkemboeaeaaDoorWInvWords
import Derived.Test.YtdgdpkemboeaeaaDoorWGuard
import Derived.Test.YtdgdpkemboeaeaaDoorWNEv
namespace Go.Proofs.YtdgdpkemboeaeaaDoor.H
open Go.RowKit Go.Proofs.YtdgdpkemboeaeaaDoorW.PrintWords Go.Proofs.YtdgdpkemboeaeaaDoorW.PrintLast Go.Proofs.YtdgdpkemboeaeaaDoorW.PrintMore
set_option linter.unusedVariables false
set_option linter.unusedSimpArgs false
theorem empty_ne (l : List UInt8) : l.isEmpty = !(l != []) := by cases l <;> rfl
def wordL : List ByteArray := [⟨#[]⟩, ⟨#[98, 97, 116, 99, 104]⟩, ⟨#[115, 101, 110, 100]⟩, ⟨#[98, 101, 97, 116]⟩, ⟨#[100, 101, 108, 105, 118, 101, 114]⟩, ⟨#[108, 111, 115, 101]⟩, ⟨#[116, 119, 105, 99, 101]⟩, ⟨#[99, 108, 111, 99, 107]⟩, ⟨#[115, 116, 111, 112]⟩, ⟨#[102, 117, 115, 101]⟩, ⟨#[114, 101, 116, 97, 105, 110]⟩]
def wordOf (k : Int) : ByteArray := if k < 1 ∨ 10 < k then ⟨#[]⟩ else wordL.getD k.toNat ⟨#[]⟩
theorem word_index (k : Nat) (h : k < 11) (W : World) : (Instr.index 128 (.agg (wordL.map Value.string).toArray) (.int .i64 (k : Int))).run Tryd.prog W = .ok (.string (wordL.getD k ⟨#[]⟩)) W := by
  have hl : k < wordL.length := h
  have h1 : (0 ≤ (k : Int) ∧ (k : Int) < ((11 : Nat) : Int)) := by omega
  simp [Instr.index, run_underlying Tryd.underlying128, asIntOf, h1, go_sem, hl, h]
set_option maxRecDepth 100000 in
set_option maxHeartbeats 1000000 in
theorem word_calls (k : Int) (w : World) : Calls Tryd.prog 57 #[.int .i64 k] w fun e w' => e = .returned (.string (wordOf k)) ∧ Below w.heap.size w w' := by
  by_cases h1 : k < 1
  · have hr : wordOf k = ⟨#[]⟩ := by unfold wordOf; rw [if_pos (.inl h1)]
    rw [hr]
    clear hr
    go_enter Tryd.func57, Tryd.ntmps57
    go_wp2
    go_ret
    exact ⟨rfl, Below.refl _ _⟩
  · by_cases h2 : 10 < k
    · have hr : wordOf k = ⟨#[]⟩ := by unfold wordOf; rw [if_pos (.inr h2)]
      rw [hr]
      clear hr
      go_enter Tryd.func57, Tryd.ntmps57
      go_wp2
      go_ret
      exact ⟨rfl, Below.refl _ _⟩
    · have hk : k = 1 ∨ k = 2 ∨ k = 3 ∨ k = 4 ∨ k = 5 ∨ k = 6 ∨ k = 7 ∨ k = 8 ∨ k = 9 ∨ k = 10 := by omega
      clear h1 h2
      have hix := fun W => word_index k.toNat (by omega) W
      rw [show ((k.toNat : Nat) : Int) = k by omega] at hix
      simp only [wordL, List.map_cons, List.map_nil] at hix
      rcases hk with rfl | rfl | rfl | rfl | rfl | rfl | rfl | rfl | rfl | rfl
      all_goals
        simp only [Int.reduceToNat, List.getD_cons_succ, List.getD_cons_zero, Int.toNat_one] at hix
        go_enter Tryd.func57, Tryd.ntmps57
        go_wp2
        go_ret
        refine ⟨rfl, ?_⟩
        repeat (first | exact Below.refl _ _ | (refine Below.alloc ?_ ?_ _))
-- EXT tidemill/tidemillref26.word plain making
def tidemillref26_word.f (a0 : Int) : Option (ByteArray) := some (wordOf a0)
theorem tidemillref26_word.calls (a0 : Int) (r : ByteArray) (w : World) (h : tidemillref26_word.f a0 = some r) :
    Calls Tryd.prog 57 #[.int .i64 a0] w fun e w' => e = .returned (.string r) ∧ Below w.heap.size w w' := by
  obtain rfl := Option.some.inj h
  exact word_calls a0 w
end Go.Proofs.YtdgdpkemboeaeaaDoor.H
namespace Go.Proofs.YtdgdpkemboeaeaaDoor.PR
open Go.RowKit Go.Proofs.YtdgdpkemboeaeaaDoor.PT Go.Proofs.YtdgdpkemboeaeaaDoor.H Go.Proofs.YtdgdpkemboeaeaaDoorW.PrintWords Go.Proofs.YtdgdpkemboeaeaaDoorW.PrintLast Go.Proofs.YtdgdpkemboeaeaaDoorW.PrintMore
attribute [local go_sem] max2_int min2_int max_two min_two max_three min_three max_four min_four   -- for this text's walks alone
set_option linter.unusedVariables false
set_option linter.unusedSimpArgs false

theorem info9 : (Tryd.prog.info? 9).map (fun i => (i.zero, i.size, i.bytes)) = some (some (.string ⟨#[]⟩), 1, 16) := by kernel_rfl
-- the values' own types

end Go.Proofs.YtdgdpkemboeaeaaDoor.PR

