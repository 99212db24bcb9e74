/- A row of bytes that is handed in. -/
import Derived.Test.YtpdppfihpnfblaaGreatBlO
import Derived.Test.YtpdppfihpnfblaaGreatRows
import Derived.ChangeAt
import Derived.ChangeAt2
import Derived.OpenShut
import Derived.ShutString
import Derived.ChangeOld
import Derived.ChangeSlices
namespace Go.Proofs.YtpdppfihpnfblaaGreat.H
open Go.RowKit Go.Shelf Go.ChangeShapes Go.WideShapes Go.ChangeAt Go.Proofs.YtpdppfihpnfblaaGreatW.PrintWords Go.Proofs.YtpdppfihpnfblaaGreatW.PrintLast Go.Proofs.YtpdppfihpnfblaaGreatW.PrintMore
set_option linter.unusedVariables false
/-- A slice of bytes that is handed in: what its reading tells. -/
theorem open_rowI {H : Type} {enc : TypeId × Value → H} {W : World} {base : Nat} {sp : Nat → Bool} {held : Bool} {a : Option Addr} {len cap : Nat} {y : DataW H × List MemPlace} (h : ∃ fuel, DataW.trod enc Tryz.prog W base sp held fuel 22 (Value.slice a len cap).cells.toList = some y) :
    ∃ l : List Int, len = l.length ∧ l.length ≤ cap ∧ (Kd.int .u8).C W a l.length l ∧ ∀ n ∈ l, 0 ≤ n ∧ n ≤ 255 := by
  obtain ⟨fuel, hf⟩ := h
  rcases open_ints Tryz.underlying22 Tryz.underlying5 (by kernel_rfl) hf with ⟨hcs, _⟩ | ⟨x, n, c, zs, hcs, _, hl, hm, hz, _, hcell, hwz⟩
  · simp [Value.cells] at hcs
    obtain ⟨rfl, rfl, rfl⟩ := hcs
    exact ⟨[], rfl, Nat.le_refl _, Kd.C_of_reads (d := 0) ⟨rfl, by simp, fun h => by simp at h⟩, by simp⟩
  · simp [Value.cells] at hcs
    obtain ⟨rfl, rfl, rfl⟩ := hcs
    have hzl : len ≤ zs.length := by rw [hz]; split <;> omega
    have hlen : (zs.take len).length = len := by rw [List.length_take]; omega
    unfold maxLen at hm
    refine ⟨zs.take len, hlen.symm, by omega, Kd.C_of_reads (d := 0) ⟨rfl, by omega, fun h => ⟨x, rfl, fun j hj => ?_⟩⟩, fun n hn => ?_⟩
    · rw [hcell j (by omega), List.getD_eq_getElem?_getD, List.getD_eq_getElem?_getD, List.getElem?_take, if_pos (by omega)]
    · have := hwz n (List.mem_of_mem_take hn)
      simp only [Lit.wf, Bool.and_eq_true, decide_eq_true_eq] at this
      exact this
theorem baleReads_row (A : Option Addr) (c : Nat) (l : List Int) (r : Bool) (w : World) (hC : Kd.C (Kd.int .u8) w A l.length l) (hc : l.length ≤ c) (h : r = true ∧ ∀ x ∈ l, 0 ≤ x ∧ x ≤ 255) : Calls Tryz.prog 3 #[.slice A l.length c] w fun e w' => e = .returned (.bool r) ∧ Below w.heap.size w w' := by
  obtain ⟨rfl, hu⟩ := h
  exact bale_calls A c l w hC hc hu
end Go.Proofs.YtpdppfihpnfblaaGreat.H
