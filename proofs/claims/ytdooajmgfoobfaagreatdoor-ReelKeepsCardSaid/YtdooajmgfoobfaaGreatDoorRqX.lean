/- Words that the laws' walks share. -/
import Derived.Test.YtdooajmgfoobfaaGreatDoorRqF
namespace Go.Proofs.YtdooajmgfoobfaaGreatDoor.H
open Go.RowKit Go.Shelf Go.Proofs.YtdooajmgfoobfaaGreatDoor.PA Go.Proofs.YtdooajmgfoobfaaGreatDoorW.PrintWords Go.Proofs.YtdooajmgfoobfaaGreatDoorW.PrintLast Go.Proofs.YtdooajmgfoobfaaGreatDoorW.PrintMore
set_option linter.unusedVariables false
set_option linter.unusedSimpArgs false
section
variable {lo g s base base' : Nat} {W W' : World} {v u : Value} {xs : List ByteArray} {ok ok' : Nat → Prop}
theorem lit_s0 (W : World) (base : Nat) (hb : base ≤ W.heap.size) : Kd.R Kd.string 9 (W.alloc (.cells #[] 9)) base (fun _ => True) (.slice (some ⟨W.heap.size, 0, none⟩) 0 0) [] :=
  Kd.R_of_own (by simpa [encs] using own_lit_of (enc := Value.string) W base 9 [] hb (by simp)) (fun _ _ => trivial)
theorem fuse_val (f n k : Int) (h0 : 0 < n) (h1 : n ≤ 1000) (h2 : n - 1 ≤ k) : 0 ≤ wrap64 ((IntKind.u64.wrap f).tmod n) ∧ wrap64 ((IntKind.u64.wrap f).tmod n) ≤ k := by
  have h3 : 0 ≤ IntKind.u64.wrap f := by
    have := IntKind.wrap_u64 f
    omega
  rw [Int.tmod_eq_emod_of_nonneg h3]
  have h4 := Int.emod_nonneg (IntKind.u64.wrap f) (show n ≠ 0 by omega)
  have h5 := Int.emod_lt_of_pos (IntKind.u64.wrap f) h0
  rw [wrap_in (by omega) (by omega)]
  omega
end
end Go.Proofs.YtdooajmgfoobfaaGreatDoor.H
