/- Plain words on strings and loops, for the laws: no program in sight (but for the print's words). -/
import Derived.Test.YtdgdpkemboeaeaaDoorWMore
import Derived.Lib.IndexLaws
namespace Go.Proofs.YtdgdpkemboeaeaaDoor.H
open Go.RowKit Go.Proofs.YtdgdpkemboeaeaaDoorW.PrintWords Go.Proofs.YtdgdpkemboeaeaaDoorW.PrintLast Go.Proofs.YtdgdpkemboeaeaaDoorW.PrintMore
set_option linter.unusedVariables false

theorem wrap_in {n : Int} (h1 : -9223372036854775808 ≤ n) (h2 : n ≤ 9223372036854775807) : wrap64 n = n := by unfold wrap64; omega
theorem wrap_succ {i : Int} {n : Nat} (h0 : 0 ≤ i) (h : i < (n : Int)) (hn : n ≤ 9223372036854775807) : wrap64 (i + 1) = i + 1 := wrap_in (by omega) (by omega)

theorem len_of (s : ByteArray) : s.data.toList.length = s.size := by simp
theorem ixb_mem (l : List UInt8) (c : UInt8) : 0 ≤ Lib.indexByte l c ↔ c ∈ l := by
  constructor
  · intro h
    obtain ⟨i, hi⟩ := Int.eq_ofNat_of_zero_le h
    exact List.mem_of_getElem? (Lib.indexByte_some hi).1
  · intro h
    have hge := Lib.indexByte_ge l c
    by_cases h1 : Lib.indexByte l c = -1
    · obtain ⟨k, hk⟩ := List.mem_iff_getElem?.1 h
      exact absurd hk (Lib.indexByte_none h1 k)
    · omega
end Go.Proofs.YtdgdpkemboeaeaaDoor.H
