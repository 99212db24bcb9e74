/- fix.Text at every number: the library's FormatUint, by the shelf's contracts; the walk. -/
import Derived.Test.YtiddemgeehcjpaaDoorShelf
import Derived.Test.YtiddemgeehcjpaaDoorFxP
import Derived.Lib.AppendIntMem
import Derived.Lib.SmallJoins
import Derived.Lib.ItoaMem
import Derived.Lib.Walk
import Derived.WalkKit
import Derived.KernelRfl
import Derived.BigCall
import Derived.BigGuard
import Derived.Outline
namespace Go.Proofs.YtiddemgeehcjpaaDoor.H
open Go.RowKit Go.Shelf Go.Sort
set_option linter.unusedVariables false

/-- The table of powers of ten, as the program's initialiser lays it. -/
abbrev Tab (w : World) : Prop := Lib.TabIs Tryd.prog w "internal/strconv.uint64pow10" .u64 Lib.pow10Tab
theorem gTab : Tryd.prog.globalNamed "internal/strconv.uint64pow10" = some 1 := by kernel_rfl
theorem tab_below {w w' : World} (h : Tab w) (hb : Below w.heap.size w w') : Tab w' := Go.Joins.tab_stays gTab h hb (Nat.le_refl _)

theorem holds_zero0 (w : World) (T : TypeId) (nd : Nat) (hs : nd ≤ 24) : Holds (fun (b : UInt8) => Value.int .u8 (b.toNat : Int)) (w.alloc (.cells Lib.zeros24 T)) w.heap.size 0 (Array.replicate nd (0 : UInt8)) := fun j hj => by
  have hj' : j < nd := by simpa using hj
  refine ⟨?_, World.frozen?_alloc_new _ _ _ _⟩
  rw [World.cell?_alloc_new, Lib.zeros24_at _ (by omega), getElem!_pos _ j hj]
  simp
theorem fin_below (w : World) (o : Obj) (dk : Array UInt8) (k : Nat) : Below w.heap.size w ((putRow (fun (b : UInt8) => Value.int .u8 (b.toNat : Int)) (w.alloc o) w.heap.size 0 dk).drewN k) := by
  rw [alloc_eq_grow]
  obtain ⟨os', _, e⟩ := putRow_grow_new (fun (b : UInt8) => Value.int .u8 (b.toNat : Int)) w #[o] w.heap.size 0 dk (Nat.le_refl _)
  rw [e]
  exact Lib.below_grow _ w (Nat.le_refl _) k os'

set_option maxHeartbeats 1600000 in
set_option maxRecDepth 100000 in
theorem fmtUi_calls (u : Nat) (hu64 : u < 18446744073709551616) (w : World) (htab : Tab w) :
    Calls Tryd.prog 73 #[.int .u64 (u : Int), .int .i64 10] w fun e w' => e = .returned (.string ⟨(Lib.decDigits u).toArray⟩) ∧ Below w.heap.size w w' := by
  by_cases hs : u < 100
  · have hsm := fun W => Tryd.internal_strconv_small u hs W
    go_enter Tryd.func73, Tryd.ntmps73
    go_wp2_with (go_at_call 98; refine (hsm _).mono ?_; rintro e w' ⟨rfl, rfl⟩)
    go_ret
    exact ⟨rfl, Below.refl _ _⟩
  · have hu1 : 1 ≤ u := by omega
    have hnd20 : Lib.nDigits u ≤ 20 := by have := Lib.numDigits_eq u hu1 hu64; split at this <;> omega
    have hb3 : Lib.nDigits u ≤ 24 := by omega
    have hal : Tryd.prog.arrayLen 132 = 24 := by simp [Program.arrayLen, Tryd.underlying132]
    have hsl1 : ∀ W, (Instr.sliceAt 132 (.pointer (some ⟨w.heap.size, 0, none⟩)) none (some (.int .i64 (Lib.nDigits u : Int))) none).run Tryd.prog W = .ok (.slice (some ⟨w.heap.size, 0, none⟩) (Lib.nDigits u) 24) W := fun W => by
      rw [run_sliceAt_array_h W 132 ⟨w.heap.size, 0, none⟩ (by simp [Program.arrayLen, Program.elem, Tryd.underlying132]) .i64 (Lib.nDigits u : Int) (by omega) (by rw [hal]; omega)]
      go_simp
    have hH0 := holds_zero0 w 132 (Lib.nDigits u) (by omega)
    have hfmt := Tryd.internal_strconv_formatBase10 w.heap.size 0 24 u (Array.replicate (Lib.nDigits u) 0) (w.alloc (.cells Lib.zeros24 132)) hH0 (by rw [Array.size_replicate]; exact Lib.lt_pow_nDigits u) hu64 (by rw [Array.size_replicate]; omega)
    rw [Array.size_replicate] at hfmt
    have hnum := Tryd.internal_strconv_numDigits u hu1 hu64 _ (Lib.tabIs_alloc htab (.cells Lib.zeros24 132))
    have HH0 := Lib.hid hH0
    clear hH0 hal
    go_enter Tryd.func73, Tryd.ntmps73
    go_wp2_with (go_at_call 99; refine hnum.mono ?_; rintro e w' ⟨rfl, rfl⟩)
    go_at_call 100
    refine hfmt.mono ?_
    rintro e w' ⟨rfl, k, v', dk, rfl, hF⟩
    have hcv : (convert 89 9 (.slice (some ⟨w.heap.size, 0, none⟩) (Lib.nDigits u) 24)).run Tryd.prog ((putRow (fun (b : UInt8) => Value.int .u8 (b.toNat : Int)) (w.alloc (.cells Lib.zeros24 132)) w.heap.size 0 dk).drewN k) = .ok (.string ⟨(Lib.decDigits u).toArray⟩) ((putRow (fun (b : UInt8) => Value.int .u8 (b.toNat : Int)) (w.alloc (.cells Lib.zeros24 132)) w.heap.size 0 dk).drewN k) := by
      have h := run_convert_bytes_back (P := Tryd.prog) ((putRow (fun (b : UInt8) => Value.int .u8 (b.toNat : Int)) (w.alloc (.cells Lib.zeros24 132)) w.heap.size 0 dk).drewN k) 89 9 5 ⟨w.heap.size, 0, none⟩ 24 (Lib.decDigits u) Tryd.underlying89 Tryd.underlying5 Tryd.underlying9 (fun j hj => by
        rw [Lib.row_is_numeral hF j hj, Lib.add_plain, World.cell?_drewN]
        exact cell?_putRow (fun (b : UInt8) => Value.int .u8 (b.toNat : Int)) _ w.heap.size 0 _ dk HH0.out (by rw [hF.size, Array.size_replicate]) j (by rw [hF.size]; rw [Lib.decDigits_length] at hj; exact hj))
      rw [Lib.decDigits_length] at h
      exact h
    go_wp2
    go_ret
    exact ⟨rfl, fin_below w _ dk k⟩

set_option maxRecDepth 100000 in
theorem fmtU_calls (u : Nat) (hu64 : u < 18446744073709551616) (w : World) (htab : Tab w) :
    Calls Tryd.prog 42 #[.int .u64 (u : Int), .int .i64 10] w fun e w' => e = .returned (.string ⟨(Lib.decDigits u).toArray⟩) ∧ Below w.heap.size w w' := by
  have hc := fmtUi_calls u hu64 w htab
  go_enter Tryd.func42, Tryd.ntmps42
  go_wp2_with (go_at_call 73; refine hc.mono ?_; rintro e w' ⟨rfl, hb⟩)
  go_ret
  exact ⟨rfl, hb⟩

theorem str_app (a b : List UInt8) : (⟨a.toArray⟩ : ByteArray) ++ ⟨b.toArray⟩ = ⟨(a ++ b).toArray⟩ := by
  apply ByteArray.ext
  simp [ByteArray.data_append]
theorem str_drop1 (l : List UInt8) : (⟨l.toArray⟩ : ByteArray).extract 1 l.length = ⟨(l.drop 1).toArray⟩ := by
  rw [Lib.extract_mk, List.take_of_length_le (by simp)]
set_option maxHeartbeats 1600000 in
set_option maxRecDepth 100000 in
theorem text_calls (n : Int) (h0 : -9223372036854775808 ≤ n) (h1 : n ≤ 9223372036854775807) (w : World) (htab : Tab w) :
    Calls Tryd.prog 13 #[.int .i64 n] w fun e w' => e = .returned (.string ⟨(fixL n).toArray⟩) ∧ Below w.heap.size w w' := by
  obtain ⟨u, hu⟩ : ∃ u : Nat, n.natAbs = u := ⟨_, rfl⟩
  have hu64 : u ≤ 9223372036854775808 := by omega
  have hq : u / 1000000 < 18446744073709551616 := by omega
  have hqd : ((u : Int) / 1000000) = ((u / 1000000 : Nat) : Int) := by omega
  have hrd : ((u : Int) % 1000000) = ((u % 1000000 : Nat) : Int) := by omega
  have hl1 : (Lib.decDigits (u / 1000000)).length ≤ 20 := by
    rw [Lib.decDigits_length]
    by_cases h0 : u / 1000000 = 0
    · rw [h0, Lib.nDigits_small (by decide)]; decide
    · have := Lib.numDigits_eq (u / 1000000) (by omega) (by omega); split at this <;> omega
  have hc1 := fun W (hW : Tab W) => fmtU_calls (u / 1000000) hq W hW
  have hc2 := fun W (hW : Tab W) => fmtU_calls (1000000 + u % 1000000) (by omega) W hW
  have hr6 := dec_million (u % 1000000) (by omega)
  have hl7 : (Lib.decDigits (1000000 + u % 1000000)).length = 7 := by
    have h := dec_one_more 6 (u % 1000000) (by have : (10 : Nat) ^ 6 = 1000000 := by decide
                                               omega)
    rw [show (10 : Nat) ^ 6 = 1000000 by decide] at h
    rw [h, List.length_cons, lastD_len]
  have hf6 := (trim0_split 6 _ (lastD_len 6 (u % 1000000))).2
  have hfix : fixL n = (if n < 0 then [45] else []) ++ (Lib.decDigits (u / 1000000) ++ (if u % 1000000 = 0 then [] else 46 :: trim0 (lastD 6 (u % 1000000)))) := by unfold fixL fixM; rw [hu]
  obtain ⟨A, hA⟩ : ∃ A, Lib.decDigits (u / 1000000) = A := ⟨_, rfl⟩
  obtain ⟨D, hD⟩ : ∃ D, Lib.decDigits (1000000 + u % 1000000) = D := ⟨_, rfl⟩
  obtain ⟨F, hF⟩ : ∃ F, trim0 (lastD 6 (u % 1000000)) = F := ⟨_, rfl⟩
  rw [hA] at hc1 hl1 hfix
  rw [hD] at hc2 hl7 hr6
  rw [hF] at hf6 hfix
  have htr : ∀ W, Calls Tryd.prog 43 #[.string ⟨(D.drop 1).toArray⟩, .string ⟨#[48]⟩] W fun e w' => e = .returned (.string ⟨F.toArray⟩) ∧ w' = W := by
    intro W
    have h := Tryd.strings_TrimRight_one ⟨(D.drop 1).toArray⟩ 48 (by decide) W (by rw [Lib.size_mk, List.length_drop]; omega)
    have e : Lib.trimRightB (⟨(D.drop 1).toArray⟩ : ByteArray).data.toList 48 = F := by rw [← hF, ← hr6]
    rw [e] at h
    exact h
  obtain ⟨sA, eA⟩ : ∃ x : ByteArray, (⟨A.toArray⟩ : ByteArray) = x := ⟨_, rfl⟩
  obtain ⟨sD, eD⟩ : ∃ x : ByteArray, (⟨D.toArray⟩ : ByteArray) = x := ⟨_, rfl⟩
  obtain ⟨sF, eF⟩ : ∃ x : ByteArray, (⟨F.toArray⟩ : ByteArray) = x := ⟨_, rfl⟩
  obtain ⟨sE, eE⟩ : ∃ x : ByteArray, (⟨(D.drop 1).toArray⟩ : ByteArray) = x := ⟨_, rfl⟩
  have hsA : sA.size ≤ 20 := by rw [← eA, Lib.size_mk]; exact hl1
  have hsD : sD.size = 7 := by rw [← eD, Lib.size_mk]; exact hl7
  have hsF : sF.size ≤ 6 := by rw [← eF, Lib.size_mk]; exact hf6
  have hex : sD.extract 1 7 = sE := by rw [← eD, ← hl7, ← eE]; exact str_drop1 D
  have HR := Lib.hid (And.intro eA.symm eF.symm)
  rw [eA] at hc1
  rw [eD] at hc2
  rw [eE, eF] at htr
  rw [hfix]
  have HT := Lib.hid htab
  rw [← hqd] at hc1
  rw [show ((1000000 + u % 1000000 : Nat) : Int) = 1000000 + (u : Int) % 1000000 by omega] at hc2
  clear hfix hD hA hF hr6 hl7 htab hqd hrd eA eD eF eE hl1 hf6
  by_cases hneg : n < 0
  · obtain rfl : n = -(u : Int) := by omega
    have hwr : IntKind.u64.wrap (-IntKind.u64.wrap (-(u : Int))) = (u : Int) := by rw [IntKind.wrap_u64, IntKind.wrap_u64]; omega
    rw [if_pos hneg]
    by_cases hr : u % 1000000 = 0
    · rw [if_pos hr]
      have hr' : (u : Int) % 1000000 = 0 := by omega
      go_enter Tryd.func13, Tryd.ntmps13
      go_wp2_with (go_at_call 42; refine (hc1 _ HT.out).mono ?_; rintro e w1 ⟨rfl, hb1⟩)
      go_ret
      refine ⟨?_, hb1⟩
      rw [HR.out.1]; simp <;> (apply ByteArray.ext; simp [ByteArray.data_append])
    · rw [if_neg hr]
      have hr' : ¬ (u : Int) % 1000000 = 0 := by omega
      go_enter Tryd.func13, Tryd.ntmps13
      go_wp2_with fail
      go_at_call 42
      refine (hc1 _ HT.out).mono ?_
      rintro e w1 ⟨rfl, hb1⟩
      have HB1 := Lib.hid hb1
      have HT1 := Lib.hid (tab_below HT.out hb1)
      clear hb1
      go_wp2_with fail
      go_at_call 42
      refine (hc2 _ HT1.out).mono ?_
      rintro e w2 ⟨rfl, hb2⟩
      have HB2 := Lib.hid (HB1.out.trans (hb2.mono HB1.out.size))
      clear hb2
      go_wp2_with fail
      go_at_call 43
      refine (htr _).mono ?_
      rintro e w3 ⟨rfl, rfl⟩
      go_wp2
      go_ret
      refine ⟨?_, HB2.out⟩
      rw [HR.out.1, HR.out.2]; simp <;> (apply ByteArray.ext; simp [ByteArray.data_append])
  · obtain rfl : n = (u : Int) := by omega
    have hwr : IntKind.u64.wrap (u : Int) = (u : Int) := by rw [IntKind.wrap_u64]; omega
    rw [if_neg hneg]
    by_cases hr : u % 1000000 = 0
    · rw [if_pos hr]
      have hr' : (u : Int) % 1000000 = 0 := by omega
      go_enter Tryd.func13, Tryd.ntmps13
      go_wp2_with (go_at_call 42; refine (hc1 _ HT.out).mono ?_; rintro e w1 ⟨rfl, hb1⟩)
      go_ret
      refine ⟨?_, hb1⟩
      rw [HR.out.1]; simp <;> (apply ByteArray.ext; simp [ByteArray.data_append])
    · rw [if_neg hr]
      have hr' : ¬ (u : Int) % 1000000 = 0 := by omega
      go_enter Tryd.func13, Tryd.ntmps13
      go_wp2_with fail
      go_at_call 42
      refine (hc1 _ HT.out).mono ?_
      rintro e w1 ⟨rfl, hb1⟩
      have HB1 := Lib.hid hb1
      have HT1 := Lib.hid (tab_below HT.out hb1)
      clear hb1
      go_wp2_with fail
      go_at_call 42
      refine (hc2 _ HT1.out).mono ?_
      rintro e w2 ⟨rfl, hb2⟩
      have HB2 := Lib.hid (HB1.out.trans (hb2.mono HB1.out.size))
      clear hb2
      go_wp2_with fail
      go_at_call 43
      refine (htr _).mono ?_
      rintro e w3 ⟨rfl, rfl⟩
      go_wp2
      go_ret
      refine ⟨?_, HB2.out⟩
      rw [HR.out.1, HR.out.2]; simp <;> (apply ByteArray.ext; simp [ByteArray.data_append])
end Go.Proofs.YtiddemgeehcjpaaDoor.H
