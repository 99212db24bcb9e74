/- strconv.ParseUint at base 16 and 8 bits, of at most two bytes. (Its walk is turned from the shelf's own at base 10.) -/
import Derived.Test.YtdgdpkemboeaeaaDoorProg
import Derived.Test.YtdgdpkemboeaeaaDoorWMore
import Derived.Lib.Strings
import Derived.Lib.Walk
import Derived.Lib.ConvBytes
import Derived.Lib.AtoiAllMem
import Derived.Lib.Hide
import Derived.Laws.Strings3
import Derived.Laws.Closers25
import Derived.Laws.Closers25b
import Derived.WalkKit
import Derived.BigCall
import Derived.BigGuard
namespace Go.Proofs.YtdgdpkemboeaeaaDoor.H
open Go.RowKit Go.Proofs.YtdgdpkemboeaeaaDoorW.PrintWords Go.Proofs.YtdgdpkemboeaeaaDoorW.PrintLast Go.Proofs.YtdgdpkemboeaeaaDoorW.PrintMore
set_option linter.unusedVariables false
set_option linter.unusedSimpArgs false
/-- A hexadecimal digit's value. -/
def hexv (c : UInt8) : Option Nat := if 48 ≤ c.toNat ∧ c.toNat ≤ 57 then some (c.toNat - 48) else if 97 ≤ c.toNat ∧ c.toNat ≤ 102 then some (c.toNat - 87) else if 65 ≤ c.toNat ∧ c.toNat ≤ 70 then some (c.toNat - 55) else none
def hexN (acc : Nat) : List UInt8 → Option Nat
  | [] => some acc
  | c :: r => match hexv c with
    | none => none
    | some d => hexN (acc * 16 + d) r
def hexP (l : List UInt8) : Option Nat := if l = [] then none else hexN 0 l
def hexT : Option Nat → Value
  | some n => .tuple #[.int .u64 n, .nilIface]
  | none => .tuple #[.int .u64 0, .iface 141 (.int .i64 2)]
def lowT (n : Nat) : Bool := match hexv (UInt8.ofNat n) with
  | some d => decide (bits BinOp.or .u8 (n : Int) 32 = ((87 + d : Nat) : Int)) && decide (10 ≤ d) && decide (d < 16)
  | none => decide (bits BinOp.or .u8 (n : Int) 32 < 97) || decide (102 < bits BinOp.or .u8 (n : Int) 32)
theorem low_tab : ∀ n : Fin 256, (48 ≤ n.1 ∧ n.1 ≤ 57) ∨ lowT n.1 = true := by decide +kernel
theorem low_some {c : UInt8} {d : Nat} (h : hexv c = some d) (hd : ¬ (48 ≤ c.toNat ∧ c.toNat ≤ 57)) : bits BinOp.or .u8 (c.toNat : Int) 32 = ((87 + d : Nat) : Int) ∧ 10 ≤ d ∧ d < 16 := by
  have := (low_tab ⟨c.toNat, c.toNat_lt⟩).resolve_left hd
  unfold lowT at this
  simp only [UInt8.ofNat_toNat, h, Bool.and_eq_true, decide_eq_true_eq] at this
  exact ⟨this.1.1, this.1.2, this.2⟩
theorem low_none {c : UInt8} (h : hexv c = none) (hd : ¬ (48 ≤ c.toNat ∧ c.toNat ≤ 57)) : bits BinOp.or .u8 (c.toNat : Int) 32 < 97 ∨ 102 < bits BinOp.or .u8 (c.toNat : Int) 32 := by
  have := (low_tab ⟨c.toNat, c.toNat_lt⟩).resolve_left hd
  unfold lowT at this
  simp only [UInt8.ofNat_toNat, h, Bool.or_eq_true, decide_eq_true_eq] at this
  exact this
theorem lower_calls (c : Int) (w : World) : Calls Tryd.prog 117 #[.int .u8 c] w fun e w' => e = .returned (.int .u8 (bits BinOp.or .u8 c 32)) ∧ w' = w := by
  go_enter Tryd.func117, Tryd.ntmps117
  go_wp2
  go_ret
  exact ⟨rfl, rfl⟩
set_option maxRecDepth 100000 in
theorem parse_empty (w : World) : Calls Tryd.prog 94 #[.string ⟨#[]⟩, .int .i64 16, .int .i64 8] w fun e w' => e = .returned (hexT none) ∧ w' = w := by
  go_enter Tryd.func94, Tryd.ntmps94
  go_wp2
  go_ret2
  exact ⟨rfl, rfl⟩
set_option maxHeartbeats 32000000 in
set_option maxRecDepth 100000 in
theorem parse_some (t : ByteArray) (hne : t.size ≠ 0) (hmax : t.size ≤ 2) (w : World) :
    Calls Tryd.prog 94 #[.string t, .int .i64 16, .int .i64 8] w fun e w' => e = .returned (hexT (hexN 0 t.data.toList)) ∧ w' = Lib.bytesWorld w 5 t := by
  have hemp : t.toList.isEmpty = false := by
    rw [← decide_eq_emptyBytes]
    exact decide_eq_false (fun h => hne (by rw [h]; rfl))
  have hcv := Lib.run_convert_string_bytes (P := Tryd.prog) w 9 89 5 t (u := .string) Tryd.underlying9 Tryd.underlying89 Tryd.underlying5
  have hB : ∀ j, j < t.size → (Lib.bytesWorld w 5 t).cell? ⟨w.heap.size, j, none⟩ = some (.int .u8 (t.data.toList.getD j 0).toNat) := fun j hj => Lib.bytesWorld_cell w 5 t j hj
  obtain ⟨W1, hW1⟩ : ∃ W1, W1 = Lib.bytesWorld w 5 t := ⟨_, rfl⟩
  rw [← hW1] at hcv hB ⊢
  clear hW1
  obtain ⟨bs, hL⟩ : ∃ bs, bs = t.data.toList := ⟨_, rfl⟩
  have hLn : bs.length = t.size := by rw [hL, Lib.size_eq]
  rw [← hL] at hB ⊢
  clear hL
  go_enter Tryd.func94, Tryd.ntmps94
  go_wp2
  go_loop [12, 13, 101] (fun vu vn vi => ∃ (k acc : Nat) (a : Int), vu = .bool false ∧ vn = .int .u64 a ∧ vi = .int .i64 k ∧ k ≤ t.size ∧ Hid (a = (acc : Int) ∧ acc < 16 ^ k ∧ hexN 0 bs = hexN acc (bs.drop k)))
    (fun _ _ vi => t.size - (intOf vi).toNat)
  case atStart => exact ⟨0, 0, 0, rfl, rfl, rfl, by omega, rfl, by decide, rfl⟩
  case round =>
    obtain ⟨k, acc, a, rfl, rfl, rfl, hk, hh⟩ := hrel
    obtain ⟨ha, hacc, hdec⟩ := hh.out
    clear hh
    have a0 : 0 ≤ a := by omega
    by_cases hkn : k < t.size
    · have hc := hB k hkn
      have hdrop : bs.drop k = bs[k]'(by omega) :: bs.drop (k + 1) := List.drop_eq_getElem_cons (by omega)
      have hget : bs.getD k 0 = bs[k]'(by omega) := by simp [List.getD, List.getElem?_eq_getElem (show k < bs.length by omega)]
      rw [hdrop] at hdec
      rw [hget] at hc
      generalize bs[k]'(by omega) = c at hc hdec
      have hc256 : c.toNat < 256 := c.toNat_lt
      have hk1 : k = 0 ∨ k = 1 := by omega
      have hacc16 : acc < 16 := by
        rcases hk1 with rfl | rfl
        · have : acc < 1 := hacc
          omega
        · have : acc < 16 := hacc
          exact this
      have a1 : a < 16 := by omega
      clear hB hdrop hget
      cases hv : hexv c with
      | none =>
        have hF : hexN acc (c :: bs.drop (k + 1)) = none := by simp only [hexN, hv]
        rw [hF] at hdec
        have hdig : ¬ (48 ≤ c.toNat ∧ c.toNat ≤ 57) := fun h => by unfold hexv at hv; rw [if_pos h] at hv; cases hv
        have hlo := low_none hv hdig
        have hv0 := bits_lo_u8 .or (c.toNat : Int) 32
        have hv1 := bits_hi_u8 .or (c.toNat : Int) 32
        have hu : c.toNat = 95 → bits BinOp.or .u8 95 32 = bits BinOp.or .u8 (c.toNat : Int) 32 := fun h => by rw [h]; rfl
        obtain ⟨v, hve⟩ : ∃ v, bits BinOp.or .u8 (c.toNat : Int) 32 = v := ⟨_, rfl⟩
        rw [hve] at hlo hv0 hv1
        have hx : 97 ≤ v → v ≤ 122 → IntKind.u8.wrap (IntKind.u8.wrap (v - 97) + 10) = v - 87 := fun h1 h2 => by
          rw [IntKind.wrap_u8, IntKind.wrap_u8]
          omega
        clear hacc hF ha hv hu
        by_cases h97 : v < 97
        · go_wp2_with (go_at_call 117; refine (lower_calls _ _).mono ?_; rintro e w' ⟨rfl, rfl⟩)
          all_goals go_ret2
          all_goals first | exact ⟨rfl, rfl⟩ | exact ⟨by rw [hdec]; rfl, rfl⟩
        · by_cases h122 : v ≤ 122
          · have hx2 := hx (by omega) h122
            have h103 : 102 < v := by omega
            have h87 : v - 87 ≥ 16 := by omega
            clear hx hlo
            go_wp2_with (go_at_call 117; refine (lower_calls _ _).mono ?_; rintro e w' ⟨rfl, rfl⟩)
            all_goals go_ret2
            all_goals first | exact ⟨rfl, rfl⟩ | exact ⟨by rw [hdec]; rfl, rfl⟩
          · clear hx hlo
            go_wp2_with (go_at_call 117; refine (lower_calls _ _).mono ?_; rintro e w' ⟨rfl, rfl⟩)
            all_goals go_ret2
            all_goals first | exact ⟨rfl, rfl⟩ | exact ⟨by rw [hdec]; rfl, rfl⟩
      | some d =>
        have hF : hexN acc (c :: bs.drop (k + 1)) = hexN (acc * 16 + d) (bs.drop (k + 1)) := by simp only [hexN, hv]
        rw [hF] at hdec
        have hd16 : d < 16 := by
          unfold hexv at hv
          split at hv
          · cases hv; omega
          · split at hv
            · cases hv; omega
            · split at hv
              · cases hv; omega
              · cases hv
        have hpw : acc * 16 + d < 16 ^ (k + 1) := by rw [Nat.pow_succ]; omega
        by_cases hdig : 48 ≤ c.toNat ∧ c.toNat ≤ 57
        · have hdv : d = c.toNat - 48 := by unfold hexv at hv; rw [if_pos hdig] at hv; cases hv; rfl
          obtain ⟨hd0, hd1⟩ := hdig
          have HN : Hid (a * 16 + ((c.toNat : Int) - 48) = ((acc * 16 + d : Nat) : Int) ∧ acc * 16 + d < 16 ^ (k + 1) ∧ hexN 0 bs = hexN (acc * 16 + d) (bs.drop (k + 1))) := Lib.hid ⟨by omega, hpw, hdec⟩
          clear hacc hF hdec ha hv hpw
          go_wp2
          refine ⟨⟨k + 1, acc * 16 + d, a * 16 + ((c.toNat : Int) - 48), rfl, (by first | rfl | (congr 1; omega)), (by first | rfl | (congr 1; omega)), by omega, HN⟩, by simp [intOf]; omega⟩
        · obtain ⟨hl, h10, _⟩ := low_some hv hdig
          have HN : Hid (a * 16 + (d : Int) = ((acc * 16 + d : Nat) : Int) ∧ acc * 16 + d < 16 ^ (k + 1) ∧ hexN 0 bs = hexN (acc * 16 + d) (bs.drop (k + 1))) := Lib.hid ⟨by omega, hpw, hdec⟩
          have hwr : IntKind.u8.wrap (IntKind.u8.wrap (((87 + d : Nat) : Int) - 97) + 10) = (d : Int) := by
            rw [IntKind.wrap_u8, IntKind.wrap_u8]
            omega
          have hne95 : ¬ (c.toNat : Int) = 95 := by
            intro h
            have h2 : c.toNat = 95 := by omega
            have h3 : hexv c = none := by unfold hexv; rw [h2]; rfl
            rw [h3] at hv
            cases hv
          obtain ⟨v, hve⟩ : ∃ v, ((87 + d : Nat) : Int) = v := ⟨_, rfl⟩
          rw [hve] at hl hwr
          have hv97 : 97 ≤ v := by omega
          have hv102 : v ≤ 102 := by omega
          have hd0 : (0 : Int) ≤ (d : Int) := by omega
          have HVE := Aside0.mk hve
          clear hacc hF hdec ha hv hpw hve
          go_wp2_with (go_at_call 117; refine (lower_calls _ _).mono ?_; rintro e w' ⟨rfl, rfl⟩)
          all_goals refine ⟨⟨k + 1, acc * 16 + d, a * 16 + (d : Int), rfl, (by first | rfl | (congr 1; have := HVE.out; omega)), (by first | rfl | (congr 1; omega)), by omega, HN⟩, by simp [intOf]; omega⟩
    · have hkk : k = t.size := by omega
      subst hkk
      have hF : hexN acc (bs.drop t.size) = some acc := by rw [List.drop_eq_nil_of_le (by omega)]; rfl
      rw [hF] at hdec
      subst ha
      clear hacc hF a0
      go_wp2
      go_ret2
      exact ⟨rfl, rfl⟩
end Go.Proofs.YtdgdpkemboeaeaaDoor.H
