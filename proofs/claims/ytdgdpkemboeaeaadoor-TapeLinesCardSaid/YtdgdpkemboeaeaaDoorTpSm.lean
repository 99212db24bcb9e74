/- The law's comparing of acts. -/
import Derived.Test.YtdgdpkemboeaeaaDoorTpZ
import Derived.Test.YtdgdpkemboeaeaaDoorTpF
import Derived.BigQuiet
namespace Go.Proofs.YtdgdpkemboeaeaaDoor.H
open Go.RowKit Go.Shelf Go.Proofs.YtdgdpkemboeaeaaDoor.PT Go.Proofs.YtdgdpkemboeaeaaDoorW.PrintWords Go.Proofs.YtdgdpkemboeaeaaDoorW.PrintLast Go.Proofs.YtdgdpkemboeaeaaDoorW.PrintMore
set_option linter.unusedVariables false
set_option linter.unusedSimpArgs false
def p45 (x : S45) : PAct := ⟨x.f0, x.f1, x.f2, x.f3, x.f4⟩
end Go.Proofs.YtdgdpkemboeaeaaDoor.H
namespace Go.Proofs.YtdgdpkemboeaeaaDoor.H
open Go.RowKit Go.Shelf Go.Proofs.YtdgdpkemboeaeaaDoor.PT Go.Proofs.YtdgdpkemboeaeaaDoorW.PrintWords Go.Proofs.YtdgdpkemboeaeaaDoorW.PrintLast Go.Proofs.YtdgdpkemboeaeaaDoorW.PrintMore
set_option linter.unusedVariables false
set_option linter.unusedSimpArgs false
def p46 (x : S46) : PAct := ⟨x.f0, x.f1, x.f2, x.f3, x.f4⟩
theorem beq_bb (s : ByteArray) : (s.toList == s.toList) = true := beq_self_eq_true _
set_option maxRecDepth 100000 in
set_option maxHeartbeats 8000000 in
theorem same_calls (A B : Option Addr) (c c' : Nat) (l : List S45) (m : List S46) (hlm : l.map p45 = m.map p46) (w : World) (hA : Kd.C k45 w A l.length l) (hB : Kd.C k46 w B m.length m) :
    Calls Tryd.prog 29 #[.slice A l.length c, .slice B m.length c'] w fun e w' => e = .returned (.bool true) ∧ Below w.heap.size w w' := by
  have hlen : m.length = l.length := by
    have := congrArg List.length hlm
    rw [List.length_map, List.length_map] at this
    exact this.symm
  have hget : ∀ (j : Nat) (h1 : j < l.length) (h2 : j < m.length), p46 m[j] = p45 l[j] := by
    intro j h1 h2
    have e1 : (l.map p45)[j]? = some (p45 l[j]) := by rw [List.getElem?_map, List.getElem?_eq_getElem h1]; rfl
    have e2 : (m.map p46)[j]? = some (p46 m[j]) := by rw [List.getElem?_map, List.getElem?_eq_getElem h2]; rfl
    rw [hlm, e2] at e1
    exact Option.some.inj e1
  have hmx := hA.2.1
  have HGET := Aside0.mk hget
  have HA := Aside0.mk hA
  have HB := Aside0.mk hB
  have HLEN := Aside0.mk hlen
  rw [hlen]
  clear hA hB hget hlm hlen
  go_enter Tryd.func29, Tryd.ntmps29
  go_wp2
  go_loopw [5, 6, 14] (fun _ _ v wr => ∃ j : Nat, j ≤ l.length ∧ v = .int .i64 j ∧ Below w.heap.size w wr) (fun _ _ v _ => l.length - (intOf v).toNat)
  case atStart => exact ⟨0, Nat.zero_le _, rfl, Below.refl _ _⟩
  case round =>
    obtain ⟨j, hj, rfl, hbe⟩ := hrel
    have HBE := Aside0.mk hbe
    clear hbe
    by_cases hlt : j < l.length
    · have hj2 : j < m.length := by rw [HLEN.out]; exact hlt
      obtain ⟨ad, A4, c4, rfl, k0, k1, k2, k3, k4, hc4, hC4⟩ := at_T45 (Kd.C_below HA.out HBE.out) (j : Int) (by omega) (by omega)
      obtain ⟨bd, B4, d4, rfl, r0, r1, r2, r3, r4, hd4, hD4⟩ := at_T46 (Kd.C_below HB.out HBE.out) (j : Int) (by omega) (by omega)
      have hrd : rd_T45 l (j : Int) = l[j] := by unfold rd_T45; rw [Int.toNat_natCast, List.getD_eq_getElem?_getD, List.getElem?_eq_getElem hlt]; rfl
      have hrd2 : rd_T46 m (j : Int) = m[j] := by unfold rd_T46; rw [Int.toNat_natCast, List.getD_eq_getElem?_getD, List.getElem?_eq_getElem hj2]; rfl
      rw [hrd] at k0 k1 k2 k3 k4 hc4 hC4
      rw [hrd2] at r0 r1 r2 r3 r4 hd4 hD4
      have hg := HGET.out j hlt hj2
      simp only [Int.toNat_natCast] at k0 k1 k2 k3 k4 r0 r1 r2 r3 r4
      clear hrd hrd2
      generalize l[j] = x at k0 k1 k2 k3 k4 hc4 hC4 hg
      generalize m[j] = y at r0 r1 r2 r3 r4 hd4 hD4 hg
      obtain ⟨x0, x1, x2, xt, xk⟩ := x
      obtain ⟨y0, y1, y2, yt, yk⟩ := y
      clear hj2
      unfold p45 p46 at hg
      simp only [PAct.mk.injEq] at hg
      obtain ⟨rfl, rfl, rfl, rfl, rfl⟩ := hg
      simp only at k0 k1 k2 k3 k4 r0 r1 r2 r3 r4 hc4 hC4 hd4 hD4
      have bb := beq_bb yt
      have HC4 := Aside0.mk hC4
      have HD4 := Aside0.mk hD4
      have hkm := hC4.2.1
      clear hC4 hD4
      have q3 : (0 : Int) ≤ (j : Int) := by omega
      have q4 : (j : Int) < (l.length : Int) := by omega
      go_wp2
      go_quiet (fail)
      go_wp2
      go_loopw [6, 88] (fun _ v wr2 => ∃ k : Nat, k ≤ yk.length ∧ v = .int .i64 k ∧ Below wr.heap.size wr wr2) (fun _ v _ => yk.length - (intOf v).toNat)
      case atStart => exact ⟨0, Nat.zero_le _, rfl, pw_below_drewN (Below.refl _ _) _⟩
      case round =>
        obtain ⟨k, hk, rfl, hbe⟩ := hrel
        have HB2 := Aside0.mk hbe
        clear hbe
        by_cases hlt2 : k < yk.length
        · obtain ⟨ae, rfl, e0⟩ := Kd.at_int (Kd.C_below HC4.out HB2.out) (k : Int) (by omega) (by omega)
          obtain ⟨be, rfl, f0⟩ := Kd.at_int (Kd.C_below HD4.out HB2.out) (k : Int) (by omega) (by omega)
          simp only [Int.toNat_natCast] at e0 f0
          replace k4 := (HB2.out.cell (World.block_lt_of_cell? _ _ k4)).trans k4
          replace r4 := (HB2.out.cell (World.block_lt_of_cell? _ _ r4)).trans r4
          clear k0 k1 k2 k3 r0 r1 r2 r3
          have q5 : (0 : Int) ≤ (k : Int) := by omega
          have q6 : (k : Int) < (yk.length : Int) := by omega
          go_wp2
          go_quiet (fail)
          go_wp2
          go_roundw
          case rel => exact ⟨k + 1, by omega, by simp, pw_below_drewN HB2.out _⟩
          case measure => simp [intOf]; omega
        · obtain rfl : k = yk.length := by omega
          go_wp2
          go_roundw
          case rel => exact ⟨j + 1, by omega, by simp, HBE.out.trans (HB2.out.mono HBE.out.size)⟩
          case measure => simp [intOf]; omega
    · obtain rfl : j = l.length := by omega
      go_wp2
      exact bodyPost_ret (v := .bool true) (by simp [results, Tryd.results29, go_sem]) rfl ⟨rfl, HBE.out⟩
end Go.Proofs.YtdgdpkemboeaeaaDoor.H

