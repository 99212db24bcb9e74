/- tape.Good: whether an act is good. -/
import Derived.Test.YtdgdpkemboeaeaaDoorTpD
import Derived.Deep.CutRange
import Derived.Deep.DeepCutAuto
namespace Go.Proofs.YtdgdpkemboeaeaaDoor.H
open Go.RowKit Go.Shelf Go.Proofs.YtdgdpkemboeaeaaDoor.PT Go.Proofs.YtdgdpkemboeaeaaDoorW.PrintWords Go.Proofs.YtdgdpkemboeaeaaDoorW.PrintLast Go.Proofs.YtdgdpkemboeaeaaDoorW.PrintMore
set_option linter.unusedVariables false
set_option linter.unusedSimpArgs false
/-- An act as a value; v: its numbers' slice. -/
def actV (a : PAct) (v : Value) : Value := .agg #[.int .i64 a.k, .int .i64 a.i, .int .i64 a.n, .string a.t, v]
def shB (k : Int) : ByteArray := (shapeAt k.toNat).1
theorem shB_L (k : Int) : (shB k).data.toList = shW k := rfl
theorem sh_cells {w : World} (h : Env w) {k : Int} (h1 : 1 ≤ k) (h2 : k ≤ 10) :
    w.cell? ⟨0, k.toNat * 5, none⟩ = some (.string (shB k)) ∧ w.cell? ⟨0, k.toNat * 5 + 1, none⟩ = some (.bool (shI k)) ∧ w.cell? ⟨0, k.toNat * 5 + 2, none⟩ = some (.bool (shN k)) ∧
    w.cell? ⟨0, k.toNat * 5 + 3, none⟩ = some (.bool (shT k)) ∧ w.cell? ⟨0, k.toNat * 5 + 4, none⟩ = some (.bool (shK k)) := by
  rcases kinds_of h1 h2 with rfl | rfl | rfl | rfl | rfl | rfl | rfl | rfl | rfl | rfl
  all_goals exact ⟨h.sh _ (by decide), h.sh _ (by decide), h.sh _ (by decide), h.sh _ (by decide), h.sh _ (by decide)⟩
set_option maxRecDepth 100000 in
set_option maxHeartbeats 4000000 in
theorem good_calls (a : PAct) (A : Option Addr) (c : Nat) (w : World) (hE : Env w) (hC : Kd.C (Kd.int .i64) w A a.keep.length a.keep) :
    Calls Tryd.prog 37 #[actV a (.slice A a.keep.length c)] w fun e w' => e = .returned (.bool (goodP a)) ∧ Below w.heap.size w w' := by
  obtain ⟨k, i, n, t, keep⟩ := a
  simp only at hC
  unfold actV
  simp only
  by_cases h1 : 1 ≤ k
  · by_cases h2 : k ≤ 10
    · have hg : goodP ⟨k, i, n, t, keep⟩ = (numB i (shI k) && numB n (shN k) && (decide (keep.length = 0) || shK k && decide (keep.length ≤ 16) && !keep.any badN) && (decide (t.size = 0) || shT k)) := by
        unfold goodP
        rw [decide_eq_true h1, decide_eq_true h2]
        rfl
      rw [hg]
      clear hg
      have hcs := fun o : Obj => sh_cells (hE.below ((Below.refl _ w).alloc (Nat.le_refl _) o)) h1 h2
      have c0 := fun o => (hcs o).1
      have c1 := fun o => (hcs o).2.1
      have c2 := fun o => (hcs o).2.2.1
      have c3 := fun o => (hcs o).2.2.2.1
      have c4 := fun o => (hcs o).2.2.2.2
      clear hE hcs
      have e0 : decide (k < 1) = false := decide_eq_false (by omega)
      have e1 : decide (10 < k) = false := decide_eq_false (by omega)
      have hcon := fun W (hb : Below w.heap.size w W) => containsInt_calls A c keep W (Kd.C_below hC hb)
      have hmx := hC.2.1
      clear hC
      generalize shB k = gw at c0
      generalize shI k = gi at c1 ⊢
      generalize shN k = gn at c2 ⊢
      generalize shT k = gt at c3 ⊢
      generalize shK k = gk at c4 ⊢
      obtain ⟨bi, hbi⟩ : ∃ b, numB i gi = b := ⟨_, rfl⟩
      obtain ⟨bn, hbn⟩ : ∃ b, numB n gn = b := ⟨_, rfl⟩
      rw [hbi, hbn]
      have HBI := Aside0.mk hbi
      have HBN := Aside0.mk hbn
      clear hbi hbn
      generalize keep.any badN = bb at hcon ⊢
      obtain ⟨kb, hkb⟩ : ∃ kb, kb = (decide (keep.length = 0) || gk && decide (keep.length ≤ 16) && !bb) := ⟨_, rfl⟩
      rw [← hkb]
      have HKB := Aside0.mk hkb
      clear hkb
      go_enter Tryd.func37, Tryd.ntmps37
      go_upto_region 4 with fail
      have hb2 := ((Below.refl _ w).alloc (Nat.le_refl _) (.cells #[.int .i64 k, .int .i64 i, .int .i64 n, .string t, .slice A keep.length c] 45)).alloc (by simp) (.cells #[.string gw, .bool gi, .bool gn, .bool gt, .bool gk] 102)
      have HB := Aside0.mk hb2
      have HC := fun W hb => Aside0.mk (hcon W hb)
      clear hb2 hcon
      go_cut [4] (fun s4 wx => s4 = .bool kb ∧ wx = (w.alloc (.cells #[.int .i64 k, .int .i64 i, .int .i64 n, .string t, .slice A keep.length c] 45)).alloc (.cells #[.string gw, .bool gi, .bool gn, .bool gt, .bool gk] 102))
      case first =>
        by_cases hz : keep.length = 0
        · have hz2 := List.eq_nil_of_length_eq_zero hz
          subst hz2
          clear HC HB hz
          go_wp2_with fail
          go_meet
          exact ⟨congrArg Value.bool HKB.out.symm, by first | rfl | trivial⟩
        · have z1 : decide (keep.length = 0) = false := decide_eq_false hz
          have z3 : decide ((keep.length : Int) = 0) = false := decide_eq_false (by omega)
          have z2 : ((keep.length : Int) == 0) = false := by rw [beq_eq_false_iff_ne]; omega
          have z6 : ¬ keep = [] := fun h => hz (by rw [h]; rfl)
          clear hz
          cases gk with
          | false =>
            clear HC HB
            go_wp2_with fail
            go_meet
            exact ⟨congrArg Value.bool (by rw [HKB.out, z1]; first | rfl | (rw [z2]; rfl)), by first | rfl | trivial⟩
          | true =>
            by_cases hl : keep.length ≤ 16
            · have z4 : decide (keep.length ≤ 16) = true := decide_eq_true hl
              have z5 : decide ((keep.length : Int) ≤ 16) = true := decide_eq_true (by omega)
              clear hl
              cases bb with
              | true =>
                go_wp2_with (go_at_call 69; refine (HC _ HB.out).out.mono ?_; rintro e w' ⟨rfl, rfl⟩)
                go_meet
                exact ⟨congrArg Value.bool (by rw [HKB.out, z1, z4]; first | rfl | (rw [z2]; rfl)), by first | rfl | trivial⟩
              | false =>
                go_wp2_with (go_at_call 69; refine (HC _ HB.out).out.mono ?_; rintro e w' ⟨rfl, rfl⟩)
                go_meet
                exact ⟨congrArg Value.bool (by rw [HKB.out, z1, z4]; first | rfl | (rw [z2]; rfl)), by first | rfl | trivial⟩
            · have z4 : decide (keep.length ≤ 16) = false := decide_eq_false hl
              have z5 : decide ((keep.length : Int) ≤ 16) = false := decide_eq_false (by omega)
              clear hl HC HB
              go_wp2_with fail
              go_meet
              exact ⟨congrArg Value.bool (by rw [HKB.out, z1, z4]; first | rfl | (rw [z2]; rfl)), by first | rfl | trivial⟩
      case rest =>
        obtain ⟨rfl, rfl⟩ := hcut
        clear HC HKB
        have hbi := HBI.out
        have hbn := HBN.out
        clear HBI HBN
        cases bi with
        | false =>
          go_wp2_with (go_at_call 71; refine (number_calls _ _ _).mono ?_; rintro e w' ⟨rfl, rfl⟩)
          refine bodyPost_ret (v := .bool false) (by simp [results, Tryd.results37, go_sem]) rfl ⟨?_, HB.out⟩
          simp
        | true =>
          cases bn with
          | false =>
            go_wp2_with (go_at_call 71; refine (number_calls _ _ _).mono ?_; rintro e w' ⟨rfl, rfl⟩)
            refine bodyPost_ret (v := .bool false) (by simp [results, Tryd.results37, go_sem]) rfl ⟨?_, HB.out⟩
            simp
          | true =>
            cases kb with
            | false =>
              go_wp2_with (go_at_call 71; refine (number_calls _ _ _).mono ?_; rintro e w' ⟨rfl, rfl⟩)
              refine bodyPost_ret (v := .bool false) (by simp [results, Tryd.results37, go_sem]) rfl ⟨?_, HB.out⟩
              simp
            | true =>
              by_cases ht : t.size = 0
              · have t1 : t.toList.isEmpty = true := by rw [Lib.toList_data, ba_nil_of ht]; rfl
                have t2 : decide (t.size = 0) = true := decide_eq_true ht
                clear ht
                go_wp2_with (go_at_call 71; refine (number_calls _ _ _).mono ?_; rintro e w' ⟨rfl, rfl⟩)
                refine bodyPost_ret (v := .bool true) (by simp [results, Tryd.results37, go_sem]) rfl ⟨?_, HB.out⟩
                rw [t2]; simp
              · have t1 : t.toList.isEmpty = false := by
                  rw [← decide_eq_emptyBytes]
                  exact decide_eq_false (fun h => ht (by rw [h]; rfl))
                have t2 : decide (t.size = 0) = false := decide_eq_false ht
                clear ht
                cases gt with
                | true =>
                  go_wp2_with (go_at_call 71; refine (number_calls _ _ _).mono ?_; rintro e w' ⟨rfl, rfl⟩)
                  refine bodyPost_ret (v := .bool true) (by simp [results, Tryd.results37, go_sem]) rfl ⟨?_, HB.out⟩
                  rw [t2]; simp
                | false =>
                  go_wp2_with (go_at_call 71; refine (number_calls _ _ _).mono ?_; rintro e w' ⟨rfl, rfl⟩)
                  refine bodyPost_ret (v := .bool false) (by simp [results, Tryd.results37, go_sem]) rfl ⟨?_, HB.out⟩
                  rw [t2]; simp
    · have hg : goodP ⟨k, i, n, t, keep⟩ = false := by
        unfold goodP
        rw [decide_eq_false h2]
        simp
      rw [hg]
      clear hg hC
      go_enter Tryd.func37, Tryd.ntmps37
      go_wp2
      go_ret
      exact ⟨rfl, (Below.refl _ w).alloc (Nat.le_refl _) _⟩
  · have hg : goodP ⟨k, i, n, t, keep⟩ = false := by
      unfold goodP
      rw [decide_eq_false h1]
      simp
    rw [hg]
    clear hg hC
    go_enter Tryd.func37, Tryd.ntmps37
    go_wp2
    go_ret
    exact ⟨rfl, (Below.refl _ w).alloc (Nat.le_refl _) _⟩
end Go.Proofs.YtdgdpkemboeaeaaDoor.H
