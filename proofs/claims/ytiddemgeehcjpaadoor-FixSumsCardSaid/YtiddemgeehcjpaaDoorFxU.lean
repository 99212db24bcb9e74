/- The law FixSums, its walk. -/
import Derived.Test.YtiddemgeehcjpaaDoorFxQ
namespace Go.Proofs.YtiddemgeehcjpaaDoor.H
open Go.ChangeShapes Go.WideShapes Go.RowKit Go.Shelf Go.Proofs.YtiddemgeehcjpaaDoor.PA Go.Proofs.YtiddemgeehcjpaaDoorW.PrintWords Go.Proofs.YtiddemgeehcjpaaDoorW.PrintLast Go.Proofs.YtiddemgeehcjpaaDoorW.PrintMore
set_option linter.unusedVariables false

set_option maxRecDepth 100000 in
set_option maxHeartbeats 4000000 in
theorem fixSums_calls (A : Option Addr) (c : Nat) (l : List Int) (hl : ∀ x ∈ l, i64 x) (w : World) (hC : Kd.C (Kd.int .i64) w A l.length l) (hc : l.length ≤ c) (htab : Tab w) :
    Calls Tryd.prog 6 #[.slice A l.length c] w fun e w' => e = .returned (.bool true) ∧ Below w.heap.size w w' := by
  have h1 := fun W (hW : Tab W) => awake_calls W hW
  have hmx := hC.2.1
  have HT := Lib.hid htab
  clear htab
  by_cases h200 : l.length ≤ 200
  · have HC := Aside0.mk hC
    have HL := Aside0.mk hl
    have HCL := Aside0.mk hc
    clear hC hl hc hmx
    go_enter Tryd.func6, Tryd.ntmps6
    go_wp2_with fail
    go_at_call 12
    refine (h1 _ HT.out).mono ?_
    rintro e w1 ⟨rfl, hb⟩
    have HC1 := Aside0.mk (Kd.C_below HC.out hb)
    have HB1 := Aside0.mk hb
    clear hb h1
    go_wp2
    go_loopw [3, 4, 5, 6, 25] (fun s o mi ma i wr => ∃ j : Nat, j ≤ l.length ∧ s = .int .i64 (sumA (l.take j)).1 ∧ o = .bool (sumA (l.take j)).2 ∧ mi = .int .i64 (minA (l.take j)) ∧ ma = .int .i64 (maxA (l.take j)) ∧ i = .int .i64 j ∧ ∃ q, wr = w1.drewN q) (fun _ _ _ _ i _ => l.length - (intOf i).toNat)
    case atStart => exact ⟨0, Nat.zero_le _, rfl, rfl, rfl, rfl, rfl, 0, rfl⟩
    case round =>
      obtain ⟨j, hj, rfl, rfl, rfl, rfl, rfl, q, rfl⟩ := hrel
      by_cases hlt : j < l.length
      · obtain ⟨ad, rfl, hcell⟩ := Kd.at_int HC1.out (j : Int) (by omega) (by omega)
        have hx := HL.out l[j] (List.getElem_mem hlt)
        have e1 : rd l (j : Int) = l[j] := by unfold rd; rw [Int.toNat_natCast, List.getD_eq_getElem?_getD, List.getElem?_eq_getElem hlt]; rfl
        rw [e1] at hcell
        simp only [Int.toNat_natCast] at hcell
        have htk : l.take (j + 1) = l.take j ++ [l[j]] := List.take_succ_eq_append_getElem hlt
        have f1 := sumA_snoc (l.take j) l[j]
        have f2 := minA_snoc (l.take j) l[j]
        have f3 := maxA_snoc (l.take j) l[j]
        rw [← htk] at f1 f2 f3
        have hi := sumA_i64 (l.take j)
        have HH := Aside0.mk (show ∃ P : Int × Bool × Int × Int, sumA (l.take (j + 1)) = stepA (P.1, P.2.1) l[j] ∧ True from ⟨((sumA (l.take j)).1, (sumA (l.take j)).2, 0, 0), f1, trivial⟩)
        generalize hS : (sumA (l.take j)).1 = S at f1 hi ⊢
        generalize hO : (sumA (l.take j)).2 = O at f1 ⊢
        unfold stepA at f1
        rw [hS, hO] at f1
        obtain ⟨S', O', eA⟩ : ∃ s o, satA S l[j] = (s, o) := ⟨_, _, rfl⟩
        rw [eA] at f1
        generalize l[j] = x at hcell hx f1 f2 f3 eA
        generalize minA (l.take j) = m1 at f2 ⊢
        generalize maxA (l.take j) = m2 at f3 ⊢
        have hadd := fun W => tidemillref01_Add.calls S x S' O' W (by rw [refAdd_eq S x hi hx, eA])
        have F1 := Aside0.mk f1
        have F2 := Aside0.mk f2
        have F3 := Aside0.mk f3
        clear f1 f2 f3 hS hO eA htk e1 HH hi hx
        cases O with
        | false =>
          go_wp2_with (go_at_call 18; refine (hadd _).mono ?_; rintro e w' ⟨rfl, ⟨nd, rfl⟩⟩)
          go_roundw
          case rel => exact ⟨j + 1, by omega, by rw [F1.out], by rw [F1.out]; rfl, by rw [F2.out], by rw [F3.out], by go_num, q + nd, rfl⟩
          case measure => simp [intOf]; omega
        | true =>
          go_wp2_with (go_at_call 18; refine (hadd _).mono ?_; rintro e w' ⟨rfl, ⟨nd, rfl⟩⟩)
          go_roundw
          case rel => exact ⟨j + 1, by omega, by rw [F1.out], by rw [F1.out]; rfl, by rw [F2.out], by rw [F3.out], by go_num, q + nd, rfl⟩
          case measure => simp [intOf]; omega
      · obtain rfl : j = l.length := by omega
        rw [List.take_length]
        have HB2 := Aside0.mk (show Below w.heap.size w (w1.drewN q) from pw_below_drewN HB1.out q)
        have HC2 := Aside0.mk (Kd.C_drewN HC1.out q)
        have hvals := fun W => values_callsI A l.length c W
        have hsum := fun W (hW : Kd.C (Kd.int .i64) W A l.length l) => sumValues_calls A c l HL.out W hW
        have hos := Aside0.mk (one_sign l)
        have hrv := Aside0.mk (sumA_rev l)
        have hmm := mm_i64 l HL.out
        have htn := turned_eq l (by omega)
        obtain ⟨S, hS⟩ : ∃ s, (sumA l).1 = s := ⟨_, rfl⟩
        obtain ⟨O, hO⟩ : ∃ s, (sumA l).2 = s := ⟨_, rfl⟩
        obtain ⟨m1, hm1⟩ : ∃ s, minA l = s := ⟨_, rfl⟩
        obtain ⟨m2, hm2⟩ : ∃ s, maxA l = s := ⟨_, rfl⟩
        rw [hm1, hm2] at hos hmm ⊢
        have HSE := Aside0.mk (And.intro hS hO)
        rw [hS, hO] at hsum ⊢
        unfold i64 at hmm
        clear hS hO hm1 hm2
        go_wp2_with fail
        go_at_call 21
        refine (hvals _).mono ?_
        rintro e w3 ⟨rfl, rfl⟩
        go_wp2_with fail
        go_at_call 20
        refine (hsum _ HC2.out).mono ?_
        rintro e w4 ⟨rfl, hb⟩
        have HB4 := Aside0.mk (HB2.out.trans (hb.mono HB2.out.size))
        have HC4 := Aside0.mk (Kd.C_below HC2.out hb)
        clear hb hvals hsum
        cases O with
        | true =>
          by_cases hn : m1 < 0
          · by_cases hp : 0 < m2
            · go_wp2
              go_ret
              exact ⟨rfl, HB4.out⟩
            · have hrv2 : sumA l.reverse = sumA l := hrv.out (hos.out (by omega))
              have hS2 : (sumA l.reverse).1 = S := by rw [hrv2]; exact HSE.out.1
              have hO2 : (sumA l.reverse).2 = true := by rw [hrv2]; exact HSE.out.2
              have HN := Aside0.mk (And.intro hS2 hO2)
              clear hrv2 hS2 hO2
              go_wp2_with fail
              go_at_call 22
              refine (tidemilllaw01_turned.calls 2000000 A c l l.reverse _ HC4.out HCL.out htn).mono ?_
              rintro e w5 ⟨v, rfl, hR, hb⟩
              obtain ⟨A', c', rfl, hlc, hC5⟩ := Kd.R_reads hR
              have HB5 := Aside0.mk (HB4.out.trans (hb.mono HB4.out.size))
              have HC5 := Aside0.mk hC5
              have hsum2 := sumValues_calls A' c' l.reverse (fun x hx => HL.out x (by simpa using hx)) _ hC5
              rw [HN.out.1, HN.out.2, List.length_reverse] at hsum2
              clear hR hb hC5 hlc
              go_wp2_with fail
              go_at_call 21
              refine (values_callsI A' l.length c' _).mono ?_
              rintro e w6 ⟨rfl, rfl⟩
              go_wp2_with fail
              go_at_call 20
              refine hsum2.mono ?_
              rintro e w7 ⟨rfl, hb⟩
              have HB7 := Aside0.mk (HB5.out.trans (hb.mono HB5.out.size))
              clear hb hsum2
              go_wp2
              go_ret
              exact ⟨rfl, HB7.out⟩
          · have hrv2 : sumA l.reverse = sumA l := hrv.out (hos.out (by omega))
            have hS2 : (sumA l.reverse).1 = S := by rw [hrv2]; exact HSE.out.1
            have hO2 : (sumA l.reverse).2 = true := by rw [hrv2]; exact HSE.out.2
            have HN := Aside0.mk (And.intro hS2 hO2)
            clear hrv2 hS2 hO2
            go_wp2_with fail
            go_at_call 22
            refine (tidemilllaw01_turned.calls 2000000 A c l l.reverse _ HC4.out HCL.out htn).mono ?_
            rintro e w5 ⟨v, rfl, hR, hb⟩
            obtain ⟨A', c', rfl, hlc, hC5⟩ := Kd.R_reads hR
            have HB5 := Aside0.mk (HB4.out.trans (hb.mono HB4.out.size))
            have HC5 := Aside0.mk hC5
            have hsum2 := sumValues_calls A' c' l.reverse (fun x hx => HL.out x (by simpa using hx)) _ hC5
            rw [HN.out.1, HN.out.2, List.length_reverse] at hsum2
            clear hR hb hC5 hlc
            go_wp2_with fail
            go_at_call 21
            refine (values_callsI A' l.length c' _).mono ?_
            rintro e w6 ⟨rfl, rfl⟩
            go_wp2_with fail
            go_at_call 20
            refine hsum2.mono ?_
            rintro e w7 ⟨rfl, hb⟩
            have HB7 := Aside0.mk (HB5.out.trans (hb.mono HB5.out.size))
            clear hb hsum2
            go_wp2
            go_ret
            exact ⟨rfl, HB7.out⟩
        | false =>
          by_cases hn : m1 < 0
          · by_cases hp : 0 < m2
            · go_wp2
              go_ret
              exact ⟨rfl, HB4.out⟩
            · have hrv2 : sumA l.reverse = sumA l := hrv.out (hos.out (by omega))
              have hS2 : (sumA l.reverse).1 = S := by rw [hrv2]; exact HSE.out.1
              have hO2 : (sumA l.reverse).2 = false := by rw [hrv2]; exact HSE.out.2
              have HN := Aside0.mk (And.intro hS2 hO2)
              clear hrv2 hS2 hO2
              go_wp2_with fail
              go_at_call 22
              refine (tidemilllaw01_turned.calls 2000000 A c l l.reverse _ HC4.out HCL.out htn).mono ?_
              rintro e w5 ⟨v, rfl, hR, hb⟩
              obtain ⟨A', c', rfl, hlc, hC5⟩ := Kd.R_reads hR
              have HB5 := Aside0.mk (HB4.out.trans (hb.mono HB4.out.size))
              have HC5 := Aside0.mk hC5
              have hsum2 := sumValues_calls A' c' l.reverse (fun x hx => HL.out x (by simpa using hx)) _ hC5
              rw [HN.out.1, HN.out.2, List.length_reverse] at hsum2
              clear hR hb hC5 hlc
              go_wp2_with fail
              go_at_call 21
              refine (values_callsI A' l.length c' _).mono ?_
              rintro e w6 ⟨rfl, rfl⟩
              go_wp2_with fail
              go_at_call 20
              refine hsum2.mono ?_
              rintro e w7 ⟨rfl, hb⟩
              have HB7 := Aside0.mk (HB5.out.trans (hb.mono HB5.out.size))
              clear hb hsum2
              go_wp2
              go_ret
              exact ⟨rfl, HB7.out⟩
          · have hrv2 : sumA l.reverse = sumA l := hrv.out (hos.out (by omega))
            have hS2 : (sumA l.reverse).1 = S := by rw [hrv2]; exact HSE.out.1
            have hO2 : (sumA l.reverse).2 = false := by rw [hrv2]; exact HSE.out.2
            have HN := Aside0.mk (And.intro hS2 hO2)
            clear hrv2 hS2 hO2
            go_wp2_with fail
            go_at_call 22
            refine (tidemilllaw01_turned.calls 2000000 A c l l.reverse _ HC4.out HCL.out htn).mono ?_
            rintro e w5 ⟨v, rfl, hR, hb⟩
            obtain ⟨A', c', rfl, hlc, hC5⟩ := Kd.R_reads hR
            have HB5 := Aside0.mk (HB4.out.trans (hb.mono HB4.out.size))
            have HC5 := Aside0.mk hC5
            have hsum2 := sumValues_calls A' c' l.reverse (fun x hx => HL.out x (by simpa using hx)) _ hC5
            rw [HN.out.1, HN.out.2, List.length_reverse] at hsum2
            clear hR hb hC5 hlc
            go_wp2_with fail
            go_at_call 21
            refine (values_callsI A' l.length c' _).mono ?_
            rintro e w6 ⟨rfl, rfl⟩
            go_wp2_with fail
            go_at_call 20
            refine hsum2.mono ?_
            rintro e w7 ⟨rfl, hb⟩
            have HB7 := Aside0.mk (HB5.out.trans (hb.mono HB5.out.size))
            clear hb hsum2
            go_wp2
            go_ret
            exact ⟨rfl, HB7.out⟩
  · go_enter Tryd.func6, Tryd.ntmps6
    go_wp2_with fail
    go_at_call 12
    refine (h1 _ HT.out).mono ?_
    rintro e w1 ⟨rfl, hb⟩
    have HB1 := Aside0.mk hb
    clear hb
    go_wp2_with fail
    go_at_call 12
    refine (h1 _ (tab_below HT.out HB1.out)).mono ?_
    rintro e w2 ⟨rfl, hb⟩
    have HB2 := Aside0.mk (HB1.out.trans (hb.mono HB1.out.size))
    clear hb
    go_wp2
    go_ret
    exact ⟨rfl, HB2.out⟩

theorem fixSums_row (A : Option Addr) (c : Nat) (l : List Int) (r : Bool) (w : World) (hC : Kd.C (Kd.int .i64) w A l.length l) (hc : l.length ≤ c) (h : r = true ∧ ∀ x ∈ l, i64 x) (htab : Tab w) :
    Calls Tryd.prog 6 #[.slice A l.length c] w fun e w' => e = .returned (.bool r) ∧ Below w.heap.size w w' := by
  obtain ⟨rfl, hl⟩ := h
  exact fixSums_calls A c l hl w hC hc htab
/-- A slice of whole numbers that is handed in: what its reading tells. -/
theorem open_rowI {H : Type} {enc : TypeId × Value → H} {W : World} {base : Nat} {sp : Nat → Bool} {held : Bool} {a : Option Addr} {len cap : Nat} {y : DataW H × List MemPlace} (h : ∃ fuel, DataW.trod enc Tryd.prog W base sp held fuel 34 (Value.slice a len cap).cells.toList = some y) :
    ∃ l : List Int, len = l.length ∧ l.length ≤ cap ∧ (Kd.int .i64).C W a l.length l ∧ ∀ n ∈ l, i64 n := by
  obtain ⟨fuel, hf⟩ := h
  rcases open_ints Tryd.underlying34 Tryd.underlying3 (by kernel_rfl) hf with ⟨hcs, _⟩ | ⟨x, n, c, zs, hcs, _, hl, hm, hz, _, hcell, hwz⟩
  · simp [Value.cells] at hcs
    obtain ⟨rfl, rfl, rfl⟩ := hcs
    exact ⟨[], rfl, Nat.le_refl _, Kd.C_of_reads (d := 0) ⟨rfl, by simp, fun h => by simp at h⟩, by simp⟩
  · simp [Value.cells] at hcs
    obtain ⟨rfl, rfl, rfl⟩ := hcs
    have hzl : len ≤ zs.length := by rw [hz]; split <;> omega
    have hlen : (zs.take len).length = len := by rw [List.length_take]; omega
    unfold maxLen at hm
    refine ⟨zs.take len, hlen.symm, by omega, Kd.C_of_reads (d := 0) ⟨rfl, by omega, fun h => ⟨x, rfl, fun j hj => ?_⟩⟩, fun n hn => i64_of (hwz n (List.mem_of_mem_take hn))⟩
    rw [hcell j (by omega), List.getD_eq_getElem?_getD, List.getD_eq_getElem?_getD, List.getElem?_take, if_pos (by omega)]
end Go.Proofs.YtiddemgeehcjpaaDoor.H
namespace Go.Proofs.YtiddemgeehcjpaaDoor.Pure
open Go.Proofs.YtiddemgeehcjpaaDoor.H
theorem FixSums (l : List Int) (h : ∀ x ∈ l, i64 x) : true = true ∧ ∀ x ∈ l, i64 x := ⟨rfl, h⟩
end Go.Proofs.YtiddemgeehcjpaaDoor.Pure
