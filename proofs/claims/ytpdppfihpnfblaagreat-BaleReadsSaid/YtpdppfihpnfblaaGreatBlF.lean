/- The reference's numbers, texts and marks: which bytes they are. -/
import Derived.Test.YtpdppfihpnfblaaGreatBlY
namespace Go.Proofs.YtpdppfihpnfblaaGreat.H
open Go.RowKit Go.Shelf Go.Proofs.YtpdppfihpnfblaaGreat.PA Go.Proofs.YtpdppfihpnfblaaGreatW.PrintWords Go.Proofs.YtpdppfihpnfblaaGreatW.PrintLast Go.Proofs.YtpdppfihpnfblaaGreatW.PrintMore
set_option linter.unusedVariables false
set_option linter.unusedSimpArgs false
theorem bytesOf_append (a b : ByteArray) : bytesOf (a ++ b) = bytesOf a ++ bytesOf b := by
  simp [bytesOf]
theorem bytesOf_str {xs : List Int} (h : ∀ x ∈ xs, 0 ≤ x ∧ x ≤ 255) : bytesOf (strOfNums xs) = xs := by
  unfold bytesOf
  rw [strOfNums_data, List.map_map]
  conv => rhs; rw [← List.map_id xs]
  refine List.map_congr_left fun x hx => ?_
  have := h x hx
  simp only [Function.comp, id]
  have e : (UInt8.ofNat x.toNat).toNat = x.toNat := by
    rw [UInt8.toNat_ofNat']
    exact Nat.mod_eq_of_lt (by omega)
  rw [e]
  omega
theorem str_bytesOf (s : ByteArray) : strOfNums (bytesOf s) = s := by
  apply ByteArray.ext
  apply Array.ext'
  rw [strOfNums_data]
  unfold bytesOf
  rw [List.map_map]
  conv => rhs; rw [← List.map_id s.data.toList]
  refine List.map_congr_left fun x _ => ?_
  simp
theorem up_l0 : ∀ (k n : Nat) (acc : ByteArray), n < 128 ^ k → k ≤ 10 → acc.size + k ≤ 1000 → ∃ s, tidemillref03_Up.l0 (k + 1) (n : Int) acc = some s ∧ bytesOf s = hiB n ++ bytesOf acc := by
  intro k
  induction k with
  | zero =>
    intro n acc hn _ _
    obtain rfl : n = 0 := by simpa using hn
    exact ⟨acc, by unfold tidemillref03_Up.l0; rw [if_neg (by omega)], by rw [hiB_zero]; rfl⟩
  | succ k ih =>
    intro n acc hn hk ha
    unfold tidemillref03_Up.l0
    by_cases h0 : n = 0
    · subst h0
      exact ⟨acc, by rw [if_neg (by omega)], by rw [hiB_zero]; rfl⟩
    · rw [if_pos (by omega)]
      have hq : n / 128 < 128 ^ k := by rw [Nat.pow_succ] at hn; omega
      have hd : n / 128 < 9223372036854775808 := by
        have h1 : 128 ^ k ≤ 128 ^ 9 := Nat.pow_le_pow_right (by omega) (by omega)
        have e : (128 : Nat) ^ 9 = 9223372036854775808 := by decide
        omega
      have e1 : Int.tmod (n : Int) 128 = ((n % 128 : Nat) : Int) := by rw [Int.tmod_eq_emod_of_nonneg (by omega)]; omega
      have e2 : Int.tdiv (n : Int) 128 = ((n / 128 : Nat) : Int) := by rw [Int.tdiv_eq_ediv_of_nonneg (by omega)]; omega
      have e3 : (wrap64 (((n % 128 : Nat) : Int) + 128)) % 256 = ((n % 128 : Nat) : Int) + 128 := by rw [wrap_in (by omega) (by omega)]; omega
      have hs : (strOfNums [((n % 128 : Nat) : Int) + 128]).size = 1 := by rw [strOfNums_size]; rfl
      rw [e1, e2, e3, Option.bind_some, if_pos (by rw [hs]; omega)]
      rw [wrap_in (by omega) (by omega)]
      obtain ⟨s, h1, h2⟩ := ih (n / 128) (strOfNums [((n % 128 : Nat) : Int) + 128] ++ acc) hq (by omega) (by rw [ByteArray.size_append, hs]; omega)
      refine ⟨s, h1, ?_⟩
      rw [h2, bytesOf_append, bytesOf_str (by intro x hx; rw [List.mem_singleton.1 hx]; omega), hiB_pos h0, List.append_assoc]
theorem up_f (n : Nat) (hn : n ≤ 9223372036854775807) : ∃ s, tidemillref03_Up.f 11 (n : Int) = some s ∧ bytesOf s = numB n := by
  have e1 : Int.tmod (n : Int) 128 = ((n % 128 : Nat) : Int) := by rw [Int.tmod_eq_emod_of_nonneg (by omega)]; omega
  have e2 : Int.tdiv (n : Int) 128 = ((n / 128 : Nat) : Int) := by rw [Int.tdiv_eq_ediv_of_nonneg (by omega)]; omega
  obtain ⟨s, h1, h2⟩ := up_l0 10 (n / 128) (strOfNums [((n % 128 : Nat) : Int)]) (Nat.lt_of_lt_of_le (Nat.lt_of_le_of_lt (Nat.div_le_self n 128) (show n < 9223372036854775808 by omega)) (by decide)) (by omega) (by rw [strOfNums_size]; simp)
  refine ⟨s, ?_, ?_⟩
  · unfold tidemillref03_Up.f
    rw [e1, e2, show ((n % 128 : Nat) : Int) % 256 = ((n % 128 : Nat) : Int) by omega, wrap_in (by omega) (by omega)]
    exact h1
  · rw [h2, bytesOf_str (by intro x hx; rw [List.mem_singleton.1 hx]; omega)]
    rfl
/-- A told string, known by its bytes. -/
structure StrAns (L : List Int) (w : World) (e : Ending) (w' : World) : Prop where
  out : ∃ s : ByteArray, e = .returned (.string s) ∧ bytesOf s = L
  hb : Below w.heap.size w w'
theorem rUp_calls (n : Int) (h0 : 0 ≤ n) (h1 : n ≤ 9223372036854775807) (w : World) : Calls Tryz.prog 23 #[.int .i64 n] w (StrAns (upB n) w) := by
  obtain ⟨m, rfl⟩ := Int.eq_ofNat_of_zero_le h0
  obtain ⟨s, hs, hb⟩ := up_f m (by omega)
  refine (tidemillref03_Up.calls 11 (m : Int) s w hs).mono ?_
  rintro e w' ⟨rfl, hw⟩
  exact ⟨⟨s, rfl, by rw [hb]; unfold upB; rw [if_pos h0, Int.toNat_natCast]⟩, hw⟩
theorem rText_calls (x : ByteArray) (h : gTxt x) (w : World) : Calls Tryz.prog 22 #[.string x] w (StrAns (textB x) w) := by
  unfold gTxt at h
  obtain ⟨s, hs, hb⟩ := up_f x.size (by omega)
  have hsz : s.size ≤ 11 := by rw [← bytesOf_length, hb]; exact numB_len (by omega)
  refine (tidemillref03_Text.calls 11 x (s ++ x) w (by unfold tidemillref03_Text.f; rw [hs, Option.bind_some, if_pos (by omega)])).mono ?_
  rintro e w' ⟨rfl, hw⟩
  exact ⟨⟨_, rfl, by rw [bytesOf_append, hb]; rfl⟩, hw⟩
theorem rMark_calls (b : Bool) (w : World) : Calls Tryz.prog 24 #[.bool b] w (StrAns (markB b) w) := by
  cases b with
  | true =>
    refine (tidemillref03_Mark.calls true ⟨#[1]⟩ w rfl).mono ?_
    rintro e w' ⟨rfl, hw⟩
    exact ⟨⟨_, rfl, rfl⟩, hw.below⟩
  | false =>
    refine (tidemillref03_Mark.calls false ⟨#[0]⟩ w rfl).mono ?_
    rintro e w' ⟨rfl, hw⟩
    exact ⟨⟨_, rfl, rfl⟩, hw.below⟩
theorem int_f (n : Int) (h0 : -9223372036854775808 ≤ n) (h1 : n ≤ 9223372036854775807) : ∃ s b, tidemillref03_Int.f 12 n = some (s, b) ∧ bytesOf s = intB n := by
  unfold tidemillref03_Int.f
  by_cases h2 : n > 4611686018427387903
  · rw [if_pos h2]
    exact ⟨⟨#[]⟩, false, rfl, by unfold intB; rw [if_pos (by omega)]; rfl⟩
  · rw [if_neg h2]
    by_cases h3 : n < -4611686018427387904
    · rw [decide_eq_true h3]
      exact ⟨⟨#[]⟩, false, rfl, by unfold intB; rw [if_pos (by omega)]; rfl⟩
    · rw [decide_eq_false h3]
      have hj : tidemillref03_Int.j0 12 n false = (if n ≥ 0 then ((tidemillref03_Up.f 11 (wrap64 (n * 2))).bind fun t108 => (some (t108, true))) else ((tidemillref03_Up.f 11 (wrap64 ((wrap64 ((-2) * (wrap64 (n + 1)))) + 1))).bind fun t109 => (some (t109, true)))) := rfl
      rw [hj]
      by_cases h4 : n ≥ 0
      · obtain ⟨m, hm⟩ : ∃ m : Nat, (m : Int) = n * 2 := ⟨(n * 2).toNat, by omega⟩
        obtain ⟨s, hs, hb⟩ := up_f m (by omega)
        rw [if_pos h4, wrap_in (by omega) (by omega), ← hm, hs]
        exact ⟨s, true, rfl, by rw [hb]; unfold intB; rw [if_neg (by omega), if_neg (by omega), ← hm, Int.toNat_natCast]⟩
      · obtain ⟨m, hm⟩ : ∃ m : Nat, (m : Int) = -(n + 1) * 2 + 1 := ⟨(-(n + 1) * 2 + 1).toNat, by omega⟩
        obtain ⟨s, hs, hb⟩ := up_f m (by omega)
        have e1 : wrap64 ((wrap64 ((-2) * (wrap64 (n + 1)))) + 1) = (m : Int) := by
          rw [wrap_in (n := n + 1) (by omega) (by omega), wrap_in (n := (-2) * (n + 1)) (by omega) (by omega), wrap_in (by omega) (by omega)]
          omega
        rw [if_neg h4, e1, hs]
        exact ⟨s, true, rfl, by rw [hb]; unfold intB; rw [if_neg (by omega), if_pos (by omega), ← hm, Int.toNat_natCast]⟩
theorem rInt_calls (n : Int) (h : gI64 n) (w : World) : Calls Tryz.prog 25 #[.int .i64 n] w (StrAns (intB n) w) := by
  unfold gI64 at h
  obtain ⟨s, b, hs, hb⟩ := int_f n h.1 h.2
  refine (tidemillref16_anyInt.calls 12 n s w (by unfold tidemillref16_anyInt.f; rw [hs]; rfl)).mono ?_
  rintro e w' ⟨rfl, hw⟩
  exact ⟨⟨s, rfl, hb⟩, hw⟩
theorem gI64_of {n : Int} (h : gInt n) : gI64 n := by unfold gInt at h; unfold gI64; omega
end Go.Proofs.YtpdppfihpnfblaaGreat.H
