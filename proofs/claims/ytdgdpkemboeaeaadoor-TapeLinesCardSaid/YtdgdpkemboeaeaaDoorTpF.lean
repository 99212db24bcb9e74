/- The reference's Act1 and Parse, told plainly. -/
import Derived.Test.YtdgdpkemboeaeaaDoorTpA
import Derived.Test.YtdgdpkemboeaeaaDoorPRx
import Derived.Test.YtdgdpkemboeaeaaDoorTpZ
namespace Go.Proofs.YtdgdpkemboeaeaaDoor.H
open Go.RowKit Go.Shelf Go.Proofs.YtdgdpkemboeaeaaDoor.PT Go.Proofs.YtdgdpkemboeaeaaDoor.PR Go.Proofs.YtdgdpkemboeaeaaDoorW.PrintWords Go.Proofs.YtdgdpkemboeaeaaDoorW.PrintLast Go.Proofs.YtdgdpkemboeaeaaDoorW.PrintMore
set_option linter.unusedVariables false
set_option linter.unusedSimpArgs false
def i64 (a : Int) : Prop := -9223372036854775808 ≤ a ∧ a ≤ 9223372036854775807
theorem digits_loop (s : ByteArray) (hs : s.size ≤ 1000000) (most : Nat) : ∀ (d k : Nat) (i : Int), 0 ≤ i → i ≤ (s.size : Int) → (s.size : Int) - i = d → d < k →
    tidemillref01_Digits.l0 k s (most : Int) i = some ((tl s i).all dgB && decide (1 ≤ s.size) && decide (s.size ≤ most)) := by
  intro d
  induction d with
  | zero =>
    intro k i h0 h1 hd hk
    obtain ⟨k, rfl⟩ : ∃ m, k = m + 1 := ⟨k - 1, by omega⟩
    obtain rfl : i = s.size := by omega
    simp only [tidemillref01_Digits.l0]
    rw [if_neg (by omega), tl_end _ _ (by omega), List.all_nil, Bool.true_and]
    by_cases h : (s.size : Int) ≥ 1
    · rw [if_pos h, decide_eq_true (show 1 ≤ s.size by omega), Bool.true_and]
      congr 1
      exact decide_eq_decide.2 (by omega)
    · rw [if_neg h, decide_eq_false (show ¬ 1 ≤ s.size by omega)]
      rfl
  | succ d ih =>
    intro k i h0 h1 hd hk
    obtain ⟨k, rfl⟩ : ∃ m, k = m + 1 := ⟨k - 1, by omega⟩
    obtain ⟨b, e, eb⟩ := tl_cons s i h0 (by omega)
    simp only [tidemillref01_Digits.l0]
    rw [if_pos (by omega), if_pos h0, eb, e, List.all_cons]
    have hdg : dgB b = decide (48 ≤ b.toNat ∧ b.toNat ≤ 57) := rfl
    by_cases h48 : (b.toNat : Int) < 48
    · rw [if_pos h48, hdg, decide_eq_false (by omega)]
      rfl
    · rw [if_neg h48]
      by_cases h57 : (b.toNat : Int) > 57
      · rw [if_pos h57, hdg, decide_eq_false (by omega)]
        rfl
      · rw [if_neg h57, hdg, decide_eq_true (by omega), Bool.true_and, wrap_in (by omega) (by omega)]
        exact ih k (i + 1) (by omega) (by omega) (by omega) (by omega)
theorem refDigits_eq (s : ByteArray) (hs : s.size ≤ 1000000) (most k : Nat) (hk : s.size < k) : tidemillref01_Digits.f k s (most : Int) = some (digL most s.data.toList) := by
  unfold tidemillref01_Digits.f
  rw [digits_loop s hs most s.size k 0 (by omega) (by omega) (by omega) hk, tl_zero]
  unfold digL
  simp
/-- The reference's Cut is the same. -/
theorem refCut_loop (s : ByteArray) (c : UInt8) (hs : s.size ≤ 140737488355328) : ∀ (d k i : Nat), i ≤ s.size → s.size - i = d → d < k → c ∉ s.data.toList.take i → tidemillref01_Cut.l0 k s (c.toNat : Int) (i : Int) = some (cutB s c) := by
  intro d
  induction d with
  | zero =>
    intro k i h0 hd hk hn
    obtain ⟨k, rfl⟩ : ∃ m, k = m + 1 := ⟨k - 1, by omega⟩
    obtain rfl : i = s.size := by omega
    simp only [tidemillref01_Cut.l0]
    rw [if_neg (by omega)]
    rw [List.take_of_length_le (by rw [len_of]; omega)] at hn
    have := cut_no hn
    rw [ba_of] at this
    rw [this]
  | succ d ih =>
    intro k i h0 hd hk hn
    obtain ⟨k, rfl⟩ : ∃ m, k = m + 1 := ⟨k - 1, by omega⟩
    have hi : i < s.data.toList.length := by rw [len_of]; omega
    simp only [tidemillref01_Cut.l0]
    rw [if_pos (by omega), if_pos (by omega)]
    obtain ⟨b, e, eb⟩ := tl_cons s (i : Int) (by omega) (by omega)
    have e' : s.data.toList.drop i = b :: s.data.toList.drop (i + 1) := by
      have := e
      unfold tl at this
      rwa [Int.toNat_natCast, show ((i : Int) + 1).toNat = i + 1 by omega] at this
    have hsp : s.data.toList = s.data.toList.take i ++ b :: s.data.toList.drop (i + 1) := by rw [← e', List.take_append_drop]
    rw [eb]
    by_cases hb : b = c
    · subst hb
      rw [wrap_succ (n := s.size) (by omega) (by omega) (by omega), if_pos rfl, if_pos (by omega), if_pos (by omega), if_pos (by omega)]
      have h3 : cutB s b = (ba (s.data.toList.take i), ba (s.data.toList.drop (i + 1)), true) := by
        have h4 := cut_at (b := s.data.toList.drop (i + 1)) hn
        rw [← hsp, ba_of] at h4
        exact h4
      rw [h3, show ((i : Int) + 1).toNat = i + 1 by omega, Int.toNat_natCast, ex_left, ex_right]
    · rw [if_neg (fun h => hb (UInt8.toNat_inj.1 (by omega))), wrap_succ (n := s.size) (by omega) (by omega) (by omega)]
      refine ih k (i + 1) (by omega) (by omega) (by omega) ?_
      rw [List.take_succ_eq_append_getElem hi]
      have hg : s.data.toList[i] = b := by
        have h5 := List.drop_eq_getElem_cons hi
        rw [e'] at h5
        exact (List.cons.inj h5).1.symm
      rw [hg]
      simp only [List.mem_append, List.mem_singleton]
      rintro (h | h)
      · exact hn h
      · exact hb h.symm
theorem refCut_eq (s : ByteArray) (c : UInt8) (hs : s.size ≤ 140737488355328) (k : Nat) (hk : s.size < k) : tidemillref01_Cut.f k s (c.toNat : Int) = some (cutB s c) := by
  unfold tidemillref01_Cut.f
  exact refCut_loop s c hs s.size k 0 (by omega) (by omega) hk (by simp)
theorem refCut_L (l : List UInt8) (c : UInt8) (hs : l.length ≤ 1000000) (k : Nat) (hk : l.length < k) : tidemillref01_Cut.f k (ba l) (c.toNat : Int) = some (ba (cutL l c).1, ba (cutL l c).2.1, (cutL l c).2.2) := by
  rw [refCut_eq (ba l) c (by rw [ba_size]; omega) k (by rw [ba_size]; omega), cutB_L]
theorem refSplit_loop (c : UInt8) : ∀ (n k : Nat) (l : List UInt8) (acc : List ByteArray), l.length ≤ n → 2 * n + 2 < k → n + acc.length ≤ 1000000 →
    tidemillref07_Split.l0 k (ba l) (c.toNat : Int) acc true = some (acc ++ splitL (ba l) c) := by
  intro n
  induction n with
  | zero =>
    intro k l acc hl hk ha
    obtain ⟨k, rfl⟩ : ∃ m, k = m + 1 + 1 := ⟨k - 2, by omega⟩
    obtain rfl := List.eq_nil_of_length_eq_zero (Nat.le_zero.1 hl)
    have hc : cutL [] c = ([], [], false) := cutL_no (by simp)
    rw [tidemillref07_Split.l0, if_pos rfl, refCut_L [] c (by simp) _ (by simp), hc, Option.bind_some]
    simp only
    rw [if_pos (by omega), tidemillref07_Split.l0, if_neg (by decide), split_no (by simp)]
  | succ n ih =>
    intro k l acc hl hk ha
    obtain ⟨k, rfl⟩ : ∃ m, k = m + 1 + 1 := ⟨k - 2, by omega⟩
    by_cases h : c ∈ l
    · obtain ⟨a, b, hn, rfl⟩ := first_of h
      rw [List.length_append, List.length_cons] at hl
      rw [tidemillref07_Split.l0, if_pos rfl, refCut_L _ c (by rw [List.length_append, List.length_cons]; omega) _ (by rw [List.length_append, List.length_cons]; omega), cutL_at hn, Option.bind_some]
      simp only
      rw [if_pos (by omega), ih (k + 1) b (acc ++ [ba a]) (by omega) (by omega) (by rw [List.length_append, List.length_singleton]; omega), split_at hn, List.append_assoc]
      rfl
    · rw [tidemillref07_Split.l0, if_pos rfl, refCut_L l c (by omega) _ (by omega), cutL_no h, Option.bind_some]
      simp only
      rw [if_pos (by omega), tidemillref07_Split.l0, if_neg (by decide), split_no h]
theorem refSplit_f (l : List UInt8) (c : UInt8) (hl : l.length ≤ 1000000) (k : Nat) (hk : 2 * l.length + 2 < k) : tidemillref07_Split.f k (ba l) (c.toNat : Int) = some (splitL (ba l) c) := by
  unfold tidemillref07_Split.f
  rw [refSplit_loop c l.length k l [] (Nat.le_refl _) hk (by simp; omega), List.nil_append]
/-- A number's numeral. -/
def IsNum (q : List UInt8) (n : Int) : Prop := 0 ≤ n ∧ n ≤ 1000000000 ∧ Lib.itoa n = q
theorem IsNum.one {q : List UInt8} {n m : Int} (h : IsNum q n) (h2 : IsNum q m) : n = m := by
  rw [← num_itoa h.1 h.2.1, h.2.2, ← h2.2.2, num_itoa h2.1 h2.2.1]
theorem dec_len : ∀ (k u : Nat), u < 10 ^ (k + 1) → (Lib.decDigits u).length ≤ k + 1
  | 0, u, h => by rw [dec_small (by simpa using h)]; simp
  | k + 1, u, h => by
    by_cases hu : u < 10
    · rw [dec_small hu]; simp
    · rw [dec_big hu, List.length_append, List.length_singleton]
      have := dec_len k (u / 10) (by rw [Nat.pow_succ] at h; omega)
      omega
theorem dec_head : ∀ (n u : Nat), u ≤ n → 1 ≤ u → ∃ b r, Lib.decDigits u = b :: r ∧ b ≠ 48
  | 0, u, h, h1 => by omega
  | n + 1, u, h, h1 => by
    by_cases hu : u < 10
    · refine ⟨_, _, dec_small hu, fun h2 => ?_⟩
      have h3 := congrArg UInt8.toNat h2
      rw [UInt8.toNat_ofNat'] at h3
      have : (48 : UInt8).toNat = 48 := rfl
      omega
    · obtain ⟨b, r, e, hb⟩ := dec_head n (u / 10) (by omega) (by omega)
      exact ⟨b, r ++ [UInt8.ofNat (48 + u % 10)], by rw [dec_big hu, e]; rfl, hb⟩
theorem dg_of (b : UInt8) (h : dgB b = true) : ∃ d, d < 10 ∧ b = UInt8.ofNat (48 + d) ∧ b.toNat - 48 = d := by
  unfold dgB at h
  rw [decide_eq_true_iff] at h
  refine ⟨b.toNat - 48, by omega, ?_, rfl⟩
  rw [show 48 + (b.toNat - 48) = b.toNat by omega, UInt8.ofNat_toNat]
/-- Digits without a needless zero ahead are their number's. -/
theorem dec_val : ∀ (n : Nat) (q : List UInt8), q.length = n → q.all dgB = true → q ≠ [] → (1 < q.length → q.head? ≠ some 48) → Lib.decDigits (valF 0 q) = q
  | 0, q, h, _, h1, _ => absurd (List.eq_nil_of_length_eq_zero h) h1
  | n + 1, q, h, hd, h1, hz => by
    obtain ⟨m, b, rfl⟩ : ∃ m b, q = m ++ [b] := (snoc_cases q).resolve_left h1
    rw [List.all_append, Bool.and_eq_true, List.all_cons, List.all_nil, Bool.and_true] at hd
    obtain ⟨d, hd10, hb, hv⟩ := dg_of b hd.2
    rw [valF_snoc, hv]
    by_cases hm : m = []
    · subst hm
      rw [valF_nil, Nat.zero_mul, Nat.zero_add, dec_small hd10, hb]
      rfl
    · have hml : 1 ≤ m.length := List.length_pos_iff.2 hm
      have hh : (m ++ [b]).head? = m.head? := by cases m with
        | nil => exact absurd rfl hm
        | cons x y => rfl
      have hz2 : m.head? ≠ some 48 := by
        have := hz (by rw [List.length_append, List.length_singleton]; omega)
        rwa [hh] at this
      have ih := dec_val n m (by rw [List.length_append, List.length_singleton] at h; omega) hd.1 hm (fun _ => hz2)
      have hpos : valF 0 m ≠ 0 := by
        intro h0
        rw [h0, dec_small (by omega)] at ih
        rw [← ih] at hz2
        exact hz2 rfl
      rw [dec_big (by omega), show (valF 0 m * 10 + d) / 10 = valF 0 m by omega, show (valF 0 m * 10 + d) % 10 = d by omega, ih, hb]
theorem num_loop (q : List UInt8) (hq : q.length ≤ 10) (hd : q.all dgB = true) : ∀ (d k i : Nat), i + d = q.length → d < k → valF 0 (q.take i) < 10 ^ i →
    tidemillref26_number.l0 k (ba q) (valF 0 (q.take i) : Int) (i : Int) = some ((valF 0 q : Int), decide ((valF 0 q : Int) ≤ 1000000000)) := by
  intro d
  induction d with
  | zero =>
    intro k i hi hk hv
    obtain ⟨k, rfl⟩ : ∃ m, k = m + 1 := ⟨k - 1, by omega⟩
    rw [tidemillref26_number.l0, if_neg (by rw [ba_size]; omega), List.take_of_length_le (by omega)]
  | succ d ih =>
    intro k i hi hk hv
    obtain ⟨k, rfl⟩ : ∃ m, k = m + 1 := ⟨k - 1, by omega⟩
    have hlt : i < q.length := by omega
    have ht : q.take (i + 1) = q.take i ++ [q[i]] := List.take_succ_eq_append_getElem hlt
    have hdi : dgB q[i] = true := by rw [List.all_eq_true] at hd; exact hd _ (List.getElem_mem hlt)
    obtain ⟨e, he, _, hv2⟩ := dg_of _ hdi
    have hv3 : valF 0 (q.take (i + 1)) = valF 0 (q.take i) * 10 + e := by rw [ht, valF_snoc, hv2]
    have hp : 10 ^ (i + 1) ≤ 10000000000 := Nat.le_trans (Nat.pow_le_pow_right (by decide) (show i + 1 ≤ 10 by omega)) (by decide)
    rw [Nat.pow_succ] at hp
    have hb : (bt (ba q) (i : Int) - 48) % 256 = (e : Int) := by
      rw [bt_get q i hlt]
      have hdi2 := hdi
      unfold dgB at hdi2
      rw [decide_eq_true_iff] at hdi2
      omega
    rw [tidemillref26_number.l0, if_pos (by rw [ba_size]; omega), if_pos (by omega), hb, wrap_in (n := (valF 0 (q.take i) : Int) * 10) (by omega) (by omega), wrap_in (n := (valF 0 (q.take i) : Int) * 10 + e) (by omega) (by omega), w1 i (by omega), show (valF 0 (q.take i) : Int) * 10 + (e : Int) = ((valF 0 (q.take (i + 1)) : Nat) : Int) by rw [hv3]; omega]
    refine ih k (i + 1) (by omega) (by omega) ?_
    rw [hv3, Nat.pow_succ]
    omega
theorem number_cases (q : List UInt8) (hq : q.length ≤ 1000000) (k : Nat) (hk : q.length + 3 < k) :
    (∃ n, IsNum q n ∧ tidemillref26_number.f k (ba q) = some (n, true)) ∨ ((∀ n, ¬ IsNum q n) ∧ ∃ x, tidemillref26_number.f k (ba q) = some (x, false)) := by
  have hD := refDigits_eq (ba q) (by rw [ba_size]; omega) 10 k (by rw [ba_size]; omega)
  rw [ba_data] at hD
  change tidemillref01_Digits.f k (ba q) 10 = _ at hD
  obtain ⟨k, rfl⟩ : ∃ m, k = m + 1 + 1 := ⟨k - 2, by omega⟩
  unfold tidemillref26_number.f
  rw [hD, Option.bind_some]
  have isd : ∀ n, IsNum q n → ∃ u : Nat, n = u ∧ u ≤ 1000000000 ∧ q = Lib.decDigits u := by
    rintro n ⟨h0, h1, h2⟩
    obtain ⟨u, rfl⟩ := Int.eq_ofNat_of_zero_le h0
    exact ⟨u, rfl, by omega, by rw [← h2, Lib.itoa_nonneg]⟩
  cases hdl : digL 10 q with
  | false =>
    refine .inr ⟨fun n hn => ?_, 0, by rw [if_neg (by decide), tidemillref26_number.j0, if_pos rfl]⟩
    obtain ⟨u, _, hu, rfl⟩ := isd n hn
    have h1 := dec_dg u
    have h2 := dec_len 9 u (by omega)
    have h3 := (itoa_dg (n := (u : Int)) (by omega)).2
    rw [Lib.itoa_nonneg] at h3
    have h4 := List.length_pos_iff.2 h3
    unfold digL at hdl
    rw [h1, decide_eq_true (show 1 ≤ (Lib.decDigits u).length from h4), decide_eq_true (show (Lib.decDigits u).length ≤ 10 from h2)] at hdl
    cases hdl
  | true =>
    unfold digL at hdl
    rw [Bool.and_eq_true, Bool.and_eq_true, decide_eq_true_iff, decide_eq_true_iff] at hdl
    obtain ⟨⟨hall, hl1⟩, hl10⟩ := hdl
    have hne : q ≠ [] := List.length_pos_iff.1 hl1
    rw [if_pos rfl]
    have fin : ((1 < q.length) → q.head? ≠ some 48) → (∃ n, IsNum q n ∧ tidemillref26_number.j0 (k + 1 + 1) (ba q) false = some (n, true)) ∨ ((∀ n, ¬ IsNum q n) ∧ ∃ x, tidemillref26_number.j0 (k + 1 + 1) (ba q) false = some (x, false)) := by
      intro hz
      have hv := dec_val _ q rfl hall hne hz
      have hloop := num_loop q hl10 hall q.length (k + 1) 0 (by omega) (by omega) (by rw [List.take_zero, valF_nil]; decide)
      rw [List.take_zero, valF_nil] at hloop
      rw [tidemillref26_number.j0, if_neg (by decide)]
      change tidemillref26_number.l0 (k + 1) (ba q) 0 0 = _ at hloop
      rw [hloop]
      by_cases hle : valF 0 q ≤ 1000000000
      · exact .inl ⟨(valF 0 q : Int), ⟨by omega, by omega, by rw [Lib.itoa_nonneg, hv]⟩, by rw [decide_eq_true (by omega)]⟩
      · refine .inr ⟨fun n hn => ?_, _, by rw [decide_eq_false (by omega)]⟩
        obtain ⟨u, _, hu, h2⟩ := isd n hn
        rw [h2, valF_dec] at hle
        omega
    by_cases h1 : ((ba q).size : Int) > 1
    · rw [ba_size] at h1
      rw [if_pos (by rw [ba_size]; exact h1), if_pos (by rw [ba_size]; omega)]
      obtain ⟨b, r, rfl⟩ : ∃ b r, q = b :: r := by cases q with
        | nil => exact absurd rfl hne
        | cons b r => exact ⟨b, r, rfl⟩
      have hb0 : bt (ba (b :: r)) 0 = (b.toNat : Int) := bt_get (b :: r) 0 (by simp)
      rw [hb0]
      by_cases hb : b = 48
      · subst hb
        refine .inr ⟨fun n hn => ?_, 0, by rw [tidemillref26_number.j0, if_pos (by decide)]⟩
        obtain ⟨u, _, hu, h2⟩ := isd n hn
        by_cases hu0 : u = 0
        · subst hu0
          rw [dec_small (by omega)] at h2
          rw [h2] at h1
          simp at h1
        · obtain ⟨b2, r2, e2, hb2⟩ := dec_head u u (Nat.le_refl _) (by omega)
          rw [e2] at h2
          exact hb2 (List.cons.inj h2).1.symm
      · have hbn : ((b.toNat : Int) == 48) = false := by
          rw [beq_eq_false_iff_ne]
          intro h2
          exact hb (UInt8.toNat_inj.1 (by have : (48 : UInt8).toNat = 48 := rfl; omega))
        rw [hbn]
        exact fin (fun _ h2 => hb (by simpa using h2))
    · rw [if_neg h1]
      rw [ba_size] at h1
      exact fin (fun h2 => by omega)
end Go.Proofs.YtdgdpkemboeaeaaDoor.H
namespace Go.Proofs.YtdgdpkemboeaeaaDoor.H
open Go.RowKit Go.Shelf Go.Proofs.YtdgdpkemboeaeaaDoor.PT Go.Proofs.YtdgdpkemboeaeaaDoor.PR Go.Proofs.YtdgdpkemboeaeaaDoorW.PrintWords Go.Proofs.YtdgdpkemboeaeaaDoorW.PrintLast Go.Proofs.YtdgdpkemboeaeaaDoorW.PrintMore
set_option linter.unusedVariables false
set_option linter.unusedSimpArgs false
theorem tellsI_f {k : Int} (h1 : 1 ≤ k) (h2 : k ≤ 10) : tidemillref26_tellsI.f k = some (shI k) := by
  rcases kinds_of h1 h2 with rfl | rfl | rfl | rfl | rfl | rfl | rfl | rfl | rfl | rfl <;> decide +kernel
theorem tellsN_f {k : Int} (h1 : 1 ≤ k) (h2 : k ≤ 10) : tidemillref26_tellsN.f k = some (shN k) := by
  rcases kinds_of h1 h2 with rfl | rfl | rfl | rfl | rfl | rfl | rfl | rfl | rfl | rfl <;> decide +kernel
theorem shT_f {k : Int} (h1 : 1 ≤ k) (h2 : k ≤ 10) : shT k = decide (k = 1) := by
  rcases kinds_of h1 h2 with rfl | rfl | rfl | rfl | rfl | rfl | rfl | rfl | rfl | rfl <;> decide +kernel
theorem shK_f {k : Int} (h1 : 1 ≤ k) (h2 : k ≤ 10) : shK k = decide (k = 8) := by
  rcases kinds_of h1 h2 with rfl | rfl | rfl | rfl | rfl | rfl | rfl | rfl | rfl | rfl <;> decide +kernel
theorem word_sh {k : Int} (h1 : 1 ≤ k) (h2 : k ≤ 10) : tidemillref26_word.f k = some (ba (shW k)) := by
  rcases kinds_of h1 h2 with rfl | rfl | rfl | rfl | rfl | rfl | rfl | rfl | rfl | rfl <;> decide +kernel
def restT (a : PAct) : List (List UInt8) := (if a.t.size = 0 then [] else [showL a.t.data.toList]) ++ a.keep.map Lib.itoa
def restN (a : PAct) : List (List UInt8) := (if shN a.k = true then [Lib.itoa a.n] else []) ++ restT a
def restI (a : PAct) : List (List UInt8) := (if shI a.k = true then [Lib.itoa a.i] else []) ++ restN a
theorem parts_rest (a : PAct) : partsP a = shW a.k :: restI a := by unfold partsP restI restN restT; simp only [List.append_assoc]
abbrev R6 := Int × Int × Int × ByteArray × List Int × Bool
def actOf (r : R6) : PAct := ⟨r.1, r.2.1, r.2.2.1, r.2.2.2.1, r.2.2.2.2.1⟩
theorem act_step (w0 : List UInt8) (ps : List ByteArray) (k j : Nat) (h1 : 1 ≤ j) (h2 : j ≤ 10) (kd : Int) :
    tidemillref26_Act1.l0 (k + 1) (ba w0 :: ps) (j : Int) kd 0 0 ⟨#[]⟩ = tidemillref26_Act1.l0 k (ba w0 :: ps) ((j + 1 : Nat) : Int) (if shW (j : Int) = w0 then (j : Int) else kd) 0 0 ⟨#[]⟩ := by
  rw [tidemillref26_Act1.l0, if_pos (by omega), word_sh (by omega) (by omega), Option.bind_some, if_pos (by simp only [List.length_cons]; omega), w1 j (by omega)]
  have e : rdOf ByteArray.empty (ba w0 :: ps) 0 = ba w0 := rfl
  rw [e, ba_tl, ba_tl]
  split <;> rfl
theorem nest (w : List UInt8) : (if shW 10 = w then (10 : Int) else if shW 9 = w then 9 else if shW 8 = w then 8 else if shW 7 = w then 7 else if shW 6 = w then 6 else if shW 5 = w then 5 else if shW 4 = w then 4 else if shW 3 = w then 3 else if shW 2 = w then 2 else if shW 1 = w then 1 else 0) = (wordIx w : Int) := by
  unfold wordIx
  by_cases h1 : w = shW 1
  · subst h1; decide +kernel
  by_cases h2 : w = shW 2
  · subst h2; decide +kernel
  by_cases h3 : w = shW 3
  · subst h3; decide +kernel
  by_cases h4 : w = shW 4
  · subst h4; decide +kernel
  by_cases h5 : w = shW 5
  · subst h5; decide +kernel
  by_cases h6 : w = shW 6
  · subst h6; decide +kernel
  by_cases h7 : w = shW 7
  · subst h7; decide +kernel
  by_cases h8 : w = shW 8
  · subst h8; decide +kernel
  by_cases h9 : w = shW 9
  · subst h9; decide +kernel
  by_cases h10 : w = shW 10
  · subst h10; decide +kernel
  rw [if_neg (Ne.symm h10), if_neg (Ne.symm h9), if_neg (Ne.symm h8), if_neg (Ne.symm h7), if_neg (Ne.symm h6), if_neg (Ne.symm h5), if_neg (Ne.symm h4), if_neg (Ne.symm h3), if_neg (Ne.symm h2), if_neg (Ne.symm h1)]
  rw [if_neg h1, if_neg h2, if_neg h3, if_neg h4, if_neg h5, if_neg h6, if_neg h7, if_neg h8, if_neg h9, if_neg h10]
  rfl
theorem act_loop (w0 : List UInt8) (ps : List ByteArray) (k : Nat) :
    tidemillref26_Act1.l0 (k + 10) (ba w0 :: ps) 1 0 0 0 ⟨#[]⟩ = tidemillref26_Act1.l0 k (ba w0 :: ps) 11 (wordIx w0 : Int) 0 0 ⟨#[]⟩ := by
  have h := fun k j h1 h2 kd => act_step w0 ps k j h1 h2 kd
  have s1 := h (k + 9) 1 (by decide) (by decide) 0
  have s2 := h (k + 8) 2 (by decide) (by decide) (if shW 1 = w0 then 1 else 0)
  have s3 := h (k + 7) 3 (by decide) (by decide) (if shW 2 = w0 then 2 else (if shW 1 = w0 then 1 else 0))
  have s4 := h (k + 6) 4 (by decide) (by decide) (if shW 3 = w0 then 3 else (if shW 2 = w0 then 2 else (if shW 1 = w0 then 1 else 0)))
  have s5 := h (k + 5) 5 (by decide) (by decide) (if shW 4 = w0 then 4 else (if shW 3 = w0 then 3 else (if shW 2 = w0 then 2 else (if shW 1 = w0 then 1 else 0))))
  have s6 := h (k + 4) 6 (by decide) (by decide) (if shW 5 = w0 then 5 else (if shW 4 = w0 then 4 else (if shW 3 = w0 then 3 else (if shW 2 = w0 then 2 else (if shW 1 = w0 then 1 else 0)))))
  have s7 := h (k + 3) 7 (by decide) (by decide) (if shW 6 = w0 then 6 else (if shW 5 = w0 then 5 else (if shW 4 = w0 then 4 else (if shW 3 = w0 then 3 else (if shW 2 = w0 then 2 else (if shW 1 = w0 then 1 else 0))))))
  have s8 := h (k + 2) 8 (by decide) (by decide) (if shW 7 = w0 then 7 else (if shW 6 = w0 then 6 else (if shW 5 = w0 then 5 else (if shW 4 = w0 then 4 else (if shW 3 = w0 then 3 else (if shW 2 = w0 then 2 else (if shW 1 = w0 then 1 else 0)))))))
  have s9 := h (k + 1) 9 (by decide) (by decide) (if shW 8 = w0 then 8 else (if shW 7 = w0 then 7 else (if shW 6 = w0 then 6 else (if shW 5 = w0 then 5 else (if shW 4 = w0 then 4 else (if shW 3 = w0 then 3 else (if shW 2 = w0 then 2 else (if shW 1 = w0 then 1 else 0))))))))
  have s10 := h k 10 (by decide) (by decide) (if shW 9 = w0 then 9 else (if shW 8 = w0 then 8 else (if shW 7 = w0 then 7 else (if shW 6 = w0 then 6 else (if shW 5 = w0 then 5 else (if shW 4 = w0 then 4 else (if shW 3 = w0 then 3 else (if shW 2 = w0 then 2 else (if shW 1 = w0 then 1 else 0)))))))))
  refine (s1.trans (s2.trans (s3.trans (s4.trans (s5.trans (s6.trans (s7.trans (s8.trans (s9.trans (s10.trans ?_))))))))))
  rw [← nest w0]
  rfl
theorem keep_loop (kd i0 n0 : Int) (t : ByteArray) (p : List (List UInt8)) (hp : ∀ q ∈ p, q.length ≤ 100000) (hl : p.length ≤ 1000000) : ∀ (d k i : Nat) (ok : Bool) (keep : List Int), i + d = p.length → d + 100004 < k → keep.length = i →
    (ok = true → p.take i = keep.map Lib.itoa ∧ ∀ x ∈ keep, 0 ≤ x ∧ x ≤ 1000000000) → (ok = false → ∃ q ∈ p, ∀ n, ¬ IsNum q n) →
    ∃ keep' ok', tidemillref26_Act1.l1 k (p.map ba) ok (p.length : Int) (i : Int) kd i0 n0 t keep = some (kd, i0, n0, t, keep', ok') ∧ (ok' = true → p = keep'.map Lib.itoa ∧ (∀ x ∈ keep', 0 ≤ x ∧ x ≤ 1000000000) ∧ p.length ≤ 16) ∧ (ok' = false → (∃ q ∈ p, ∀ n, ¬ IsNum q n) ∨ 16 < p.length) := by
  intro d
  induction d with
  | zero =>
    intro k i ok keep hi hk hkl h1 h2
    obtain ⟨k, rfl⟩ : ∃ m, k = m + 1 := ⟨k - 1, by omega⟩
    rw [tidemillref26_Act1.l1, if_neg (by omega)]
    cases ok with
    | true =>
      obtain ⟨h3, h4⟩ := h1 rfl
      rw [List.take_of_length_le (by omega)] at h3
      refine ⟨keep, _, by rw [if_pos rfl], fun h => ⟨h3, h4, ?_⟩, fun h => .inr ?_⟩
      · rw [List.length_map] at h
        have := of_decide_eq_true h
        omega
      · rw [List.length_map] at h
        have := of_decide_eq_false h
        omega
    | false => exact ⟨keep, false, by rw [if_neg (by decide)], (fun h => by cases h), fun _ => .inl (h2 rfl)⟩
  | succ d ih =>
    intro k i ok keep hi hk hkl h1 h2
    obtain ⟨k, rfl⟩ : ∃ m, k = m + 1 := ⟨k - 1, by omega⟩
    have hlt : i < p.length := by omega
    have hrd : rdOf ByteArray.empty (p.map ba) (i : Int) = ba p[i] := by
      unfold rdOf
      rw [Int.toNat_natCast, List.getD_eq_getElem?_getD, List.getElem?_map, List.getElem?_eq_getElem hlt]
      rfl
    have hmem : p[i] ∈ p := List.getElem_mem hlt
    have hkl2 : keep.length < 17592186044416 := by omega
    rw [tidemillref26_Act1.l1, if_pos (by omega), if_pos (by omega), if_pos (by rw [List.length_map]; omega), hrd]
    rcases number_cases p[i] (by have := hp _ hmem; omega) k (by have := hp _ hmem; omega) with ⟨n, hn, hf⟩ | ⟨hn, x, hf⟩
    · rw [hf, Option.bind_some]
      simp only
      cases ok with
      | true =>
        rw [if_pos rfl, if_pos hkl2, w1 i (by omega)]
        refine ih k (i + 1) true (keep ++ [n]) (by omega) (by omega) (by rw [List.length_append, List.length_singleton]; omega) (fun _ => ?_) (fun h => by cases h)
        obtain ⟨h3, h4⟩ := h1 rfl
        refine ⟨by rw [List.take_succ_eq_append_getElem hlt, h3, List.map_append, List.map_singleton, hn.2.2], fun x hx => ?_⟩
        rcases List.mem_append.1 hx with hx | hx
        · exact h4 x hx
        · rw [List.mem_singleton.1 hx]; exact ⟨hn.1, hn.2.1⟩
      | false =>
        rw [if_neg (by decide), if_pos hkl2, w1 i (by omega)]
        exact ih k (i + 1) false (keep ++ [n]) (by omega) (by omega) (by rw [List.length_append, List.length_singleton]; omega) (fun h => by cases h) (fun _ => h2 rfl)
    · rw [hf, Option.bind_some]
      simp only
      cases ok with
      | true =>
        rw [if_pos rfl, if_pos hkl2, w1 i (by omega)]
        exact ih k (i + 1) false (keep ++ [x]) (by omega) (by omega) (by rw [List.length_append, List.length_singleton]; omega) (fun h => by cases h) (fun _ => ⟨_, hmem, hn⟩)
      | false =>
        rw [if_neg (by decide), if_pos hkl2, w1 i (by omega)]
        exact ih k (i + 1) false (keep ++ [x]) (by omega) (by omega) (by rw [List.length_append, List.length_singleton]; omega) (fun h => by cases h) (fun _ => h2 rfl)
structure In9 (sh : Bool) (n : Int) : Prop where
  lo : 0 ≤ n
  hi : n ≤ 1000000000
  z : sh = false → n = 0
theorem good_mk {kd i0 n0 : Int} (h1 : 1 ≤ kd) (h2 : kd ≤ 10) (hi : In9 (shI kd) i0) (hn : In9 (shN kd) n0) : GoodP ⟨kd, i0, n0, ⟨#[]⟩, []⟩ :=
  ⟨h1, h2, hi.lo, hi.hi, hi.z, hn.lo, hn.hi, hn.z, fun _ => rfl, by simp, by simp, fun _ => rfl⟩
theorem act_j3 {kd i0 n0 : Int} (h1 : 1 ≤ kd) (h2 : kd ≤ 10) (hi : In9 (shI kd) i0) (hn : In9 (shN kd) n0) (qs : List (List UInt8)) (hq : ∀ q ∈ qs, q.length ≤ 100000) (hl : qs.length ≤ 1000000) (k : Nat) (hk : 2000000 < k) :
    ∃ r : R6, tidemillref26_Act1.j3 k (qs.map ba) true kd i0 n0 ⟨#[]⟩ = some r ∧ (r.2.2.2.2.2 = true → GoodP (actOf r) ∧ (actOf r).k = kd ∧ (actOf r).i = i0 ∧ (actOf r).n = n0 ∧ restT (actOf r) = qs) ∧ (r.2.2.2.2.2 = false → ∀ a, GoodP a → a.k = kd → a.i = i0 → a.n = n0 → restT a ≠ qs) := by
  obtain ⟨k, rfl⟩ : ∃ m, k = m + 1 + 1 := ⟨k - 2, by omega⟩
  rw [tidemillref26_Act1.j3, if_pos rfl]
  have hg := good_mk h1 h2 hi hn
  have hT := shT_f h1 h2
  have hK := shK_f h1 h2
  by_cases k1 : kd = 1
  · subst k1
    rw [if_pos rfl, List.length_map]
    have nok : ∀ a, GoodP a → a.k = 1 → restT a = if a.t.size = 0 then [] else [showL a.t.data.toList] := by
      intro a ha hak
      have := ha.kz (by rw [hak]; decide +kernel)
      unfold restT
      rw [this, List.map_nil, List.append_nil]
    by_cases hl1 : qs.length = 1
    · obtain ⟨q, rfl⟩ := List.length_eq_one_iff.1 hl1
      rw [show ((([q] : List (List UInt8)).length : Int) == 1) = true from rfl, tidemillref26_Act1.j4, if_pos rfl, if_pos (by simp)]
      have e : rdOf ByteArray.empty (([q] : List (List UInt8)).map ba) 0 = ba q := rfl
      rw [e, refUnshow_f q (by have := hq q (by simp); omega) k (by have := hq q (by simp); omega), Option.bind_some]
      simp only
      cases hu : unshowL q with
      | none =>
        have hr : unR q = (⟨#[]⟩, 2) := by unfold unR; rw [hu]
        rw [hr]
        refine ⟨_, by rw [if_neg (by decide)], (fun h => by cases h), fun _ a ha hak _ _ hr => ?_⟩
        rw [nok a ha hak] at hr
        split at hr
        · cases hr
        · have h3 := List.cons.inj hr
          have := unshowL_show a.t.data.toList
          rw [h3.1, hu] at this
          cases this
      | some t =>
        have hr : unR q = (ba t, 0) := by unfold unR; rw [hu]
        have hs := unshowL_some hu
        rw [hr]
        refine ⟨_, by rw [if_pos (show decide ((ba t, (0 : Int)).snd = 0) = true from rfl)], fun h => ?_, fun h a ha hak _ _ hr => ?_⟩
        · simp only [ba_tl] at h
          have hne : t ≠ [] := by simpa using h
          refine ⟨⟨h1, h2, hi.lo, hi.hi, hi.z, hn.lo, hn.hi, hn.z, fun _ => rfl, by simp [actOf], by simp [actOf], fun h => ?_⟩, rfl, rfl, rfl, ?_⟩
          · exact absurd h (by show ¬ shT 1 = false; decide +kernel)
          · unfold restT actOf
            simp only [List.map_nil, List.append_nil]
            rw [if_neg (by rw [ba_size]; intro h3; exact hne (List.eq_nil_of_length_eq_zero h3)), ba_data, hs]
        · simp only [ba_tl] at h
          have hnil : t = [] := by simpa using h
          rw [nok a ha hak] at hr
          split at hr
          · cases hr
          · rename_i hz
            have h3 := (List.cons.inj hr).1
            rw [← hs] at h3
            have h4 := showL_inj _ _ h3
            rw [hnil] at h4
            rw [← len_of, h4] at hz
            exact hz rfl
    · have hb : ((qs.length : Int) == 1) = false := by rw [beq_eq_false_iff_ne]; omega
      rw [hb, tidemillref26_Act1.j4, if_neg (by decide), if_neg (by decide), List.length_map]
      refine ⟨_, rfl, fun h => ?_, fun h a ha hak _ _ hr => ?_⟩
      · have hz : qs.length = 0 := by have := eq_of_beq h; omega
        obtain rfl := List.eq_nil_of_length_eq_zero hz
        exact ⟨hg, rfl, rfl, rfl, rfl⟩
      · have hz : qs.length ≠ 0 := by
          intro h3
          simp only [h3] at h
          exact absurd h (by decide)
        rw [nok a ha hak] at hr
        rw [← hr] at hl1 hz
        split at hl1
        · rename_i h4; rw [if_pos h4] at hz; exact hz rfl
        · exact hl1 rfl
  · rw [if_neg k1, tidemillref26_Act1.j4, if_neg (by decide)]
    have hT2 : shT kd = false := by rw [hT, decide_eq_false k1]
    by_cases k8 : kd = 8
    · rw [if_pos k8, List.length_map]
      obtain ⟨keep, ok, hf, hok, hno⟩ := keep_loop kd i0 n0 ⟨#[]⟩ qs hq hl qs.length k 0 true [] (by omega) (by omega) rfl (fun _ => ⟨rfl, by simp⟩) (fun h => by cases h)
      refine ⟨_, hf, fun h => ?_, fun h a ha hak _ _ hr => ?_⟩
      · obtain ⟨h3, h4, h5⟩ := hok h
        refine ⟨⟨h1, h2, hi.lo, hi.hi, hi.z, hn.lo, hn.hi, hn.z, fun hz => ?_, ?_, h4, fun _ => rfl⟩, rfl, rfl, rfl, h3.symm⟩
        · exact absurd hz (by show ¬ shK kd = false; rw [hK, decide_eq_true k8]; decide)
        · show keep.length ≤ 16
          rw [h3, List.length_map] at h5
          exact h5
      · have hz := ha.tz (by rw [hak]; exact hT2)
        have hr2 : a.keep.map Lib.itoa = qs := by
          unfold restT at hr
          rwa [if_pos hz, List.nil_append] at hr
        rcases hno h with ⟨q, hqm, hbad⟩ | h16
        · rw [← hr2] at hqm
          obtain ⟨x, hx, rfl⟩ := List.mem_map.1 hqm
          exact hbad x ⟨(ha.ka x hx).1, (ha.ka x hx).2, rfl⟩
        · rw [← hr2, List.length_map] at h16
          have := ha.kl
          omega
    · rw [if_neg k8, List.length_map]
      have hK2 : shK kd = false := by rw [hK, decide_eq_false k8]
      refine ⟨_, rfl, fun h => ?_, fun h a ha hak _ _ hr => ?_⟩
      · have hz : qs.length = 0 := by have := eq_of_beq h; omega
        obtain rfl := List.eq_nil_of_length_eq_zero hz
        exact ⟨hg, rfl, rfl, rfl, rfl⟩
      · have hz : qs.length ≠ 0 := by
          intro h3
          simp only [h3] at h
          exact absurd h (by decide)
        have h3 := ha.tz (by rw [hak]; exact hT2)
        have h4 := ha.kz (by rw [hak]; exact hK2)
        unfold restT at hr
        rw [if_pos h3, h4] at hr
        rw [← hr] at hz
        exact hz rfl
theorem drop_ba (q : List UInt8) (qs : List (List UInt8)) : ((q :: qs).map ba).drop (1 : Int).toNat = qs.map ba := rfl
theorem rd_ba (q : List UInt8) (qs : List (List UInt8)) : rdOf ByteArray.empty ((q :: qs).map ba) 0 = ba q := rfl
theorem j3_false (k : Nat) (p : List ByteArray) (a b c : Int) (t : ByteArray) : tidemillref26_Act1.j3 (k + 1) p false a b c t = some (0, 0, 0, ⟨#[]⟩, [], false) := by rw [tidemillref26_Act1.j3, if_neg (by decide)]
theorem act_j1 {kd i0 : Int} (h1 : 1 ≤ kd) (h2 : kd ≤ 10) (hi : In9 (shI kd) i0) (qs : List (List UInt8)) (hq : ∀ q ∈ qs, q.length ≤ 100000) (hl : qs.length ≤ 1000000) (k : Nat) (hk : 2000002 < k) :
    ∃ r : R6, tidemillref26_Act1.j1 k (qs.map ba) true kd i0 0 ⟨#[]⟩ = some r ∧ (r.2.2.2.2.2 = true → GoodP (actOf r) ∧ (actOf r).k = kd ∧ (actOf r).i = i0 ∧ restN (actOf r) = qs) ∧ (r.2.2.2.2.2 = false → ∀ a, GoodP a → a.k = kd → a.i = i0 → restN a ≠ qs) := by
  obtain ⟨k, rfl⟩ : ∃ m, k = m + 1 + 1 := ⟨k - 2, by omega⟩
  rw [tidemillref26_Act1.j1, if_pos rfl, tellsN_f h1 h2, Option.bind_some, tidemillref26_Act1.j2]
  cases hs : shN kd with
  | true =>
    rw [if_pos rfl]
    cases qs with
    | nil =>
      refine ⟨_, by rw [if_pos (show (([] : List (List UInt8)).map ba).length = (0 : Int) from rfl)], (fun h => by cases h), fun _ a ha hak _ hr => ?_⟩
      unfold restN at hr
      rw [hak, hs, if_pos rfl] at hr
      cases hr
    | cons q qs =>
      rw [if_neg (by simp only [List.length_map, List.length_cons]; omega), if_pos (by simp only [List.length_map, List.length_cons]; omega), rd_ba, drop_ba]
      have hq0 := hq q (by simp)
      rcases number_cases q (by omega) k (by omega) with ⟨n, hn, hf⟩ | ⟨hn, x, hf⟩
      · rw [hf, Option.bind_some, if_pos (by simp only [List.length_map, List.length_cons]; omega)]
        obtain ⟨r, hr, hok, hno⟩ := act_j3 h1 h2 hi (n0 := n) ⟨hn.1, hn.2.1, fun h => by rw [hs] at h; cases h⟩ qs (fun z hz => hq z (by simp [hz])) (by rw [List.length_cons] at hl; omega) k (by omega)
        refine ⟨r, hr, fun h => ?_, fun h a ha hak hai hr2 => ?_⟩
        · obtain ⟨g1, g2, g3, g4, g5⟩ := hok h
          refine ⟨g1, g2, g3, ?_⟩
          unfold restN
          rw [g2, hs, if_pos rfl, g4, g5, hn.2.2]
          rfl
        · unfold restN at hr2
          rw [hak, hs, if_pos rfl] at hr2
          have h3 := List.cons.inj hr2
          have h4 : a.n = n := IsNum.one ⟨ha.n0, ha.n1, h3.1⟩ hn
          exact hno h a ha hak hai h4 h3.2
      · rw [hf, Option.bind_some, if_pos (by simp only [List.length_map, List.length_cons]; omega)]
        obtain ⟨k, rfl⟩ : ∃ m, k = m + 1 := ⟨k - 1, by omega⟩
        refine ⟨_, j3_false _ _ _ _ _ _, (fun h => by cases h), fun h a ha hak hai hr2 => ?_⟩
        unfold restN at hr2
        rw [hak, hs, if_pos rfl] at hr2
        exact hn a.n ⟨ha.n0, ha.n1, (List.cons.inj hr2).1⟩
  | false =>
    rw [if_neg (by decide)]
    obtain ⟨r, hr, hok, hno⟩ := act_j3 h1 h2 hi (n0 := 0) ⟨by omega, by omega, fun _ => rfl⟩ qs hq hl k (by omega)
    refine ⟨r, hr, fun h => ?_, fun h a ha hak hai hr2 => ?_⟩
    · obtain ⟨g1, g2, g3, g4, g5⟩ := hok h
      refine ⟨g1, g2, g3, ?_⟩
      unfold restN
      rw [g2, hs, if_neg (by decide), g5]
      rfl
    · unfold restN at hr2
      rw [hak, hs, if_neg (by decide), List.nil_append] at hr2
      exact hno h a ha hak hai (ha.nz (by rw [hak]; exact hs)) hr2
theorem j1_false (k : Nat) (p : List ByteArray) (a b c : Int) (t : ByteArray) : tidemillref26_Act1.j1 (k + 1 + 1 + 1) p false a b c t = some (0, 0, 0, ⟨#[]⟩, [], false) := by
  rw [tidemillref26_Act1.j1, if_neg (by decide), tidemillref26_Act1.j2, if_neg (by decide), j3_false]
theorem act_ws {l : List UInt8} {a : PAct} : actA l = some a ↔ GoodP a ∧ partsP a = wordsL l := by
  rw [actA_iff, goodP_iff]
  constructor
  · rintro ⟨h1, rfl⟩
    exact ⟨h1, (words_line (goodP_iff.2 h1)).symm⟩
  · rintro ⟨h1, h2⟩
    refine ⟨h1, ?_⟩
    unfold lineP
    rw [h2]
    exact (join_split 32 l.length l (Nat.le_refl _)).1
theorem refAct1_f (l : List UInt8) (hl : l.length ≤ 100000) (k : Nat) (hk : 2000020 < k) :
    ∃ r : R6, tidemillref26_Act1.f k (ba l) = some r ∧ (r.2.2.2.2.2 = true → actA l = some (actOf r)) ∧ (r.2.2.2.2.2 = false → actA l = none) := by
  have none_of : (∀ a, GoodP a → partsP a ≠ wordsL l) → actA l = none := by
    intro h
    cases ha : actA l with
    | none => rfl
    | some a => exact absurd (act_ws.1 ha).2 (h a (act_ws.1 ha).1)
  unfold tidemillref26_Act1.f
  have hsp := refSplit_f l 32 (by omega) k (by omega)
  change tidemillref07_Split.f k (ba l) 32 = _ at hsp
  rw [hsp, Option.bind_some]
  have hj := join_split 32 l.length l (Nat.le_refl _)
  have hws : splitL (ba l) 32 = (wordsL l).map ba := by
    unfold wordsL
    rw [List.map_map]
    have : (ba ∘ fun p : ByteArray => p.data.toList) = id := by funext x; exact ba_of x
    rw [this, List.map_id]
  have hlen : (wordsL l).length ≤ l.length + 1 := by
    unfold wordsL
    rw [List.length_map]
    have := hj.2.2.2
    first | omega | exact this
  have hq : ∀ q ∈ wordsL l, q.length ≤ 100000 := by
    intro q hqm
    unfold wordsL at hqm
    obtain ⟨p, hp, rfl⟩ := List.mem_map.1 hqm
    have := hj.2.2.1 p hp
    rw [len_of]
    omega
  rw [hws]
  have hne : wordsL l ≠ [] := by
    intro h
    rw [h] at hws
    exact hj.2.1 hws
  cases hw : wordsL l with
  | nil => exact absurd hw hne
  | cons w0 ps =>
    rw [hw] at hlen hq none_of
    obtain ⟨k, rfl⟩ : ∃ m, k = m + 1 + 10 := ⟨k - 11, by omega⟩
    rw [List.map_cons, act_loop, tidemillref26_Act1.l0, if_neg (by decide)]
    have hwle := wordIx_le w0
    have hix : ∀ a : PAct, GoodP a → partsP a = w0 :: ps → a.k = (wordIx w0 : Int) ∧ restI a = ps := by
      intro a ha hp
      rw [parts_rest] at hp
      have h3 := List.cons.inj hp
      exact ⟨by rw [← h3.1, word_ix ha.k1 ha.k2], h3.2⟩
    by_cases hz : (wordIx w0 : Int) = 0
    · rw [if_pos hz]
      refine ⟨_, rfl, (fun h => by cases h), fun _ => none_of (fun a ha hp => ?_)⟩
      have := (hix a ha hp).1
      have := ha.k1
      omega
    · rw [if_neg hz, if_pos (by simp only [List.length_cons]; omega)]
      have hd : (ba w0 :: ps.map ba).drop (1 : Int).toNat = ps.map ba := rfl
      rw [hd, Option.bind_some]
      generalize hkd : (wordIx w0 : Int) = kd at hix hz
      have h1 : 1 ≤ kd := by omega
      have h2 : kd ≤ 10 := by omega
      have hwk : shW kd = w0 := by
        subst hkd
        have key : ∀ j : Fin 11, 1 ≤ j.1 → wordIx w0 = j.1 → shW (j.1 : Int) = w0 := by
          intro j hj1 hj2
          unfold wordIx at hj2
          split at hj2
          · rename_i h; rw [← hj2]; exact h.symm
          split at hj2
          · rename_i h; rw [← hj2]; exact h.symm
          split at hj2
          · rename_i h; rw [← hj2]; exact h.symm
          split at hj2
          · rename_i h; rw [← hj2]; exact h.symm
          split at hj2
          · rename_i h; rw [← hj2]; exact h.symm
          split at hj2
          · rename_i h; rw [← hj2]; exact h.symm
          split at hj2
          · rename_i h; rw [← hj2]; exact h.symm
          split at hj2
          · rename_i h; rw [← hj2]; exact h.symm
          split at hj2
          · rename_i h; rw [← hj2]; exact h.symm
          split at hj2
          · rename_i h; rw [← hj2]; exact h.symm
          · omega
        exact key ⟨wordIx w0, by omega⟩ (show 1 ≤ wordIx w0 by omega) rfl
      rw [tellsI_f h1 h2, Option.bind_some]
      rw [List.length_cons] at hlen
      have hfin : ∀ r : R6, GoodP (actOf r) → (actOf r).k = kd → restI (actOf r) = ps → actA l = some (actOf r) := by
        intro r g1 g2 g3
        rw [act_ws, hw]
        exact ⟨g1, by rw [parts_rest, g2, hwk, g3]⟩
      have hq2 : ∀ q ∈ ps, q.length ≤ 100000 := fun q h => hq q (by simp [h])
      cases hs : shI kd with
      | true =>
        rw [if_pos rfl]
        cases ps with
        | nil =>
          refine ⟨_, by rw [if_pos (show (([] : List (List UInt8)).map ba).length = (0 : Int) from rfl)], (fun h => by cases h), fun _ => none_of (fun a ha hp => ?_)⟩
          obtain ⟨e1, e2⟩ := hix a ha hp
          unfold restI at e2
          rw [e1, hs, if_pos rfl] at e2
          cases e2
        | cons q qs =>
          rw [if_neg (by simp only [List.length_map, List.length_cons]; omega), if_pos (by simp only [List.length_map, List.length_cons]; omega), rd_ba, drop_ba]
          have hq0 := hq2 q (by simp)
          rw [List.length_cons] at hlen
          rcases number_cases q (by omega) k (by omega) with ⟨n, hn, hf⟩ | ⟨hn, x, hf⟩
          · rw [hf, Option.bind_some, if_pos (by simp only [List.length_map, List.length_cons]; omega)]
            obtain ⟨r, hr, hok, hno⟩ := act_j1 h1 h2 (i0 := n) ⟨hn.1, hn.2.1, fun h => by rw [hs] at h; cases h⟩ qs (fun z hz => hq2 z (by simp [hz])) (by omega) k (by omega)
            refine ⟨r, hr, fun h => ?_, fun h => none_of (fun a ha hp => ?_)⟩
            · obtain ⟨g1, g2, g3, g5⟩ := hok h
              refine hfin r g1 g2 ?_
              unfold restI
              rw [g2, hs, if_pos rfl, g3, g5, hn.2.2]
              rfl
            · obtain ⟨e1, e2⟩ := hix a ha hp
              unfold restI at e2
              rw [e1, hs, if_pos rfl] at e2
              have h3 := List.cons.inj e2
              exact hno h a ha e1 (IsNum.one ⟨ha.i0, ha.i1, h3.1⟩ hn) h3.2
          · rw [hf, Option.bind_some, if_pos (by simp only [List.length_map, List.length_cons]; omega)]
            obtain ⟨k, rfl⟩ : ∃ m, k = m + 1 + 1 + 1 := ⟨k - 3, by omega⟩
            refine ⟨_, j1_false _ _ _ _ _ _, (fun h => by cases h), fun h => none_of (fun a ha hp => ?_)⟩
            obtain ⟨e1, e2⟩ := hix a ha hp
            unfold restI at e2
            rw [e1, hs, if_pos rfl] at e2
            exact hn a.i ⟨ha.i0, ha.i1, (List.cons.inj e2).1⟩
      | false =>
        rw [if_neg (by decide)]
        obtain ⟨r, hr, hok, hno⟩ := act_j1 h1 h2 (i0 := 0) ⟨by omega, by omega, fun _ => rfl⟩ ps hq2 (by omega) k (by omega)
        refine ⟨r, hr, fun h => ?_, fun h => none_of (fun a ha hp => ?_)⟩
        · obtain ⟨g1, g2, g3, g5⟩ := hok h
          refine hfin r g1 g2 ?_
          unfold restI
          rw [g2, hs, if_neg (by decide), g5]
          rfl
        · obtain ⟨e1, e2⟩ := hix a ha hp
          unfold restI at e2
          rw [e1, hs, if_neg (by decide), List.nil_append] at e2
          exact hno h a ha e1 (ha.iz (by rw [e1]; exact hs)) e2
def s46 (a : PAct) : S46 := ⟨a.k, a.i, a.n, a.t, a.keep⟩
end Go.Proofs.YtdgdpkemboeaeaaDoor.H

