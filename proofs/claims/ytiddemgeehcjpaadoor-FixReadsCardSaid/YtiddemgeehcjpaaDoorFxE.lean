/- The reference's Text, Read and Add tell what fix.Text, fix.Read and fix.Add tell. -/
import Derived.Test.YtiddemgeehcjpaaDoorPAx
import Derived.Test.YtiddemgeehcjpaaDoorFxRd
namespace Go.Proofs.YtiddemgeehcjpaaDoor.H
open Go.RowKit Go.Shelf Go.Proofs.YtiddemgeehcjpaaDoor.PA Go.Proofs.YtiddemgeehcjpaaDoorW.PrintWords Go.Proofs.YtiddemgeehcjpaaDoorW.PrintLast Go.Proofs.YtiddemgeehcjpaaDoorW.PrintMore
set_option linter.unusedVariables false

def i64 (a : Int) : Prop := -9223372036854775808 ≤ a ∧ a ≤ 9223372036854775807
theorem digits_loop (s : ByteArray) (hs : s.size ≤ 1000000) (most : Nat) : ∀ (d k : Nat) (i : Int), 0 ≤ i → i ≤ (s.size : Int) → (s.size : Int) - i = d → d < k →
    tidemillref01_Digits.l0 k s (most : Int) i = some ((tl s i).all dgB && decide (1 ≤ s.size) && decide (s.size ≤ most)) := by
  intro d
  induction d with
  | zero =>
    intro k i h0 h1 hd hk
    obtain ⟨k, rfl⟩ : ∃ m, k = m + 1 := ⟨k - 1, by omega⟩
    obtain rfl : i = s.size := by omega
    simp only [tidemillref01_Digits.l0]
    rw [if_neg (by omega), tl_end _ _ (by omega), List.all_nil, Bool.true_and]
    by_cases h : (s.size : Int) ≥ 1
    · rw [if_pos h, decide_eq_true (show 1 ≤ s.size by omega), Bool.true_and]
      congr 1
      exact decide_eq_decide.2 (by omega)
    · rw [if_neg h, decide_eq_false (show ¬ 1 ≤ s.size by omega)]
      rfl
  | succ d ih =>
    intro k i h0 h1 hd hk
    obtain ⟨k, rfl⟩ : ∃ m, k = m + 1 := ⟨k - 1, by omega⟩
    obtain ⟨b, e, eb⟩ := tl_cons s i h0 (by omega)
    simp only [tidemillref01_Digits.l0]
    rw [if_pos (by omega), if_pos h0, eb, e, List.all_cons]
    have hdg : dgB b = decide (48 ≤ b.toNat ∧ b.toNat ≤ 57) := rfl
    by_cases h48 : (b.toNat : Int) < 48
    · rw [if_pos h48, hdg, decide_eq_false (by omega)]
      rfl
    · rw [if_neg h48]
      by_cases h57 : (b.toNat : Int) > 57
      · rw [if_pos h57, hdg, decide_eq_false (by omega)]
        rfl
      · rw [if_neg h57, hdg, decide_eq_true (by omega), Bool.true_and, wrap_in (by omega) (by omega)]
        exact ih k (i + 1) (by omega) (by omega) (by omega) (by omega)
theorem refDigits_eq (s : ByteArray) (hs : s.size ≤ 1000000) (most k : Nat) (hk : s.size < k) : tidemillref01_Digits.f k s (most : Int) = some (digL most s.data.toList) := by
  unfold tidemillref01_Digits.f
  rw [digits_loop s hs most s.size k 0 (by omega) (by omega) (by omega) hk, tl_zero]
  unfold digL
  simp
theorem byte_sub (b : UInt8) (h : dgB b = true) : (((b.toNat : Int) - 48) % 256) = ((b.toNat - 48 : Nat) : Int) := by
  unfold dgB at h
  rw [decide_eq_true_iff] at h
  omega
/-- The fraction's loop. -/
theorem frac_loop (sg : Int) (hsg : sg = 1 ∨ sg = -1) (P : List UInt8) (hP : P.all dgB = true) (hp6 : P.length ≤ 6) : ∀ (d k i v : Nat), i + d = 6 → d < k → v < 10 ^ (12 + i) →
    tidemillref01_Read.l1 k sg (ba P) (v : Int) (i : Int) = some (sg * (valF v (P.drop i ++ List.replicate (6 - max i P.length) 48) : Int), true) := by
  intro d
  induction d with
  | zero =>
    intro k i v hi hk hv
    obtain ⟨k, rfl⟩ : ∃ m, k = m + 1 := ⟨k - 1, by omega⟩
    obtain rfl : i = 6 := by omega
    simp only [tidemillref01_Read.l1]
    have h18 : (10 : Nat) ^ (12 + 6) = 1000000000000000000 := by decide
    rw [if_neg (by decide), List.drop_eq_nil_iff.2 hp6, show 6 - max 6 P.length = 0 by omega]
    simp only [List.replicate_zero, List.append_nil, valF_nil]
    rw [wrap_in (by rcases hsg with rfl | rfl <;> omega) (by rcases hsg with rfl | rfl <;> omega)]
  | succ d ih =>
    intro k i v hi hk hv
    obtain ⟨k, rfl⟩ : ∃ m, k = m + 1 := ⟨k - 1, by omega⟩
    have h18 : (10 : Nat) ^ (12 + i) ≤ 10 ^ 17 := Nat.pow_le_pow_right (by decide) (by omega)
    have h17 : (10 : Nat) ^ 17 = 100000000000000000 := by decide
    have hstep : ∀ x : Nat, x ≤ 9 → v * 10 + x < 10 ^ (12 + (i + 1)) := by
      intro x hx
      rw [show 12 + (i + 1) = 12 + i + 1 by omega, Nat.pow_succ]
      omega
    simp only [tidemillref01_Read.l1]
    rw [if_pos (by omega), ba_size]
    by_cases hlt : (i : Int) < P.length
    · have hil : i < P.length := by omega
      have hsz : (i : Int) < ((ba P).size : Int) := by rw [ba_size]; exact hlt
      obtain ⟨b, e1, e2⟩ := tl_cons (ba P) (i : Int) (by omega) hsz
      have e3 : P.drop i = b :: P.drop (i + 1) := by
        have := e1
        unfold tl at this
        rwa [ba_data, Int.toNat_natCast, show ((i : Int) + 1).toNat = i + 1 by omega] at this
      have hb : dgB b = true := by
        have hm : b ∈ P := List.mem_of_mem_drop (by rw [e3]; exact List.mem_cons_self)
        exact List.all_eq_true.1 hP b hm
      have hb9 : b.toNat - 48 ≤ 9 := by unfold dgB at hb; rw [decide_eq_true_iff] at hb; omega
      rw [if_pos hlt, if_pos (by omega), e2, byte_sub b hb, wrap_in (n := (v : Int) * 10) (by omega) (by omega), wrap_in (by omega) (by omega), wrap_in (n := (i : Int) + 1) (by omega) (by omega)]
      have := ih k (i + 1) (v * 10 + (b.toNat - 48)) (by omega) (by omega) (hstep _ hb9)
      rw [show ((v * 10 + (b.toNat - 48) : Nat) : Int) = (v : Int) * 10 + ((b.toNat - 48 : Nat) : Int) by omega, show ((i + 1 : Nat) : Int) = (i : Int) + 1 by omega] at this
      rw [this, e3, List.cons_append, valF_cons, show max (i + 1) P.length = max i P.length by omega]
    · rw [if_neg hlt, wrap_in (n := (v : Int) * 10) (by omega) (by omega), wrap_in (n := (i : Int) + 1) (by omega) (by omega)]
      have := ih k (i + 1) (v * 10) (by omega) (by omega) (hstep 0 (by decide))
      rw [show ((v * 10 : Nat) : Int) = (v : Int) * 10 by omega, show ((i + 1 : Nat) : Int) = (i : Int) + 1 by omega] at this
      rw [this, List.drop_eq_nil_iff.2 (show P.length ≤ i + 1 by omega), List.drop_eq_nil_iff.2 (show P.length ≤ i by omega), List.nil_append, List.nil_append, show 6 - max i P.length = 6 - max (i + 1) P.length + 1 by omega, List.replicate_succ, valF_cons]
      rfl
theorem whole_loop (sg : Int) (hsg : sg = 1 ∨ sg = -1) (W P : List UInt8) (hW : W.all dgB = true) (hw12 : W.length ≤ 12) (hP : P.all dgB = true) (hp6 : P.length ≤ 6) : ∀ (d k i v : Nat), i + d = W.length → d + 8 < k → v < 10 ^ i →
    tidemillref01_Read.l0 k sg (ba W) (ba P) (v : Int) (i : Int) = some (sg * (valF v (W.drop i ++ P ++ List.replicate (6 - P.length) 48) : Int), true) := by
  intro d
  induction d with
  | zero =>
    intro k i v hi hk hv
    obtain ⟨k, rfl⟩ : ∃ m, k = m + 1 := ⟨k - 1, by omega⟩
    simp only [tidemillref01_Read.l0]
    have h12 : (10 : Nat) ^ i ≤ 10 ^ (12 + 0) := Nat.pow_le_pow_right (by decide) (by omega)
    rw [ba_size, if_neg (by omega), List.drop_eq_nil_iff.2 (show W.length ≤ i by omega), List.nil_append]
    have := frac_loop sg hsg P hP hp6 6 k 0 v (by omega) (by omega) (by omega)
    rw [show ((0 : Nat) : Int) = 0 from rfl, List.drop_zero, show max 0 P.length = P.length by omega] at this
    exact this
  | succ d ih =>
    intro k i v hi hk hv
    obtain ⟨k, rfl⟩ : ∃ m, k = m + 1 := ⟨k - 1, by omega⟩
    have h12 : (10 : Nat) ^ i ≤ 10 ^ 11 := Nat.pow_le_pow_right (by decide) (by omega)
    have h11 : (10 : Nat) ^ 11 = 100000000000 := by decide
    have hsz : (i : Int) < ((ba W).size : Int) := by rw [ba_size]; omega
    obtain ⟨b, e1, e2⟩ := tl_cons (ba W) (i : Int) (by omega) hsz
    have e3 : W.drop i = b :: W.drop (i + 1) := by
      have := e1
      unfold tl at this
      rwa [ba_data, Int.toNat_natCast, show ((i : Int) + 1).toNat = i + 1 by omega] at this
    have hb : dgB b = true := by
      have hm : b ∈ W := List.mem_of_mem_drop (by rw [e3]; exact List.mem_cons_self)
      exact List.all_eq_true.1 hW b hm
    have hb9 : b.toNat - 48 ≤ 9 := by unfold dgB at hb; rw [decide_eq_true_iff] at hb; omega
    simp only [tidemillref01_Read.l0]
    rw [if_pos hsz, if_pos (by omega), e2, byte_sub b hb, wrap_in (n := (v : Int) * 10) (by omega) (by omega), wrap_in (by omega) (by omega), wrap_in (n := (i : Int) + 1) (by omega) (by omega)]
    have := ih k (i + 1) (v * 10 + (b.toNat - 48)) (by omega) (by omega) (by rw [Nat.pow_succ]; omega)
    rw [show ((v * 10 + (b.toNat - 48) : Nat) : Int) = (v : Int) * 10 + ((b.toNat - 48 : Nat) : Int) by omega, show ((i + 1 : Nat) : Int) = (i : Int) + 1 by omega] at this
    rw [this, e3, List.cons_append, List.cons_append, valF_cons]
theorem read_j1 (sg : Int) (neg : Bool) (hsg : sg = if neg then -1 else 1) (t : ByteArray) (ht : t.size ≤ 1000) (k : Nat) (hk : 1100 < k) :
    tidemillref01_Read.j1 k t sg = some ((readM neg t.data.toList).1, (readM neg t.data.toList).2 == 0) := by
  obtain ⟨k, rfl⟩ : ∃ m, k = m + 1 := ⟨k - 1, by omega⟩
  have hsg' : sg = 1 ∨ sg = -1 := by cases neg <;> simp_all
  have hcl := cutL_len t.data.toList 46
  rw [len_of] at hcl
  have hcut := refCut_eq t 46 (by omega) k (by omega)
  rw [cutB_L] at hcut
  simp only [tidemillref01_Read.j1]
  rw [show ((46 : UInt8).toNat : Int) = 46 from rfl] at hcut
  rw [hcut]
  simp only [Option.bind_some]
  generalize hw : (cutL t.data.toList 46).1 = W at hcl
  generalize hp : (cutL t.data.toList 46).2.1 = P at hcl
  generalize hdt : (cutL t.data.toList 46).2.2 = dot at hcl
  have hM : readM neg t.data.toList = readR neg W P dot := by unfold readM readR; rw [hw, hp, hdt]
  rw [hM]
  have h1 := refDigits_eq (ba W) (by rw [ba_size]; omega) 12 k (by rw [ba_size]; omega)
  have h2 := refDigits_eq (ba P) (by rw [ba_size]; omega) 6 k (by rw [ba_size]; omega)
  rw [ba_data] at h1 h2
  rw [show ((12 : Nat) : Int) = 12 from rfl] at h1
  rw [show ((6 : Nat) : Int) = 6 from rfl] at h2
  rw [h1]
  simp only [Option.bind_some]
  obtain ⟨k, rfl⟩ : ∃ m, k = m + 1 := ⟨k - 1, by omega⟩
  have hgo : digL 12 W = true → (!dot || digL 6 P) = true → tidemillref01_Read.l0 k sg (ba W) (ba P) 0 0 = some ((readR neg W P dot).1, (readR neg W P dot).2 == 0) := by
    intro hd1 hd2
    have hw := digL_le hd1
    have hp6 : P.all dgB = true ∧ P.length ≤ 6 := by
      cases hdot : dot with
      | false => rw [hcl.2.2 hdot]; exact ⟨rfl, by decide⟩
      | true => rw [hdot] at hd2; have := digL_le (by simpa using hd2); exact ⟨this.1, this.2.2⟩
    have := whole_loop sg hsg' W P hw.1 hw.2.2 hp6.1 hp6.2 W.length k 0 0 (by omega) (by omega) (by decide)
    rw [show ((0 : Nat) : Int) = 0 from rfl, List.drop_zero] at this
    rw [this]
    unfold readR
    rw [hd1, hd2]
    cases neg with
    | false => rw [hsg]; simp
    | true => rw [hsg]; simp
  have hno : (digL 12 W && (!dot || digL 6 P)) = false → some ((readR neg W P dot).1, (readR neg W P dot).2 == 0) = some ((0 : Int), false) := by
    intro h
    unfold readR
    rw [h]
    rfl
  cases hd1 : digL 12 W with
  | false =>
    rw [if_neg (by decide)]
    simp only [tidemillref01_Read.j2, if_true]
    exact (hno (by rw [hd1]; rfl)).symm
  | true =>
    rw [if_pos rfl]
    cases dot with
    | false =>
      rw [if_neg (by decide)]
      simp only [tidemillref01_Read.j2]
      rw [if_neg (by decide)]
      exact hgo hd1 rfl
    | true =>
      rw [if_pos rfl, h2]
      simp only [Option.bind_some, tidemillref01_Read.j2]
      cases hd2 : digL 6 P with
      | false =>
        rw [if_pos (by decide)]
        exact (hno (by rw [hd1, hd2]; rfl)).symm
      | true =>
        rw [if_neg (by decide)]
        exact hgo hd1 (by rw [hd2]; rfl)
theorem refRead_eq (s : ByteArray) (hs : s.size ≤ 1000) : tidemillref01_Read.f 1200 s = some ((readL s.data.toList).1, (readL s.data.toList).2 == 0) := by
  unfold tidemillref01_Read.f readL
  by_cases h0 : (s.size : Int) > 0
  · rw [if_pos h0, if_pos (by omega)]
    obtain ⟨b, e1, e2⟩ := tl_cons s 0 (by decide) (by omega)
    rw [tl_zero] at e1
    rw [e2, e1]
    simp only [tidemillref01_Read.j0, List.head?_cons, Option.some.injEq, List.tail_cons]
    by_cases hb : b = 45
    · subst hb
      rw [if_pos (by decide), if_pos (by omega), if_pos rfl]
      have e3 : s.extract 1 s.size = ba (tl s 1) := by rw [ex_right]; rfl
      have := read_j1 (-1) true rfl (ba (tl s 1)) (by rw [ba_size]; unfold tl; rw [List.length_drop, len_of]; omega) 1199 (by decide)
      rw [ba_data] at this
      rw [e3]
      exact this
    · have hb2 : ((b.toNat : Int) == 45) = false := by
        refine beq_eq_false_iff_ne.2 fun e => hb (UInt8.toNat_inj.1 (show b.toNat = 45 by omega))
      rw [hb2, if_neg (by decide), if_neg hb, ← e1]
      exact read_j1 1 false rfl s hs 1199 (by decide)
  · rw [if_neg h0]
    have hl : s.data.toList = [] := List.eq_nil_of_length_eq_zero (by rw [len_of]; omega)
    simp only [tidemillref01_Read.j0]
    rw [if_neg (by decide), hl]
    have := read_j1 1 false rfl s hs 1199 (by decide)
    rw [hl] at this
    exact this
end Go.Proofs.YtiddemgeehcjpaaDoor.H
