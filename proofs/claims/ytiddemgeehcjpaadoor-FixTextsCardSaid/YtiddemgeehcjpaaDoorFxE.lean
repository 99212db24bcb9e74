/- The reference's Text, Read and Add tell what fix.Text, fix.Read and fix.Add tell. -/
import Derived.Test.YtiddemgeehcjpaaDoorPAx
import Derived.Test.YtiddemgeehcjpaaDoorFxRd
namespace Go.Proofs.YtiddemgeehcjpaaDoor.H
open Go.RowKit Go.Shelf Go.Proofs.YtiddemgeehcjpaaDoor.PA Go.Proofs.YtiddemgeehcjpaaDoorW.PrintWords Go.Proofs.YtiddemgeehcjpaaDoorW.PrintLast Go.Proofs.YtiddemgeehcjpaaDoorW.PrintMore
set_option linter.unusedVariables false

theorem tmod_abs (n m : Int) (hm : 0 < m) : Int.tmod n m = if 0 ≤ n then n % m else -((-n) % m) := by
  by_cases h : 0 ≤ n
  · rw [if_pos h, Int.tmod_eq_emod_of_nonneg h]
  · rw [if_neg h]
    have := Int.neg_tmod (a := -n) (b := m)
    rw [Int.neg_neg] at this
    rw [this, Int.tmod_eq_emod_of_nonneg (by omega)]
theorem tdiv_abs (n m : Int) (hm : 0 < m) : Int.tdiv n m = if 0 ≤ n then n / m else -((-n) / m) := by
  by_cases h : 0 ≤ n
  · rw [if_pos h, Int.tdiv_eq_ediv_of_nonneg h]
  · rw [if_neg h]
    have := Int.neg_tdiv (a := -n) (b := m)
    rw [Int.neg_neg] at this
    rw [this, Int.tdiv_eq_ediv_of_nonneg (by omega)]
def i64 (a : Int) : Prop := -9223372036854775808 ≤ a ∧ a ≤ 9223372036854775807
theorem digit_eq (n : Int) (h : i64 n) : tidemillref01_digit.f n = some (48 + (n.natAbs % 10 : Nat) : Int) := by
  unfold i64 at h
  unfold tidemillref01_digit.f
  rw [tmod_abs n 10 (by decide)]
  by_cases h0 : 0 ≤ n
  · rw [if_pos h0, if_neg (by omega), wrap_in (by omega) (by omega)]
    congr 1
    omega
  · rw [if_neg h0]
    by_cases hz : -((-n) % 10) < 0
    · rw [if_pos hz, wrap_in (n := -(-((-n) % 10))) (by omega) (by omega), wrap_in (by omega) (by omega)]
      congr 1
      omega
    · rw [if_neg hz, wrap_in (by omega) (by omega)]
      congr 1
      omega
theorem nums_one (u : Nat) : strOfNums [(48 + (u % 10 : Nat) : Int)] = ba [UInt8.ofNat (48 + u % 10)] := by
  unfold strOfNums ba
  rw [List.map_cons, List.map_nil]
  congr 1
theorem tdiv10 (n : Int) (h : i64 n) : (wrap64 (Int.tdiv n 10)).natAbs = n.natAbs / 10 ∧ i64 (wrap64 (Int.tdiv n 10)) := by
  unfold i64 at h ⊢
  rw [tdiv_abs n 10 (by decide)]
  by_cases h0 : 0 ≤ n
  · rw [if_pos h0, wrap_in (by omega) (by omega)]; omega
  · rw [if_neg h0, wrap_in (by omega) (by omega)]; omega
/-- The digits ahead: none of zero. -/
def decN (u : Nat) : List UInt8 := if u = 0 then [] else Lib.decDigits u
theorem decN_step (u : Nat) (h : u ≠ 0) (l : List UInt8) : decN u ++ l = decN (u / 10) ++ UInt8.ofNat (48 + u % 10) :: l := by
  unfold decN
  rw [if_neg h]
  by_cases h10 : u < 10
  · rw [if_pos (by omega), dec_small h10, Nat.mod_eq_of_lt h10]
    rfl
  · rw [if_neg (by omega), dec_big h10, List.append_assoc]
    rfl
theorem decimal_loop (a0 : Int) : ∀ (j k : Nat) (x : Int) (l : List UInt8), i64 x → x.natAbs < 10 ^ j → j < k → l.length + j ≤ 1000 →
    tidemillref01_Decimal.l0 k a0 (ba l) x = some (ba ((if a0 < 0 then [45] else []) ++ (decN x.natAbs ++ l)))
  | j, 0, _, _, _, _, hk, _ => by omega
  | j, k + 1, x, l, hx, hj, hk, hl => by
    simp only [tidemillref01_Decimal.l0]
    by_cases h0 : x = 0
    · subst h0
      rw [if_pos rfl]
      have e : decN (Int.natAbs 0) = [] := rfl
      rw [e, List.nil_append]
      by_cases ha : a0 < 0
      · rw [if_pos ha, if_pos (by rw [ba_size]; omega), if_pos ha]
        congr 1
      · rw [if_neg ha, if_neg ha]
        rfl
    · rw [if_neg h0, digit_eq x hx]
      simp only [Option.bind_some]
      rw [nums_one]
      cases j with
      | zero => omega
      | succ j =>
        rw [Nat.pow_succ] at hj
        obtain ⟨h1, h2⟩ := tdiv10 x hx
        rw [if_pos (by rw [ba_size, ba_size, List.length_singleton]; omega), show ba [UInt8.ofNat (48 + x.natAbs % 10)] ++ ba l = ba (UInt8.ofNat (48 + x.natAbs % 10) :: l) from str_app _ _]
        rw [decimal_loop a0 j k _ _ h2 (by rw [h1]; omega) (by omega) (by rw [List.length_cons]; omega), h1, decN_step x.natAbs (by omega) l]
theorem decimal_eq (n : Int) (h : i64 n) (k : Nat) (hk : 20 < k) : tidemillref01_Decimal.f k n = some (ba ((if n < 0 then [45] else []) ++ Lib.decDigits n.natAbs)) := by
  unfold tidemillref01_Decimal.f
  rw [digit_eq n h]
  simp only [Option.bind_some]
  obtain ⟨h1, h2⟩ := tdiv10 n h
  have hj : (wrap64 (Int.tdiv n 10)).natAbs < 10 ^ 20 := by
    rw [h1]
    unfold i64 at h
    have : (10 : Nat) ^ 20 = 100000000000000000000 := by decide
    omega
  rw [nums_one, decimal_loop n 20 k _ _ h2 hj hk (by simp), h1]
  congr 2
  congr 1
  by_cases h10 : n.natAbs < 10
  · unfold decN
    rw [if_pos (by omega), dec_small h10, Nat.mod_eq_of_lt h10]
    rfl
  · unfold decN
    rw [if_neg (by omega), dec_big h10]

theorem trim_loop (x4 : ByteArray) (W : List UInt8) (h4 : x4.size ≤ 10) (hW : W.length ≤ 1000) : ∀ (n k : Nat) (P : List UInt8), P.length = n → n ≤ 100 → n < k →
    tidemillref01_Text.l1 k x4 (ba W) (ba P) = some (x4 ++ ba W ++ ba (if trim0 P = [] then [] else 46 :: trim0 P)) := by
  intro n
  induction n with
  | zero =>
    intro k P hP _ hk
    obtain ⟨k, rfl⟩ : ∃ m, k = m + 1 := ⟨k - 1, by omega⟩
    obtain rfl : P = [] := List.length_eq_zero_iff.1 hP
    simp only [tidemillref01_Text.l1]
    rw [if_pos (ba_tl []), if_pos (by rw [ba_size]; omega), if_pos (by rw [ByteArray.size_append, ba_size, ba_size]; simp; omega), trim0_nil, if_pos rfl]
  | succ n ih =>
    intro k P hP hn hk
    obtain ⟨k, rfl⟩ : ∃ m, k = m + 1 := ⟨k - 1, by omega⟩
    rcases snoc_cases P with rfl | ⟨m, b, rfl⟩
    · cases hP
    · have hm : m.length = n := by simpa using hP
      have hsz : ((ba (m ++ [b])).size : Int) = n + 1 := by rw [ba_size, hP]; omega
      have hbt : bt (ba (m ++ [b])) (n : Int) = (b.toNat : Int) := by
        obtain ⟨c, e1, e2⟩ := tl_cons (ba (m ++ [b])) (n : Int) (by omega) (by omega)
        rw [e2]
        unfold tl at e1
        rw [ba_data, Int.toNat_natCast, ← hm, List.drop_left] at e1
        rw [(List.cons.inj e1).1]
      simp only [tidemillref01_Text.l1]
      rw [if_neg (by rw [ba_tl]; simp), hsz, show (n : Int) + 1 - 1 = n by omega, wrap_in (by omega) (by omega), if_pos (by omega), if_pos (by omega), hbt]
      have htk : ∀ x : UInt8, (m ++ [x]).take n = m := fun x => by subst hm; exact List.take_left
      by_cases hb : b = 48
      · subst hb
        rw [if_pos (show ((48 : UInt8).toNat : Int) = 48 from rfl), if_pos (by omega), Int.toNat_natCast, ex_left, ba_data, htk, ih k m hm (by omega) (by omega), trim0_snoc_zero]
      · have hb2 : ¬ (b.toNat : Int) = 48 := fun e => hb (UInt8.toNat_inj.1 (show b.toNat = 48 by omega))
        have hbs : (ba (m ++ [b])).size = n + 1 := by omega
        rw [if_neg hb2, if_pos (by omega), if_pos (by rw [ba_size]; omega), if_pos (by rw [ByteArray.size_append, ByteArray.size_append, ba_size, hbs]; have : (ByteArray.mk #[46]).size = 1 := rfl
                                                                                       omega), trim0_snoc m b hb, if_neg (by simp)]
        congr 2
theorem pad_loop (x4 : ByteArray) : ∀ (d k : Nat) (l : List UInt8), l.length + d = 7 →
    tidemillref01_Text.l0 (k + d + 1) (ba l) x4 = tidemillref01_Text.l1 k x4 (ba ((padL 7 l).take 1)) (ba ((padL 7 l).drop 1)) := by
  intro d
  induction d with
  | zero =>
    intro k l hl
    simp only [tidemillref01_Text.l0]
    have hs : ((ba l).size : Int) = 7 := by rw [ba_size]; omega
    rw [if_neg (by omega), hs, show (7 : Int) - 6 = 1 by decide, wrap_in (by decide) (by decide), if_pos (by decide), if_pos (by decide), show ((1 : Int).toNat) = 1 from rfl, ex_left, ex_right, ba_data]
    unfold padL
    rw [show 7 - l.length = 0 by omega]
    rfl
  | succ d ih =>
    intro k l hl
    rw [show k + (d + 1) + 1 = k + d + 1 + 1 by omega]
    have hs : ((ba l).size : Int) = l.length := by rw [ba_size]
    rw [tidemillref01_Text.l0]
    rw [if_pos (by omega), if_pos (by rw [ba_size]; omega), show (⟨#[48]⟩ : ByteArray) ++ ba l = ba (48 :: l) from str_app [48] l, ih k (48 :: l) (by rw [List.length_cons]; omega)]
    have e : padL 7 (48 :: l) = padL 7 l := by
      unfold padL
      rw [List.length_cons, show 7 - l.length = 7 - (l.length + 1) + 1 by omega, ← replicate_snoc, List.append_assoc]
      rfl
    rw [e]
theorem long_text (x4 : ByteArray) (k : Nat) (l : List UInt8) (h : 7 ≤ l.length) (hl : l.length ≤ 1000) : tidemillref01_Text.l0 (k + 1) (ba l) x4 = tidemillref01_Text.l1 k x4 (ba (l.take (l.length - 6))) (ba (l.drop (l.length - 6))) := by
  simp only [tidemillref01_Text.l0]
  have hs : ((ba l).size : Int) = l.length := by rw [ba_size]
  rw [if_neg (by omega), hs, wrap_in (by omega) (by omega), if_pos (by omega), if_pos (by omega), ex_left, ex_right, ba_data, show ((l.length : Int) - 6).toNat = l.length - 6 by omega]
theorem lastD_mod : ∀ (k u : Nat), lastD k (u % 10 ^ k) = lastD k u
  | 0, _ => rfl
  | k + 1, u => by
    have e1 : u % 10 ^ (k + 1) / 10 = (u / 10) % 10 ^ k := by
      rw [Nat.pow_succ, Nat.mul_comm, Nat.mod_mul_right_div_self]
    have e2 : u % 10 ^ (k + 1) % 10 = u % 10 := by
      rw [Nat.pow_succ, Nat.mul_comm, Nat.mod_mul_right_mod]
    rw [lastD, lastD, e1, e2, lastD_mod k]
theorem body_text (x4 : ByteArray) (h4 : x4.size ≤ 10) (u : Nat) (hu : u < 10 ^ 20) : ∀ k, 200 < k → tidemillref01_Text.l0 k (ba (Lib.decDigits u)) x4 = some (x4 ++ ba (fixM u)) := by
  intro k hk
  have hp := pad_dec 6 u
  rw [show (10 : Nat) ^ 6 = 1000000 by decide] at hp
  have hlq : 1 ≤ (Lib.decDigits (u / 1000000)).length := by rw [Lib.decDigits_length]; exact Lib.nDigits_pos _
  have hl20 : (Lib.decDigits u).length ≤ 100 := by
    have key : ∀ (j u : Nat), 1 ≤ j → u < 10 ^ j → Lib.nDigits u ≤ j := by
      intro j
      induction j with
      | zero => intro u h; omega
      | succ j ih =>
        intro u _ hu
        by_cases h10 : u < 10
        · rw [Lib.nDigits_small h10]; omega
        · rw [Lib.nDigits_big h10]
          rw [Nat.pow_succ] at hu
          by_cases hk0 : j = 0
          · subst hk0; omega
          · have := ih (u / 10) (by omega) (by omega)
            omega
    rw [Lib.decDigits_length]
    have := key 20 u (by decide) hu
    omega
  have hlp : (padL 7 (Lib.decDigits u)).length = (Lib.decDigits (u / 1000000)).length + 6 := by rw [hp, List.length_append, lastD_len]
  have hlm : lastD 6 (u % 1000000) = lastD 6 u := by
    have := lastD_mod 6 u
    rwa [show (10 : Nat) ^ 6 = 1000000 by decide] at this
  have hfin : ∀ k, 100 < k → tidemillref01_Text.l1 k x4 (ba ((padL 7 (Lib.decDigits u)).take ((padL 7 (Lib.decDigits u)).length - 6))) (ba ((padL 7 (Lib.decDigits u)).drop ((padL 7 (Lib.decDigits u)).length - 6))) = some (x4 ++ ba (fixM u)) := by
    intro k hk
    rw [hlp, Nat.add_sub_cancel, hp, List.take_left, List.drop_left]
    have hq : (Lib.decDigits (u / 1000000)).length ≤ 1000 := by
      have h1 : (padL 7 (Lib.decDigits u)).length ≤ 100 + 7 := by unfold padL; rw [List.length_append, List.length_replicate]; omega
      omega
    rw [trim_loop x4 _ h4 hq 6 k _ (lastD_len 6 u) (by decide) (by omega)]
    congr 1
    rw [ByteArray.append_assoc]
    congr 1
    rw [show ba (Lib.decDigits (u / 1000000)) ++ ba (if trim0 (lastD 6 u) = [] then [] else 46 :: trim0 (lastD 6 u)) = ba (Lib.decDigits (u / 1000000) ++ (if trim0 (lastD 6 u) = [] then [] else 46 :: trim0 (lastD 6 u))) from str_app _ _]
    unfold fixM
    have hz := trim0_last_nil 6 (u % 1000000) (by have : (10 : Nat) ^ 6 = 1000000 := by decide
                                                  omega)
    rw [hlm] at hz
    rw [hlm]
    by_cases h0 : u % 1000000 = 0
    · rw [if_pos h0, if_pos (hz.2 h0)]
    · rw [if_neg h0, if_neg (fun e => h0 (hz.1 e))]
  by_cases h7 : 7 ≤ (Lib.decDigits u).length
  · obtain ⟨k, rfl⟩ : ∃ m, k = m + 1 := ⟨k - 1, by omega⟩
    rw [long_text x4 k _ h7 (by omega)]
    have e : padL 7 (Lib.decDigits u) = Lib.decDigits u := by unfold padL; rw [show 7 - (Lib.decDigits u).length = 0 by omega]; rfl
    rw [e] at hfin
    exact hfin k (by omega)
  · obtain ⟨m, rfl⟩ : ∃ m, k = m + (7 - (Lib.decDigits u).length) + 1 := ⟨k - 1 - (7 - (Lib.decDigits u).length), by omega⟩
    rw [pad_loop x4 (7 - (Lib.decDigits u).length) m _ (by omega)]
    have h1 : (padL 7 (Lib.decDigits u)).length - 6 = 1 := by
      unfold padL
      rw [List.length_append, List.length_replicate]
      omega
    rw [h1] at hfin
    exact hfin m (by omega)
theorem refText_eq (n : Int) (h : i64 n) : tidemillref01_Text.f 300 n = some (ba (fixL n)) := by
  unfold tidemillref01_Text.f
  rw [decimal_eq n h 300 (by decide)]
  simp only [Option.bind_some]
  have hu : n.natAbs < 10 ^ 20 := by
    unfold i64 at h
    have : (10 : Nat) ^ 20 = 100000000000000000000 := by decide
    omega
  unfold fixL
  by_cases h0 : n < 0
  · rw [if_pos h0, if_pos h0, if_pos (by rw [ba_size]; simp; omega)]
    have e : (ba ([45] ++ Lib.decDigits n.natAbs)).extract 1 (ba ([45] ++ Lib.decDigits n.natAbs)).size = ba (Lib.decDigits n.natAbs) := by rw [ex_right, ba_data]; rfl
    rw [e]
    show tidemillref01_Text.l0 299 (ba (Lib.decDigits n.natAbs)) ⟨#[45]⟩ = _
    rw [body_text _ (by decide) _ hu 299 (by decide)]
    congr 1
  · rw [if_neg h0, if_neg h0, List.nil_append]
    show tidemillref01_Text.l0 299 (ba (Lib.decDigits n.natAbs)) ⟨#[]⟩ = _
    rw [body_text _ (by decide) _ hu 299 (by decide)]
    congr 1

end Go.Proofs.YtiddemgeehcjpaaDoor.H
