/- The reference's Show and Unshow, told plainly. -/
import Derived.Test.YtdgdpkemboeaeaaDoorTpQ
namespace Go.Proofs.YtdgdpkemboeaeaaDoor.H
open Go.RowKit Go.Shelf Go.Proofs.YtdgdpkemboeaeaaDoor.PT Go.Proofs.YtdgdpkemboeaeaaDoorW.PrintWords Go.Proofs.YtdgdpkemboeaeaaDoorW.PrintLast Go.Proofs.YtdgdpkemboeaeaaDoorW.PrintMore
set_option linter.unusedVariables false
set_option linter.unusedSimpArgs false
theorem ba_app (a b : List UInt8) : ba a ++ ba b = ba (a ++ b) := ba_eq (by rw [ByteArray.data_append, Array.toList_append, ba_data, ba_data])
theorem digit_tab : ∀ q : Fin 16, tidemillref26_digit.f (q.1 : Int) = some (ba [hexd q.1]) := by decide +kernel
theorem digit_f (q : Nat) (h : q < 16) : tidemillref26_digit.f (q : Int) = some (ba [hexd q]) := digit_tab ⟨q, h⟩
theorem bt_get (l : List UInt8) (i : Nat) (h : i < l.length) : bt (ba l) (i : Int) = (l[i].toNat : Int) := by
  unfold bt
  rw [dif_pos (by rw [Int.toNat_natCast, ba_size]; exact h)]
  rfl
theorem ex_one (l : List UInt8) (i : Nat) (h : i < l.length) : (ba l).extract i (i + 1) = ba [l[i]] := by
  rw [ex_mid, Nat.add_sub_cancel_left, List.drop_eq_getElem_cons h]
  rfl
theorem w1 (i : Nat) (h : i ≤ 1000000) : wrap64 ((i : Int) + 1) = ((i + 1 : Nat) : Int) := by rw [wrap_in (by omega) (by omega)]; omega
theorem refShow_loop (l : List UInt8) (hl : l.length ≤ 1000000) : ∀ (d k i : Nat) (acc : List UInt8), i + d = l.length → 2 * d < k → acc.length ≤ 3 * i →
    tidemillref26_Show.l0 k (ba l) (ba acc) (i : Int) = some (ba (acc ++ showL (l.drop i))) := by
  intro d
  induction d with
  | zero =>
    intro k i acc hi hk ha
    obtain ⟨k, rfl⟩ : ∃ m, k = m + 1 := ⟨k - 1, by omega⟩
    simp only [tidemillref26_Show.l0]
    rw [if_neg (by rw [ba_size]; omega), List.drop_of_length_le (by omega)]
    simp [showL]
  | succ d ih =>
    intro k i acc hi hk ha
    obtain ⟨k, rfl⟩ : ∃ m, k = m + 1 + 1 := ⟨k - 2, by omega⟩
    have hlt : i < l.length := by omega
    have hdr : l.drop i = l[i] :: l.drop (i + 1) := List.drop_eq_getElem_cons hlt
    have hb := bt_get l i hlt
    have hx := ex_one l i hlt
    rw [hdr, showL_cons]
    generalize l[i] = c at hb hx ⊢
    simp only [tidemillref26_Show.l0]
    rw [if_pos (by rw [ba_size]; omega), if_pos (by omega), hb]
    have key : ∀ p : Bool, p = plainB c → tidemillref26_Show.j1 (k + 1) (ba l) (ba acc) (i : Int) (c.toNat : Int) p = some (ba (acc ++ (showC c ++ showL (l.drop (i + 1))))) := by
      intro p hp
      simp only [tidemillref26_Show.j1]
      cases p with
      | true =>
        rw [if_pos rfl, w1 i (by omega), if_pos (by omega), if_pos (by omega), if_pos (by rw [ba_size]; omega), Int.toNat_natCast, Int.toNat_natCast, hx, if_pos (by rw [ba_size, ba_size]; simp; omega), ba_app, ih k (i + 1) (acc ++ [c]) (by omega) (by omega) (by simp; omega)]
        have : showC c = [c] := by unfold showC; rw [if_pos hp.symm]
        rw [this, List.append_assoc]
      | false =>
        have h256 := c.toNat_lt
        have e1 : (Int.tdiv (c.toNat : Int) 16) % 256 = ((c.toNat / 16 : Nat) : Int) := by rw [Int.tdiv_eq_ediv_of_nonneg (by omega)]; omega
        have e2 : Int.tmod (c.toNat : Int) 16 = ((c.toNat % 16 : Nat) : Int) := by rw [Int.tmod_eq_emod_of_nonneg (by omega)]; omega
        rw [if_neg (by decide), if_pos (by rw [ba_size]; omega), e1, digit_f _ (by omega), Option.bind_some, show (⟨#[37]⟩ : ByteArray) = ba [37] from rfl, ba_app, if_pos (by rw [ba_size, ba_size]; simp; omega), e2, digit_f _ (by omega), Option.bind_some, ba_app, if_pos (by rw [ba_size, ba_size]; simp; omega), ba_app, w1 i (by omega), ih k (i + 1) _ (by omega) (by omega) (by simp; omega)]
        have : showC c = [37, hexd (c.toNat / 16), hexd (c.toNat % 16)] := by unfold showC; rw [if_neg (by rw [← hp]; decide)]
        rw [this]
        simp [List.append_assoc]
    by_cases h1 : (c.toNat : Int) ≥ 33
    · rw [if_pos h1]
      by_cases h2 : (c.toNat : Int) ≤ 126
      · rw [if_pos h2]
        refine key _ ?_
        unfold plainB
        rw [decide_eq_true (by omega), decide_eq_true (by omega)]
        by_cases h3 : c.toNat = 37
        · rw [h3]; rfl
        · rw [decide_eq_true h3, bne_iff_ne.2 (by omega)]; rfl
      · rw [if_neg h2]
        refine key _ ?_
        unfold plainB
        rw [decide_eq_false (show ¬ c.toNat ≤ 126 by omega)]
        simp
    · rw [if_neg h1]
      refine key _ ?_
      unfold plainB
      rw [decide_eq_false (show ¬ 33 ≤ c.toNat by omega)]
      simp
theorem refShow_f (l : List UInt8) (hl : l.length ≤ 1000000) (k : Nat) (hk : 2 * l.length < k) : tidemillref26_Show.f k (ba l) = some (ba (showL l)) := by
  have := refShow_loop l hl l.length k 0 [] (by omega) hk (Nat.zero_le _)
  rw [List.drop_zero, List.nil_append] at this
  exact this
end Go.Proofs.YtdgdpkemboeaeaaDoor.H
