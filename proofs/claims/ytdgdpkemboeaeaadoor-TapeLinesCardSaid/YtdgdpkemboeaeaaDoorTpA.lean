/- The reference's Show and Unshow, told plainly. -/
import Derived.Test.YtdgdpkemboeaeaaDoorTpQ
namespace Go.Proofs.YtdgdpkemboeaeaaDoor.H
open Go.RowKit Go.Shelf Go.Proofs.YtdgdpkemboeaeaaDoor.PT Go.Proofs.YtdgdpkemboeaeaaDoorW.PrintWords Go.Proofs.YtdgdpkemboeaeaaDoorW.PrintLast Go.Proofs.YtdgdpkemboeaeaaDoorW.PrintMore
set_option linter.unusedVariables false
set_option linter.unusedSimpArgs false
theorem ba_app (a b : List UInt8) : ba a ++ ba b = ba (a ++ b) := ba_eq (by rw [ByteArray.data_append, Array.toList_append, ba_data, ba_data])
theorem digit_tab : ∀ q : Fin 16, tidemillref26_digit.f (q.1 : Int) = some (ba [hexd q.1]) := by decide +kernel
theorem digit_f (q : Nat) (h : q < 16) : tidemillref26_digit.f (q : Int) = some (ba [hexd q]) := digit_tab ⟨q, h⟩
theorem bt_get (l : List UInt8) (i : Nat) (h : i < l.length) : bt (ba l) (i : Int) = (l[i].toNat : Int) := by
  unfold bt
  rw [dif_pos (by rw [Int.toNat_natCast, ba_size]; exact h)]
  rfl
theorem ex_one (l : List UInt8) (i : Nat) (h : i < l.length) : (ba l).extract i (i + 1) = ba [l[i]] := by
  rw [ex_mid, Nat.add_sub_cancel_left, List.drop_eq_getElem_cons h]
  rfl
theorem w1 (i : Nat) (h : i ≤ 1000000) : wrap64 ((i : Int) + 1) = ((i + 1 : Nat) : Int) := by rw [wrap_in (by omega) (by omega)]; omega
theorem refShow_loop (l : List UInt8) (hl : l.length ≤ 1000000) : ∀ (d k i : Nat) (acc : List UInt8), i + d = l.length → 2 * d < k → acc.length ≤ 3 * i →
    tidemillref26_Show.l0 k (ba l) (ba acc) (i : Int) = some (ba (acc ++ showL (l.drop i))) := by
  intro d
  induction d with
  | zero =>
    intro k i acc hi hk ha
    obtain ⟨k, rfl⟩ : ∃ m, k = m + 1 := ⟨k - 1, by omega⟩
    simp only [tidemillref26_Show.l0]
    rw [if_neg (by rw [ba_size]; omega), List.drop_of_length_le (by omega)]
    simp [showL]
  | succ d ih =>
    intro k i acc hi hk ha
    obtain ⟨k, rfl⟩ : ∃ m, k = m + 1 + 1 := ⟨k - 2, by omega⟩
    have hlt : i < l.length := by omega
    have hdr : l.drop i = l[i] :: l.drop (i + 1) := List.drop_eq_getElem_cons hlt
    have hb := bt_get l i hlt
    have hx := ex_one l i hlt
    rw [hdr, showL_cons]
    generalize l[i] = c at hb hx ⊢
    simp only [tidemillref26_Show.l0]
    rw [if_pos (by rw [ba_size]; omega), if_pos (by omega), hb]
    have key : ∀ p : Bool, p = plainB c → tidemillref26_Show.j1 (k + 1) (ba l) (ba acc) (i : Int) (c.toNat : Int) p = some (ba (acc ++ (showC c ++ showL (l.drop (i + 1))))) := by
      intro p hp
      simp only [tidemillref26_Show.j1]
      cases p with
      | true =>
        rw [if_pos rfl, w1 i (by omega), if_pos (by omega), if_pos (by omega), if_pos (by rw [ba_size]; omega), Int.toNat_natCast, Int.toNat_natCast, hx, if_pos (by rw [ba_size, ba_size]; simp; omega), ba_app, ih k (i + 1) (acc ++ [c]) (by omega) (by omega) (by simp; omega)]
        have : showC c = [c] := by unfold showC; rw [if_pos hp.symm]
        rw [this, List.append_assoc]
      | false =>
        have h256 := c.toNat_lt
        have e1 : (Int.tdiv (c.toNat : Int) 16) % 256 = ((c.toNat / 16 : Nat) : Int) := by rw [Int.tdiv_eq_ediv_of_nonneg (by omega)]; omega
        have e2 : Int.tmod (c.toNat : Int) 16 = ((c.toNat % 16 : Nat) : Int) := by rw [Int.tmod_eq_emod_of_nonneg (by omega)]; omega
        rw [if_neg (by decide), if_pos (by rw [ba_size]; omega), e1, digit_f _ (by omega), Option.bind_some, show (⟨#[37]⟩ : ByteArray) = ba [37] from rfl, ba_app, if_pos (by rw [ba_size, ba_size]; simp; omega), e2, digit_f _ (by omega), Option.bind_some, ba_app, if_pos (by rw [ba_size, ba_size]; simp; omega), ba_app, w1 i (by omega), ih k (i + 1) _ (by omega) (by omega) (by simp; omega)]
        have : showC c = [37, hexd (c.toNat / 16), hexd (c.toNat % 16)] := by unfold showC; rw [if_neg (by rw [← hp]; decide)]
        rw [this]
        simp [List.append_assoc]
    by_cases h1 : (c.toNat : Int) ≥ 33
    · rw [if_pos h1]
      by_cases h2 : (c.toNat : Int) ≤ 126
      · rw [if_pos h2]
        refine key _ ?_
        unfold plainB
        rw [decide_eq_true (by omega), decide_eq_true (by omega)]
        by_cases h3 : c.toNat = 37
        · rw [h3]; rfl
        · rw [decide_eq_true h3, bne_iff_ne.2 (by omega)]; rfl
      · rw [if_neg h2]
        refine key _ ?_
        unfold plainB
        rw [decide_eq_false (show ¬ c.toNat ≤ 126 by omega)]
        simp
    · rw [if_neg h1]
      refine key _ ?_
      unfold plainB
      rw [decide_eq_false (show ¬ 33 ≤ c.toNat by omega)]
      simp
theorem refShow_f (l : List UInt8) (hl : l.length ≤ 1000000) (k : Nat) (hk : 2 * l.length < k) : tidemillref26_Show.f k (ba l) = some (ba (showL l)) := by
  have := refShow_loop l hl l.length k 0 [] (by omega) hk (Nat.zero_le _)
  rw [List.drop_zero, List.nil_append] at this
  exact this
/-- The reference's digits: small letters alone. -/
theorem value_tab : ∀ c : Fin 256, tidemillref26_value.f 1 (c.1 : Int) = some (match hexq (UInt8.ofNat c.1) with
    | some d => ((d : Int), true)
    | none => (0, false)) := by decide +kernel
theorem value_f (c : UInt8) (k : Nat) : tidemillref26_value.f (k + 1) (c.toNat : Int) = some (match hexq c with
    | some d => ((d : Int), true)
    | none => (0, false)) := by
  have := value_tab ⟨c.toNat, c.toNat_lt⟩
  simp only [UInt8.ofNat_toNat] at this
  rw [← this]
  unfold tidemillref26_value.f
  split <;> rfl
/-- Taken apart from the left, as the reference does it. -/
def unQ : List UInt8 → Option (List UInt8)
  | [] => some []
  | c :: r => if c = 37 then (match r with
      | a :: b :: t => match hexq a, hexq b with
        | some x, some y => (unQ t).map (UInt8.ofNat (x * 16 + y) :: ·)
        | _, _ => none
      | _ => none) else (unQ r).map (c :: ·)
theorem unQ_ne {c : UInt8} (h : c ≠ 37) (r : List UInt8) : unQ (c :: r) = (unQ r).map (c :: ·) := by
  cases r with
  | nil => simp [unQ, h]
  | cons a r => cases r with
    | nil => simp [unQ, h]
    | cons b t => simp [unQ, h]
theorem unQ_one : unQ [37] = none := by simp [unQ]
theorem unQ_two (a : UInt8) : unQ [37, a] = none := by simp [unQ]
theorem unQ_three (a b : UInt8) (t : List UInt8) : unQ (37 :: a :: b :: t) = match hexq a, hexq b with
        | some x, some y => (unQ t).map (UInt8.ofNat (x * 16 + y) :: ·)
        | _, _ => none := by simp [unQ]
theorem unQ_show : ∀ t : List UInt8, unQ (showL t) = some t
  | [] => rfl
  | c :: t => by
    rw [showL_cons]
    unfold showC
    have ih := unQ_show t
    split
    · rename_i hp
      rw [List.cons_append, List.nil_append, unQ_ne (by rintro rfl; exact absurd hp (by decide)), ih]
      rfl
    · have h256 := c.toNat_lt
      simp only [List.cons_append, List.nil_append, unQ, if_true]
      rw [hexq_hexd ⟨c.toNat / 16, by omega⟩, hexq_hexd ⟨c.toNat % 16, by omega⟩, ih]
      simp only [Option.map_some, Option.some.injEq, List.cons.injEq, and_true]
      rw [show c.toNat / 16 * 16 + c.toNat % 16 = c.toNat by omega, UInt8.ofNat_toNat]
theorem unshow_Q (s : List UInt8) : unshowL s = match unQ s with
    | some t => if showL t = s then some t else none
    | none => none := by
  by_cases h : ∃ t, showL t = s
  · obtain ⟨t, rfl⟩ := h
    rw [unshowL_show, unQ_show]
    simp
  · rw [unshowL_none h]
    split
    · rename_i t _
      rw [if_neg (fun e => h ⟨t, e⟩)]
    · rfl
theorem hexq_lt {c : UInt8} {d : Nat} (h : hexq c = some d) : d < 16 := by
  unfold hexq at h
  split at h
  · cases h; omega
  · split at h
    · cases h; omega
    · cases h
theorem refUnshow_loop (l : List UInt8) (hl : l.length ≤ 1000000) : ∀ (d k i : Nat) (acc : List UInt8), i + d = l.length → d + 2 * l.length + 3 < k → acc.length ≤ i →
    tidemillref26_Unshow.l0 k (ba l) (ba acc) (i : Int) = some (match unQ (l.drop i) with
      | some t => if showL (acc ++ t) = l then (ba (acc ++ t), true) else (⟨#[]⟩, false)
      | none => (⟨#[]⟩, false)) := by
  intro d
  induction d using Nat.strongRecOn with
  | _ d ih =>
    intro k i acc hi hk ha
    obtain ⟨k, rfl⟩ : ∃ m, k = m + 1 := ⟨k - 1, by omega⟩
    simp only [tidemillref26_Unshow.l0]
    by_cases hlt : i < l.length
    · have K3 : d - 3 + 2 * l.length + 3 < k := by omega
      have K1 : d - 1 + 2 * l.length + 3 < k := by omega
      have KS : ∀ z : UInt8, (ba acc).size + (ba [z]).size ≤ 9223372036854775807 := fun z => by rw [ba_size, ba_size, List.length_singleton]; omega
      have KA : ∀ z : UInt8, (acc ++ [z]).length ≤ i + 1 := fun z => by rw [List.length_append, List.length_singleton]; omega
      have hdr : l.drop i = l[i] :: l.drop (i + 1) := List.drop_eq_getElem_cons hlt
      have hb := bt_get l i hlt
      have hx := ex_one l i hlt
      rw [if_pos (by rw [ba_size]; omega), if_pos (by omega), hb, hdr]
      generalize l[i] = c at hb hx ⊢
      by_cases hc : c = 37
      · subst hc
        have w2 : wrap64 ((i : Int) + 2) = ((i + 2 : Nat) : Int) := by rw [wrap_in (by omega) (by omega)]; omega
        rw [if_pos (show (((37 : UInt8).toNat : Nat) : Int) = 37 from rfl), w2]
        by_cases h2 : l.length ≤ i + 2
        · rw [if_pos (by rw [ba_size]; omega)]
          have : unQ (37 :: l.drop (i + 1)) = none := by
            by_cases h1 : l.length ≤ i + 1
            · rw [List.drop_of_length_le h1, unQ_one]
            · have h3 : l.drop (i + 1) = l[i + 1] :: l.drop (i + 2) := List.drop_eq_getElem_cons (by omega)
              rw [h3, List.drop_of_length_le h2, unQ_two]
          rw [this]
        · have h3 : l.drop (i + 1) = l[i + 1] :: l.drop (i + 2) := List.drop_eq_getElem_cons (by omega)
          have h4 : l.drop (i + 2) = l[i + 2] :: l.drop (i + 3) := List.drop_eq_getElem_cons (by omega)
          have hb1 := bt_get l (i + 1) (by omega)
          have hb2 := bt_get l (i + 2) (by omega)
          rw [if_neg (by rw [ba_size]; omega), w1 i (by omega), if_pos (by omega), if_pos (by rw [ba_size]; omega), h3, h4, unQ_three, hb1, hb2]
          generalize l[i + 1] = a
          generalize l[i + 2] = b
          obtain ⟨m, rfl⟩ : ∃ m, k = m + 1 := ⟨k - 1, by omega⟩
          rw [value_f, Option.bind_some, if_pos (by omega), if_pos (by rw [ba_size]; omega), value_f, Option.bind_some]
          cases ha' : hexq a with
          | none => rfl
          | some x =>
            simp only
            rw [if_pos trivial]
            cases hb' : hexq b with
            | none => rfl
            | some y =>
              simp only [Option.bind_some]
              have hx16 := hexq_lt ha'
              have hy16 := hexq_lt hb'
              have e : strOfNums [((((x : Int) * 16) % 256) + (y : Int)) % 256] = ba [UInt8.ofNat (x * 16 + y)] := by
                have : ((((x : Int) * 16) % 256) + (y : Int)) % 256 = ((x * 16 + y : Nat) : Int) := by omega
                rw [this]
                unfold strOfNums ba
                rw [List.map_cons, List.map_nil, Int.toNat_natCast]
              have w3 : wrap64 (((i + 2 : Nat) : Int) + 1) = ((i + 3 : Nat) : Int) := by rw [wrap_in (by omega) (by omega)]; omega
              have hih := ih (d - 3) (by omega) (m + 1) (i + 3) (acc ++ [UInt8.ofNat (x * 16 + y)]) (by omega) K3 (Nat.le_trans (KA _) (Nat.add_le_add_left (show 1 ≤ 3 by decide) i))
              rw [if_pos trivial, e, if_pos (KS _), ba_app, w3]
              refine hih.trans ?_
              generalize UInt8.ofNat (x * 16 + y) = z
              cases unQ (l.drop (i + 3)) with
              | none => rfl
              | some t => simp
      · rw [if_neg (by intro h; exact hc (UInt8.toNat_inj.1 (by rw [show (37 : UInt8).toNat = 37 from rfl]; omega))), w1 i (by omega), if_pos (by omega), if_pos (by rw [ba_size]; omega), Int.toNat_natCast, Int.toNat_natCast, hx, if_pos (KS _), ba_app, unQ_ne hc, ih (d - 1) (by omega) k (i + 1) _ (by omega) K1 (KA _)]
        cases unQ (l.drop (i + 1)) with
        | none => rfl
        | some t => simp
    · rw [if_neg (by rw [ba_size]; omega), List.drop_of_length_le (by omega), refShow_f acc (by omega) k (by omega), Option.bind_some, ba_tl, ba_tl]
      simp only [unQ, List.append_nil]
      split <;> rfl
theorem refUnshow_f (l : List UInt8) (hl : l.length ≤ 1000000) (k : Nat) (hk : 3 * l.length + 3 < k) : tidemillref26_Unshow.f k (ba l) = some ((unR l).1, decide ((unR l).2 = 0)) := by
  have := refUnshow_loop l hl l.length k 0 [] (by omega) (by omega) (Nat.le_refl _)
  rw [List.drop_zero] at this
  refine Eq.trans this ?_
  unfold unR
  rw [unshow_Q]
  cases unQ l with
  | none => rfl
  | some t =>
    simp only [List.nil_append]
    split <;> rfl
end Go.Proofs.YtdgdpkemboeaeaaDoor.H
