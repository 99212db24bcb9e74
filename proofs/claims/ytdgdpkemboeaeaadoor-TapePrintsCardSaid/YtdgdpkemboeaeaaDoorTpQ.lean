/- tape.Unshow, told plainly: the text that shows so, or none. -/
import Derived.Test.YtdgdpkemboeaeaaDoorTpD
import Derived.Test.YtdgdpkemboeaeaaDoorPUx
namespace Go.Proofs.YtdgdpkemboeaeaaDoor.H
open Go.RowKit Go.Shelf Go.Proofs.YtdgdpkemboeaeaaDoor.PT Go.Proofs.YtdgdpkemboeaeaaDoor.PU Go.Proofs.YtdgdpkemboeaeaaDoorW.PrintWords Go.Proofs.YtdgdpkemboeaeaaDoorW.PrintLast Go.Proofs.YtdgdpkemboeaeaaDoorW.PrintMore
set_option linter.unusedVariables false
set_option linter.unusedSimpArgs false
/-- Taken apart from the left. -/
def unD : List UInt8 → Option (List UInt8)
  | [] => some []
  | c :: r => if c = 37 then (match hexP (r.take 2) with
      | some n => (unD (r.drop 2)).map (UInt8.ofNat n :: ·)
      | none => none) else (unD r).map (c :: ·)
termination_by l => l.length
decreasing_by all_goals simp <;> omega
theorem unD_nil : unD [] = some [] := by rw [unD]
theorem unD_cons (c : UInt8) (r : List UInt8) : unD (c :: r) = if c = 37 then (match hexP (r.take 2) with
      | some n => (unD (r.drop 2)).map (UInt8.ofNat n :: ·)
      | none => none) else (unD r).map (c :: ·) := by rw [unD]
theorem hexP_pair : ∀ n : Fin 256, hexP [hexd (n.1 / 16), hexd (n.1 % 16)] = some n.1 := by decide +kernel
theorem unD_show : ∀ t : List UInt8, unD (showL t) = some t
  | [] => unD_nil
  | c :: t => by
    rw [showL_cons]
    unfold showC
    have ih := unD_show t
    split
    · rename_i hp
      rw [List.cons_append, List.nil_append, unD_cons, if_neg, ih]
      · rfl
      · rintro rfl
        exact absurd hp (by decide)
    · rw [List.cons_append, unD_cons, if_pos rfl]
      have h := hexP_pair ⟨c.toNat, c.toNat_lt⟩
      simp only [List.cons_append, List.nil_append, List.take_succ_cons, List.take_zero, List.drop_succ_cons, List.drop_zero]
      simp only at h
      rw [h, ih]
      simp
theorem unshow_D (s : List UInt8) : unshowL s = match unD s with
    | some t => if showL t = s then some t else none
    | none => none := by
  by_cases h : ∃ t, showL t = s
  · obtain ⟨t, rfl⟩ := h
    rw [unshowL_show, unD_show]
    simp
  · rw [unshowL_none h]
    split
    · rename_i t _
      rw [if_neg (fun e => h ⟨t, e⟩)]
    · rfl
/-- What Unshow returns. -/
noncomputable def unR (s : List UInt8) : ByteArray × Int := match unshowL s with
  | some t => (ba t, 0)
  | none => (⟨#[]⟩, 2)
theorem unR_T (s : List UInt8) : (unR s).1 = unT s := by
  unfold unR unT
  cases unshowL s <;> rfl
def numsL (t : List UInt8) : List Int := t.map (fun b => (b.toNat : Int))
theorem numsL_str (t : List UInt8) : strOfNums (numsL t) = ba t := by
  unfold strOfNums numsL ba
  rw [List.map_map]
  have : ((fun n : Int => UInt8.ofNat n.toNat) ∘ fun b : UInt8 => (b.toNat : Int)) = id := by funext b; simp
  rw [this, List.map_id]
theorem ex_mid (l : List UInt8) (i j : Nat) : (ba l).extract i j = ba ((l.drop i).take (j - i)) := by
  refine ba_eq ?_
  rw [ByteArray.data_extract, Array.toList_extract, ba_data]
theorem hexv_lt {c : UInt8} {d : Nat} (h : hexv c = some d) : d < 16 := by
  unfold hexv at h
  split at h
  · cases h; omega
  · split at h
    · cases h; omega
    · split at h
      · cases h; omega
      · cases h
theorem hexN_lt : ∀ (l : List UInt8) (acc n : Nat), hexN acc l = some n → n < (acc + 1) * 16 ^ l.length
  | [], acc, n, h => by simp only [hexN, Option.some.injEq] at h; simp; omega
  | c :: r, acc, n, h => by
    simp only [hexN] at h
    cases hv : hexv c with
    | none => rw [hv] at h; cases h
    | some d =>
      rw [hv] at h
      have h1 := hexN_lt r _ n h
      have h2 := hexv_lt hv
      rw [List.length_cons, Nat.pow_succ, Nat.mul_comm (16 ^ r.length) 16, ← Nat.mul_assoc]
      exact Nat.lt_of_lt_of_le h1 (Nat.mul_le_mul_right _ (by omega))
theorem hexP_lt {l : List UInt8} {n : Nat} (hl : l.length ≤ 2) (h : hexP l = some n) : n < 256 := by
  unfold hexP at h
  split at h
  · cases h
  · have := hexN_lt l 0 n h
    have h2 : 16 ^ l.length ≤ 256 := by
      have : l.length = 0 ∨ l.length = 1 ∨ l.length = 2 := by omega
      rcases this with e | e | e <;> rw [e] <;> decide
    omega
theorem unshow_loop (s : ByteArray) (hs : s.size ≤ 1000000) : ∀ (n k : Nat) (acc x : List UInt8), x.length ≤ n → n < k → acc.length + x.length ≤ 1000000 →
    tape_Unshow.l0 k s (numsL acc) (ba x) = some (match unD x with
      | some t => if showL (acc ++ t) = s.data.toList then (ba (acc ++ t), 0) else (⟨#[]⟩, 2)
      | none => (⟨#[]⟩, 2)) := by
  intro n
  induction n using Nat.strongRecOn with
  | _ n ih =>
    intro k acc x hx hk hl
    obtain ⟨k, rfl⟩ : ∃ m, k = m + 1 := ⟨k - 1, by omega⟩
    cases x with
    | nil =>
      simp only [tape_Unshow.l0]
      rw [if_pos (by rw [ba_tl]), numsL_str, unD_nil]
      have : tape_Show.f (ba acc) = some (ba (showL acc)) := by
        unfold tape_Show.f
        rw [if_pos (by rw [ba_size]; simp at hl; omega), ba_data]
        rfl
      rw [this, Option.bind_some]
      simp only [List.append_nil]
      rw [ba_tl, Lib.toList_data]
      split <;> rfl
    | cons c r =>
      have hsz : (ba (c :: r)).size = r.length + 1 := by rw [ba_size]; rfl
      have hb : bt (ba (c :: r)) 0 = (c.toNat : Int) := by
        unfold bt
        rw [dif_pos (by rw [hsz]; simp)]
        rfl
      simp only [tape_Unshow.l0]
      rw [if_neg (by rw [ba_tl]; simp), hsz, if_pos (by omega), hb, unD_cons]
      simp only [List.length_cons] at hx hl
      by_cases hc : c = 37
      · subst hc
        rw [if_pos (by rfl), if_pos rfl]
        have hm : mn 3 ((r.length + 1 : Nat) : Int) = ((min 2 r.length + 1 : Nat) : Int) := by unfold mn; split <;> omega
        rw [hm, if_pos (by omega), if_pos (by omega), Int.toNat_natCast]
        have hex : (ba (37 :: r)).extract 1 (min 2 r.length + 1) = ba (r.take 2) := by
          rw [ex_mid, List.drop_succ_cons, List.drop_zero, Nat.add_sub_cancel]
          congr 1
          by_cases h2 : 2 ≤ r.length
          · rw [Nat.min_eq_left h2]
          · rw [Nat.min_eq_right (by omega), List.take_of_length_le (Nat.le_refl _), List.take_of_length_le (by omega)]
        have hdr : (ba (37 :: r)).extract (min 2 r.length + 1) (r.length + 1) = ba (r.drop 2) := by
          have h1 := ex_right (ba (37 :: r)) (min 2 r.length + 1)
          rw [hsz] at h1
          rw [h1, ba_data, List.drop_succ_cons]
          congr 1
          by_cases h2 : 2 ≤ r.length
          · rw [Nat.min_eq_left h2]
          · rw [Nat.min_eq_right (by omega), List.drop_of_length_le (Nat.le_refl _), List.drop_of_length_le (by omega)]
        rw [hex]
        unfold strconv_ParseUint.f
        rw [if_pos ⟨by rw [ba_size, List.length_take]; omega, rfl, rfl⟩, ba_data]
        cases hh : hexP (r.take 2) with
        | none => rfl
        | some q =>
          simp only [Option.bind_some]
          rw [if_pos (show (none : Option Int).isNone = true from rfl)]
          have hnl : (numsL acc).length = acc.length := by unfold numsL; simp
          rw [if_pos (by rw [hnl]; omega), if_pos (by omega), hdr]
          have hq : q < 256 := hexP_lt (by rw [List.length_take]; omega) hh
          have e : numsL acc ++ [(q : Int) % 256] = numsL (acc ++ [UInt8.ofNat q]) := by
            unfold numsL
            rw [List.map_append, List.map_cons, List.map_nil, UInt8.toNat_ofNat']
            simp
          rw [e]
          have := ih (r.drop 2).length (by rw [List.length_drop]; omega) k (acc ++ [UInt8.ofNat q]) (r.drop 2) (Nat.le_refl _) (by rw [List.length_drop]; omega) (by rw [List.length_append, List.length_drop, List.length_singleton]; omega)
          rw [this]
          cases unD (r.drop 2) with
          | none => rfl
          | some t => simp
      · rw [if_neg (by intro h; exact hc (UInt8.toNat_inj.1 (by rw [show (37 : UInt8).toNat = 37 from rfl]; omega))), if_neg hc]
        have hnl : (numsL acc).length = acc.length := by unfold numsL; simp
        have hdr : (ba (c :: r)).extract 1 (r.length + 1) = ba r := by
          have := ex_right (ba (c :: r)) 1
          rw [hsz] at this
          exact this
        rw [if_pos (by rw [hnl]; omega), if_pos (by omega), hdr]
        have e : numsL acc ++ [(c.toNat : Int)] = numsL (acc ++ [c]) := by unfold numsL; rw [List.map_append]; rfl
        rw [e]
        have := ih r.length (by omega) k (acc ++ [c]) r (Nat.le_refl _) (by omega) (by rw [List.length_append, List.length_singleton]; omega)
        rw [this]
        cases unD r with
        | none => rfl
        | some t => simp
theorem unshow_f (s : ByteArray) (hs : s.size ≤ 1000000) : tape_Unshow.f (s.size + 1) s = some (unR s.data.toList) := by
  unfold tape_Unshow.f
  have := unshow_loop s hs s.size (s.size + 1) [] s.data.toList (by rw [len_of]; exact Nat.le_refl _) (by omega) (by rw [len_of]; simpa using hs)
  rw [ba_of] at this
  refine Eq.trans this ?_
  unfold unR
  rw [unshow_D]
  cases unD s.data.toList with
  | none => rfl
  | some t =>
    simp only [List.nil_append]
    split <;> rfl
theorem unshow_eq (s : ByteArray) (hs : s.size ≤ 1000000) : ∃ k e, tape_Unshow.f k s = some (unT s.data.toList, e) := ⟨_, (unR s.data.toList).2, by rw [unshow_f s hs, ← unR_T]⟩
end Go.Proofs.YtdgdpkemboeaeaaDoor.H
