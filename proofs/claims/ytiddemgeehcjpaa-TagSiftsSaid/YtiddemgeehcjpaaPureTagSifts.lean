/- The law TagSifts: a good series without, and with, the labels of some names, is the reference's; both have all labels between them. -/
import Derived.Test.YtiddemgeehcjpaaAwk
import Derived.Test.YtiddemgeehcjpaaTagP
import Derived.Test.YtiddemgeehcjpaaTagQ
import Derived.Test.YtiddemgeehcjpaaTagJ
import Derived.Test.YtiddemgeehcjpaaPSx2
namespace Go.Proofs.Ytiddemgeehcjpaa.H
open Go.RowKit Go.Proofs.Ytiddemgeehcjpaa.PA Go.Proofs.Ytiddemgeehcjpaa.PC Go.Proofs.YtiddemgeehcjpaaW.PrintWords Go.Proofs.YtiddemgeehcjpaaW.PrintLast Go.Proofs.YtiddemgeehcjpaaW.PrintMore
set_option linter.unusedVariables false
theorem asc_pairS : ∀ (p : S32) (l : List S32), ascF p l = true → ∀ x ∈ l, ltName p x = true
  | p, [], _, x, hx => by cases hx
  | p, y :: l, h, x, hx => by
    simp only [ascF, Bool.and_eq_true] at h
    rcases List.mem_cons.1 hx with rfl | hx
    · exact h.1
    · exact swo_name.trans _ _ _ h.1 (asc_pairS y l h.2 x hx)
theorem asc_pw : ∀ (l : List S32), asc l = true → l.Pairwise (fun a b => ltName a b = true)
  | [], _ => List.Pairwise.nil
  | p :: l, h => by
    refine List.Pairwise.cons (fun x hx => asc_pairS p l h x hx) ?_
    cases l with
    | nil => exact List.Pairwise.nil
    | cons y l =>
      simp only [asc, ascF, Bool.and_eq_true] at h
      exact asc_pw (y :: l) h.2
theorem lt_asym {a b : S32} (h : ltName a b = true) : ltName b a = false := by
  refine Bool.eq_false_iff.2 fun h2 => ?_
  have := swo_name.trans _ _ _ h h2
  rw [swo_name.irrefl] at this
  cases this
theorem asc_nodup (l : List S32) (h : asc l = true) : (l.map nameL).Nodup := by
  rw [List.nodup_iff_pairwise_ne, List.pairwise_map]
  refine (asc_pw l h).imp fun {a b} hab e => ?_
  unfold ltName at hab
  have e2 : a.f0.data.toList = b.f0.data.toList := e
  rw [e2] at hab
  have := swo_name.irrefl b
  unfold ltName at this
  rw [this] at hab
  cases hab
theorem has_loop (names : List ByteArray) (x : ByteArray) (hn : names.length ≤ 1000) : ∀ (d k i : Nat), i + d = names.length → d < k →
    tidemillref02_Has.l0 k names x (names.length : Int) (i : Int) = some (Lib.containsS (names.drop i) x) := by
  intro d
  induction d with
  | zero =>
    intro k i hi hk
    obtain ⟨k, rfl⟩ : ∃ m, k = m + 1 := ⟨k - 1, by omega⟩
    simp only [tidemillref02_Has.l0]
    rw [if_neg (by omega), List.drop_eq_nil_iff.2 (by omega)]
    congr 1
  | succ d ih =>
    intro k i hi hk
    obtain ⟨k, rfl⟩ : ∃ m, k = m + 1 := ⟨k - 1, by omega⟩
    have hl : i < names.length := by omega
    have hd : names.drop i = names[i] :: names.drop (i + 1) := List.drop_eq_getElem_cons hl
    have hr : rdOf ByteArray.empty names (i : Int) = names[i] := by
      unfold rdOf
      rw [Int.toNat_natCast, List.getD_eq_getElem?_getD, List.getElem?_eq_getElem hl]
      rfl
    simp only [tidemillref02_Has.l0]
    rw [if_pos (by omega), if_pos (by omega), if_pos (by omega), hr, hd]
    by_cases e : names[i] = x
    · rw [if_pos (by rw [e]), (Lib.containsS_iff _ x).2 (by rw [e]; exact List.mem_cons_self)]
    · have e2 : ¬ names[i].toList = x.toList := fun h => e (by
        rw [Lib.toList_data, Lib.toList_data] at h
        exact ByteArray.ext (Array.toList_inj.1 h))
      rw [if_neg e2, wrap_in (by omega) (by omega)]
      have := ih k (i + 1) (by omega) (by omega)
      rw [show ((i + 1 : Nat) : Int) = (i : Int) + 1 by omega] at this
      rw [this]
      congr 1
      rw [Bool.eq_iff_iff, Lib.containsS_iff, Lib.containsS_iff]
      refine ⟨List.mem_cons_of_mem _, fun h => ?_⟩
      rcases List.mem_cons.1 h with h | h
      · exact absurd h.symm e
      · exact h
theorem has_eq (names : List ByteArray) (x : ByteArray) (hn : names.length ≤ 1000) (k : Nat) (hk : names.length < k) : tidemillref02_Has.f k names x = some (Lib.containsS names x) := by
  unfold tidemillref02_Has.f
  have := has_loop names x hn names.length k 0 (by omega) hk
  rw [List.drop_zero] at this
  exact this
theorem rd_lab (l : List S32) (i : Nat) (h : i < l.length) : rd_T32 l (i : Int) = l[i] := by
  have := rd_at (l.take i) l[i] (l.drop (i + 1))
  rw [← List.drop_eq_getElem_cons h, List.take_append_drop, List.length_take, Nat.min_eq_left (by omega)] at this
  exact this
theorem sift_loop (m : ByteArray) (l : List S32) (names : List ByteArray) (b : Bool) (hn : names.length ≤ 1000) (hl : l.length ≤ 1000) : ∀ (d k i : Nat) (acc : List S32), i + d = l.length → acc.length ≤ i → d + 1001 < k →
    tidemillref02_Sifted.l0 k names b (l.length : Int) (i : Int) m l m acc = some (m, acc ++ siftL (l.drop i) names b) := by
  intro d
  induction d with
  | zero =>
    intro k i acc hi ha hk
    obtain ⟨k, rfl⟩ : ∃ m, k = m + 1 := ⟨k - 1, by omega⟩
    simp only [tidemillref02_Sifted.l0]
    rw [if_neg (by omega), List.drop_eq_nil_iff.2 (by omega)]
    simp [siftL]
  | succ d ih =>
    intro k i acc hi ha hk
    obtain ⟨k, rfl⟩ : ∃ m, k = m + 1 := ⟨k - 1, by omega⟩
    have hil : i < l.length := by omega
    have hd : l.drop i = l[i] :: l.drop (i + 1) := List.drop_eq_getElem_cons hil
    simp only [tidemillref02_Sifted.l0]
    rw [if_pos (by omega), if_pos (by omega), if_pos (by omega), rd_lab l i hil, has_eq names _ hn k (by omega)]
    simp only [Option.bind_some]
    rw [wrap_in (by omega) (by omega), hd]
    have hc : ((i + 1 : Nat) : Int) = (i : Int) + 1 := by omega
    unfold siftL
    rw [List.filter_cons]
    by_cases h : (Lib.containsS names l[i].f0 == b) = true
    · rw [if_pos h, if_pos h, if_pos (by omega)]
      have := ih k (i + 1) (acc ++ [l[i]]) (by omega) (by rw [List.length_append, List.length_singleton]; omega) (by omega)
      rw [hc, List.append_assoc] at this
      exact this
    · rw [if_neg h, if_neg h]
      have := ih k (i + 1) acc (by omega) (by omega) (by omega)
      rw [hc] at this
      exact this
theorem refSift_eq (m : ByteArray) (l : List S32) (names : List ByteArray) (b : Bool) (hn : names.length ≤ 1000) (hl : l.length ≤ 1000) (k : Nat) (hk : 2002 < k) : tidemillref02_Sifted.f k m l names b = some (m, siftL l names b) := by
  unfold tidemillref02_Sifted.f
  have := sift_loop m l names b hn hl l.length k 0 [] (by omega) (by simp) (by omega)
  rw [List.drop_zero, List.nil_append] at this
  exact this
theorem sift_perm (l : List S32) (names : List ByteArray) : (siftL l names false ++ siftL l names true).Perm l := by
  have h := List.filter_append_perm (fun x : S32 => Lib.containsS names x.f0 == false) l
  have e : siftL l names true = l.filter (fun x => !(Lib.containsS names x.f0 == false)) := by
    unfold siftL
    congr 1
    funext x
    cases Lib.containsS names x.f0 <;> rfl
  rw [e]
  exact h
theorem make_back {m : ByteArray} {l y : List S32} (h : goodB m l = true) (hp : y.Perm l) : makeR m y = (m, l, 0) := by
  simp only [goodB, Bool.and_eq_true, decide_eq_true_eq] at h
  obtain ⟨⟨⟨hm, hok⟩, hasc⟩, hl6⟩ := h
  have hoky : y.all okS = true := by
    rw [List.all_eq_true] at hok ⊢
    exact fun x hx => hok x (hp.mem_iff.1 hx)
  have hnd : (y.map nameL).Nodup := (hp.map nameL).nodup_iff.2 (asc_nodup l hasc)
  have hs : l = sortN y := sorted_is hp.symm (fun i j hi hj => lt_asym ((List.pairwise_iff_getElem.1 (asc_pw l hasc)) i j (by omega) hj hi)) hnd
  unfold makeR
  rw [if_neg (by rw [hm]; decide), if_neg (by rw [hoky]; decide), if_neg (by unfold diffN; rw [decide_eq_true hnd]; decide), if_neg (by rw [hp.length_eq]; omega), ← hs]
theorem good_small {m : ByteArray} {l : List S32} (h : goodB m l = true) : m.size ≤ 24 ∧ l.length ≤ 6 ∧ Within 24 l := by
  simp only [goodB, Bool.and_eq_true, decide_eq_true_eq] at h
  obtain ⟨⟨⟨hm, hok⟩, _⟩, hl6⟩ := h
  simp only [nameB, Bool.and_eq_true, decide_eq_true_eq] at hm
  refine ⟨hm.1.1.2, hl6, fun x hx => ?_⟩
  have := List.all_eq_true.1 hok x hx
  simp only [okS, wordB, nameB, valueB, Bool.and_eq_true, decide_eq_true_eq] at this
  exact ⟨this.1.1.1.1.2, this.2.2⟩
end Go.Proofs.Ytiddemgeehcjpaa.H
namespace Go.Proofs.Ytiddemgeehcjpaa.Pure
open Go.RowKit Go.Proofs.Ytiddemgeehcjpaa.H Go.Proofs.Ytiddemgeehcjpaa.PA Go.Proofs.Ytiddemgeehcjpaa.PC Go.Proofs.Ytiddemgeehcjpaa.PS Go.Proofs.YtiddemgeehcjpaaW.PrintWords Go.Proofs.YtiddemgeehcjpaaW.PrintLast Go.Proofs.YtiddemgeehcjpaaW.PrintMore
theorem TagSifts (m : ByteArray) (l : List S32) (names : List ByteArray) (hm : m.size ≤ 140737488351232) (hW : Within 140737488351232 l) (hl : l.length ≤ 140737488351232) : ∃ k, tidemilllaw02_TagSifts.f k m l names = some true := by
  refine ⟨1000000000000000, ?_⟩
  have hj : ∀ k, tidemilllaw02_TagSifts.j0 (k + 1) names true m l = some true := by
    intro k
    simp only [tidemilllaw02_TagSifts.j0, if_true]
    rw [awake02]
    rfl
  unfold tidemilllaw02_TagSifts.f
  rw [awake02, Option.bind_some, if_pos rfl, refGood_eq m l 140737488351232 (by decide) hm (by omega) hW _ (by omega), Option.bind_some]
  by_cases hg : goodB m l = true
  · rw [if_pos hg]
    by_cases hn : (names.length : Int) > 20
    · rw [decide_eq_true hn]
      exact hj 999999999999999
    · rw [decide_eq_false hn]
      obtain ⟨h24, h6, hw⟩ := good_small hg
      have key : ∀ k, 5000 < k → tidemilllaw02_TagSifts.j0 (k + 2) names false m l = some true := by
        intro k hk
        have hs0 := siftL_len l names false
        have hs1 := siftL_len l names true
        have hless : tag_Less.f m l names = some (m, siftL l names false) := by
          unfold tag_Less.f tag_sifted.f
          rw [if_pos (by omega)]
          rfl
        have honly : tag_Only.f m l names = some (m, siftL l names true) := by
          unfold tag_Only.f tag_sifted.f
          rw [if_pos (by omega)]
          rfl
        have hmk : tag_Make.f m (siftL l names false ++ siftL l names true) = some (m, l, 0) := by
          have hp := sift_perm l names
          unfold tag_Make.f
          rw [make_back hg hp, if_pos]
          simp only [Bool.and_eq_true, decide_eq_true_eq]
          refine ⟨⟨by omega, by rw [hp.length_eq]; omega⟩, ?_⟩
          unfold sized
          rw [List.all_eq_true]
          intro x hx
          have := hw x (hp.mem_iff.1 hx)
          simp only [Bool.and_eq_true, decide_eq_true_eq]
          omega
        simp only [tidemilllaw02_TagSifts.j0]
        rw [if_neg (by decide), hless, Option.bind_some, honly, Option.bind_some, refSift_eq m l names false (by omega) (by omega) (k + 1) (by omega), Option.bind_some, same_self m (siftL l names false) (by omega) (k + 1) (by omega), Option.bind_some, if_pos rfl, refSift_eq m l names true (by omega) (by omega) (k + 1) (by omega), Option.bind_some, same_self m (siftL l names true) (by omega) (k + 1) (by omega), Option.bind_some]
        simp only [tidemilllaw02_TagSifts.j1]
        rw [if_neg (by decide), Option.bind_some, if_pos (by simp only [List.length_nil]; omega), Option.bind_some, List.nil_append, if_pos (by omega), hmk, Option.bind_some, if_pos rfl, same_self m l (by omega) k (by omega)]
        rfl
      exact key 999999999999998 (by decide)
  · rw [if_neg hg]
    exact hj 999999999999999
end Go.Proofs.Ytiddemgeehcjpaa.Pure
