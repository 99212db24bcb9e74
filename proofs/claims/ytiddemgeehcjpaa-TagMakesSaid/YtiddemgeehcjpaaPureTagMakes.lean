/- The law TagMakes: the series of any metric and labels is the reference's, in whatever order the labels come. -/
import Derived.Test.YtiddemgeehcjpaaAwk
import Derived.Test.YtiddemgeehcjpaaTagGd
import Derived.Test.YtiddemgeehcjpaaMkE
import Derived.Test.YtiddemgeehcjpaaPLx2
namespace Go.Proofs.Ytiddemgeehcjpaa.H
open Go.RowKit Go.Proofs.Ytiddemgeehcjpaa.PA Go.Proofs.Ytiddemgeehcjpaa.PC Go.Proofs.Ytiddemgeehcjpaa.PM Go.Proofs.Ytiddemgeehcjpaa.PL Go.Proofs.YtiddemgeehcjpaaW.PrintWords Go.Proofs.YtiddemgeehcjpaaW.PrintLast Go.Proofs.YtiddemgeehcjpaaW.PrintMore
set_option linter.unusedVariables false
theorem makeR_perm (m : ByteArray) {l y : List S32} (hp : y.Perm l) : makeR m y = makeR m l := by
  have h1 : y.all okS = l.all okS := by
    rw [Bool.eq_iff_iff, List.all_eq_true, List.all_eq_true]
    exact ⟨fun h x hx => h x (hp.mem_iff.2 hx), fun h x hx => h x (hp.mem_iff.1 hx)⟩
  have h2 : diffN y = diffN l := by
    unfold diffN
    rw [decide_eq_decide]
    exact (hp.map nameL).nodup_iff
  unfold makeR
  rw [h1, h2, hp.length_eq]
  by_cases h : diffN l = false
  · rw [if_pos h, if_pos h]
  · have hd : (l.map nameL).Nodup := by
      unfold diffN at h
      simpa using h
    have hs : sortN y = sortN l := sorted_is ((sortN_perm y).trans hp) (fun i j hi hj => (List.pairwise_iff_getElem.1 (sortN_pair y)) i j (by omega) hj hi) hd
    rw [hs]
theorem asc_of : ∀ {l : List S32}, Asc l → asc l = true
  | [], _ => rfl
  | [p], _ => rfl
  | p :: q :: l, h => by
    have h1 := List.pairwise_cons.1 h
    have h2 := asc_of (l := q :: l) h1.2
    have h3 := h1.1 q List.mem_cons_self
    simp only [asc, ascF, Bool.and_eq_true] at h2 ⊢
    exact ⟨h3, h2⟩
theorem sort_asc {l : List S32} (hd : (l.map nameL).Nodup) : Asc (sortN l) := by
  have h1 := sortN_pair l
  have h2 : ((sortN l).map nameL).Nodup := ((sortN_perm l).map nameL).nodup_iff.2 hd
  rw [List.nodup_iff_pairwise_ne, List.pairwise_map] at h2
  unfold Asc
  exact (h1.and h2).imp fun ⟨a, b⟩ => gt_of a (fun e => b e.symm)
/-- A series that is made without an error is good. -/
theorem make_good {m : ByteArray} {l : List S32} (h : (makeR m l).2.2 = 0) : goodB (makeR m l).1 (makeR m l).2.1 = true := by
  unfold makeR at h ⊢
  by_cases h1 : nameB m = false
  · rw [if_pos h1] at h; exact absurd h (by decide)
  rw [if_neg h1] at h ⊢
  by_cases h2 : l.all okS = false
  · rw [if_pos h2] at h; exact absurd h (by decide)
  rw [if_neg h2] at h ⊢
  by_cases h3 : diffN l = false
  · rw [if_pos h3] at h; exact absurd h (by decide)
  rw [if_neg h3] at h ⊢
  by_cases h4 : 6 < l.length
  · rw [if_pos h4] at h; exact absurd h (by decide)
  rw [if_neg h4]
  have hd : (l.map nameL).Nodup := by
    unfold diffN at h3
    simpa using h3
  have hp := sortN_perm l
  have h5 : (sortN l).all okS = true := by
    rw [Bool.not_eq_false, List.all_eq_true] at h2
    rw [List.all_eq_true]
    exact fun x hx => h2 x (hp.mem_iff.1 hx)
  unfold goodB
  rw [h5, asc_of (sort_asc hd), hp.length_eq]
  simp only [Bool.not_eq_false] at h1
  rw [h1, decide_eq_true (show l.length ≤ 6 by omega)]
  rfl
theorem make_len (m : ByteArray) (l : List S32) : (makeR m l).2.1.length ≤ l.length := by
  unfold makeR
  repeat' split
  all_goals simp [(sortN_perm l).length_eq]
theorem make_size (m : ByteArray) (l : List S32) : (makeR m l).1.size ≤ m.size := by
  unfold makeR
  repeat' split
  all_goals first | exact Nat.le_refl _ | exact Nat.zero_le _
theorem make_mem (m : ByteArray) (l : List S32) : ∀ x ∈ (makeR m l).2.1, x ∈ l := by
  unfold makeR
  intro x
  repeat' split
  all_goals simp [(sortN_perm l).mem_iff]
end Go.Proofs.Ytiddemgeehcjpaa.H
namespace Go.Proofs.Ytiddemgeehcjpaa.Pure
open Go.RowKit Go.Proofs.Ytiddemgeehcjpaa.H Go.Proofs.Ytiddemgeehcjpaa.PA Go.Proofs.Ytiddemgeehcjpaa.PC Go.Proofs.Ytiddemgeehcjpaa.PM Go.Proofs.Ytiddemgeehcjpaa.PL Go.Proofs.YtiddemgeehcjpaaW.PrintWords Go.Proofs.YtiddemgeehcjpaaW.PrintLast Go.Proofs.YtiddemgeehcjpaaW.PrintMore
set_option linter.unusedVariables false
theorem same_all (l : List S32) (m : ByteArray) (hm : m.size ≤ 1000) (hl : l.length ≤ 1000) (hW : Within 140737488351232 l) : ∀ (d i k : Nat), i + d = l.length → d + 140737488351232 + 5000 < k →
    tidemilllaw02_TagMakes.l1 k l l (makeR m l).2.2 (makeR m l).2.2 (makeR m l).2.2 (l.length : Int) (i : Int) (makeR m l).1 (makeR m l).2.1 (makeR m l).1 (makeR m l).2.1 (makeR m l).1 (makeR m l).2.1 = some true := by
  intro d
  induction d with
  | zero =>
    intro i k hi hk
    obtain ⟨k, rfl⟩ : ∃ m, k = m + 1 := ⟨k - 1, by omega⟩
    have h1 := make_len m l
    simp only [tidemilllaw02_TagMakes.l1]
    rw [if_neg (by omega), if_pos trivial, same_self _ _ (by omega) k (by omega), Option.bind_some, if_pos rfl, if_pos trivial, Option.bind_some, if_pos rfl]
    by_cases h : (makeR m l).2.2 = 0
    · have h2 := make_size m l
      rw [if_pos h, tagGood_eq _ _ 140737488351232 (by decide) (by omega) (by omega) (fun x hx => hW x (make_mem m l x hx)) k (by omega), make_good h]
      rfl
    · rw [if_neg h]
  | succ d ih =>
    intro i k hi hk
    obtain ⟨k, rfl⟩ : ∃ m, k = m + 1 := ⟨k - 1, by omega⟩
    simp only [tidemilllaw02_TagMakes.l1]
    rw [if_pos (by omega), if_pos (by omega), if_pos (by omega), if_pos (by omega), if_neg (by simp), wrap_in (by omega) (by omega)]
    exact ih (i + 1) k (by omega) (by omega)
theorem make_own (m : ByteArray) (l : List S32) (hm : m.size ≤ 1000) (hl : l.length ≤ 1000) (hW : Within 140737488351232 l) : tag_Make.f m l = some (makeR m l) := by
  unfold tag_Make.f
  rw [if_pos]
  simp only [Bool.and_eq_true, decide_eq_true_eq]
  refine ⟨⟨by omega, by omega⟩, ?_⟩
  unfold sized
  rw [List.all_eq_true]
  intro x hx
  have := hW x hx
  simp only [Bool.and_eq_true, decide_eq_true_eq]
  omega
theorem turned_all (l : List S32) (m : ByteArray) (hm : m.size ≤ 1000) (hl : l.length ≤ 1000) (hW : Within 140737488351232 l) : ∀ (i k : Nat), i ≤ l.length → i + 140737488351232 + 10000 < k →
    tidemilllaw02_TagMakes.l0 k m l l (makeR m l).2.2 (makeR m l).2.2 (l.drop i).reverse ((i : Int) - 1) (makeR m l).1 (makeR m l).2.1 (makeR m l).1 (makeR m l).2.1 = some true := by
  intro i
  induction i with
  | zero =>
    intro k hi hk
    obtain ⟨k, rfl⟩ : ∃ m, k = m + 1 := ⟨k - 1, by omega⟩
    simp only [tidemilllaw02_TagMakes.l0]
    have hr : makeR m l.reverse = makeR m l := makeR_perm m (List.reverse_perm l)
    rw [if_neg (by omega), List.drop_zero, make_own m l.reverse hm (by rw [List.length_reverse]; exact hl) (fun x hx => hW x (List.mem_reverse.1 hx)), Option.bind_some, hr]
    exact same_all l m hm hl hW l.length 0 k (by omega) (by omega)
  | succ i ih =>
    intro k hi hk
    obtain ⟨k, rfl⟩ : ∃ m, k = m + 1 := ⟨k - 1, by omega⟩
    have hil : i < l.length := by omega
    simp only [tidemilllaw02_TagMakes.l0]
    have e : ((i + 1 : Nat) : Int) - 1 = (i : Int) := by omega
    rw [e, if_pos (by omega), if_pos (by omega), if_pos (by omega), if_pos (by rw [List.length_reverse, List.length_drop]; omega), rd_labE l i hil, wrap_in (by omega) (by omega)]
    have := ih k (by omega) (by omega)
    rw [List.drop_eq_getElem_cons hil, List.reverse_cons] at this
    exact this
theorem TagMakes (m : ByteArray) (l : List S32) (hm : m.size ≤ 140737488351232) (hW : Within 140737488351232 l) (hl : l.length ≤ 140737488351232) : ∃ k, tidemilllaw02_TagMakes.f k m l = some true := by
  refine ⟨1000000000000000, ?_⟩
  have hj : ∀ k, tidemilllaw02_TagMakes.j0 (k + 1) m l true = some true := by
    intro k
    simp only [tidemilllaw02_TagMakes.j0, if_true]
    rw [awake02]
    rfl
  unfold tidemilllaw02_TagMakes.f
  rw [awake02, Option.bind_some, if_pos rfl]
  by_cases h20 : (l.length : Int) > 20
  · rw [if_pos h20]
    exact hj 999999999999999
  · rw [if_neg h20]
    by_cases h200 : (m.size : Int) > 200
    · rw [decide_eq_true h200]
      exact hj 999999999999999
    · rw [decide_eq_false h200]
      have key : ∀ k, 400000000000000 < k → tidemilllaw02_TagMakes.j0 (k + 1) m l false = some true := by
        intro k hk
        simp only [tidemilllaw02_TagMakes.j0]
        rw [if_neg (by decide), Option.bind_some, if_pos (by simp only [List.length_nil]; omega), Option.bind_some, List.nil_append, make_own m l (by omega) (by omega) hW, Option.bind_some, refMake_eq m l 140737488351232 (by decide) (by omega) (by omega) hW k (by omega), Option.bind_some, wrap_in (by omega) (by omega)]
        have := turned_all l m (by omega) (by omega) hW l.length k (by omega) (by omega)
        rw [List.drop_length, List.reverse_nil] at this
        exact this
      exact key 999999999999999 (by decide)
end Go.Proofs.Ytiddemgeehcjpaa.Pure
