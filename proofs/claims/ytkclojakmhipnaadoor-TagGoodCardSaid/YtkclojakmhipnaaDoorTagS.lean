/- tag.Good and both readings of a text, told plainly: what is read has that text, and a good series' text is read back. -/
import Derived.Test.YtkclojakmhipnaaDoorTagQ
import Derived.Test.YtkclojakmhipnaaDoorTagR
import Derived.Test.YtkclojakmhipnaaDoorPCx
namespace Go.Proofs.YtkclojakmhipnaaDoor.H
open Go.RowKit Go.Shelf Go.Proofs.YtkclojakmhipnaaDoor.PA Go.Proofs.YtkclojakmhipnaaDoor.PC Go.Proofs.YtkclojakmhipnaaDoorW.PrintWords Go.Proofs.YtkclojakmhipnaaDoorW.PrintLast Go.Proofs.YtkclojakmhipnaaDoorW.PrintMore
set_option linter.unusedVariables false

/-! tag.Good -/
theorem bool_if (a b : Bool) : (if a = true then some b else some false) = some (a && b) := by cases a <;> rfl
theorem len_six (l : List S53) : decide ((l.length : Int) ≤ 6) = decide (l.length ≤ 6) := by rw [decide_eq_decide]; omega
theorem labels_eq (l : List S53) (Z : Nat) (hZ : Z ≤ 140737488355328) (hW : Within Z l) : tag_labels.f l = some (l.all okS) := by
  unfold tag_labels.f
  rw [if_pos]
  rw [List.all_eq_true]
  intro x hx
  have := hW x hx
  rw [Bool.and_eq_true, decide_eq_true_eq, decide_eq_true_eq]
  omega
theorem tagGood_loop (m : ByteArray) (l : List S53) (Z : Nat) (hZ : Z ≤ 140737488355328) (hm : m.size ≤ Z) (hl : l.length ≤ 140737488355328) (hW : Within Z l) : ∀ (R P : List S53) (p : S53) (k : Nat), l = P ++ p :: R → R.length + Z + 3 < k →
    tag_Good.l0 k ((P.length + 1 : Nat) : Int) m l = some (ascF p R && (nameB m && (l.all okS && decide (l.length ≤ 6)))) := by
  intro R
  induction R with
  | nil =>
    intro P p k hP hk
    obtain ⟨k, rfl⟩ : ∃ m, k = m + 1 := ⟨k - 1, by omega⟩
    simp only [tag_Good.l0]
    have : l.length = P.length + 1 := by rw [hP]; simp
    rw [if_neg (by omega), tagName_eq m (by omega) k (by omega), Option.bind_some, labels_eq l Z hZ hW, Option.bind_some, len_six]
    simp only [bool_if, ascF, Bool.true_and]
  | cons x R ih =>
    intro P p k hP hk
    simp only [List.length_cons] at hk
    obtain ⟨k, rfl⟩ : ∃ m, k = m + 1 := ⟨k - 1, by omega⟩
    have hlen : l.length = P.length + (R.length + 1 + 1) := by rw [hP]; simp
    have h1 : rd_T53 l (P.length : Int) = p := by rw [hP, rd_at]
    have h2 : rd_T53 l ((P.length + 1 : Nat) : Int) = x := by
      have := rd_at (P ++ [p]) x R
      rw [List.append_assoc, List.length_append] at this
      rw [hP]
      exact this
    simp only [tag_Good.l0]
    rw [wrap_in (n := ((P.length + 1 : Nat) : Int) - 1) (by omega) (by omega), show ((P.length + 1 : Nat) : Int) - 1 = (P.length : Int) by omega]
    rw [if_pos (by omega), if_pos (by omega), if_pos (by omega), if_pos (by omega), h1, h2, less_name]
    have hnext := ih (P ++ [p]) x k (by rw [hP]; simp) (by omega)
    rw [List.length_append, List.length_singleton] at hnext
    rw [wrap_succ (n := l.length) (by omega) (by omega) (by omega), show ((P.length + 1 : Nat) : Int) + 1 = ((P.length + 1 + 1 : Nat) : Int) by omega, hnext]
    simp only [bool_if, ascF, Bool.and_assoc]
theorem tagGood_eq (m : ByteArray) (l : List S53) (Z : Nat) (hZ : Z ≤ 140737488355328) (hm : m.size ≤ Z) (hl : l.length ≤ 140737488355328) (hW : Within Z l) (k : Nat) (hk : l.length + Z + 3 < k) : tag_Good.f k m l = some (goodB m l) := by
  unfold tag_Good.f goodB
  cases l with
  | nil =>
    obtain ⟨k, rfl⟩ : ∃ m, k = m + 1 := ⟨k - 1, by omega⟩
    simp only [tag_Good.l0]
    rw [if_neg (by simp), tagName_eq m (by omega) k (by omega), Option.bind_some, labels_eq _ Z hZ hW, Option.bind_some, len_six]
    simp only [bool_if, asc, Bool.and_true, Bool.and_assoc]
  | cons p R =>
    have := tagGood_loop m (p :: R) Z hZ hm hl hW R [] p k rfl (by simp only [List.length_cons] at hk; omega)
    change tag_Good.l0 k 1 m (p :: R) = _ at this
    rw [this]
    simp only [asc]
    generalize (p :: R).all okS = a
    generalize ascF p R = b
    generalize nameB m = c
    cases a <;> cases b <;> cases c <;> rfl

/-! Splitting and joining. -/
def joinC (c : UInt8) : List (List UInt8) → List UInt8
  | [] => []
  | [x] => x
  | x :: y :: r => x ++ c :: joinC c (y :: r)
theorem join_split (c : UInt8) : ∀ (n : Nat) (l : List UInt8), l.length ≤ n → joinC c ((splitL (ba l) c).map (fun p => p.data.toList)) = l ∧ splitL (ba l) c ≠ [] ∧ (∀ p ∈ splitL (ba l) c, p.size ≤ l.length) ∧ (splitL (ba l) c).length ≤ l.length + 1 := by
  intro n
  induction n with
  | zero =>
    intro l hl
    obtain rfl := List.eq_nil_of_length_eq_zero (Nat.le_zero.1 hl)
    rw [split_no (by simp)]
    simp [joinC, ba_data]
    rfl
  | succ n ih =>
    intro l hl
    by_cases h : c ∈ l
    · obtain ⟨a, b, ha, rfl⟩ := first_of h
      rw [split_at ha]
      simp only [List.length_append, List.length_cons] at hl ⊢
      obtain ⟨h1, h2, h3, h4⟩ := ih b (by omega)
      refine ⟨?_, by simp, ?_, ?_⟩
      · cases hs : splitL (ba b) c with
        | nil => exact absurd hs h2
        | cons y r =>
          rw [hs] at h1
          simp only [List.map_cons] at h1 ⊢
          rw [joinC, h1, ba_data]
      · intro p hp
        rcases List.mem_cons.1 hp with rfl | hp
        · rw [ba_size]; omega
        · have := h3 p hp; omega
      · omega
    · rw [split_no h]
      simp [joinC, ba_data, ba_size]
theorem split_join (c : UInt8) : ∀ (xs : List (List UInt8)), xs ≠ [] → (∀ x ∈ xs, c ∉ x) → splitL (ba (joinC c xs)) c = xs.map ba
  | [], h, _ => absurd rfl h
  | [x], _, h => by rw [joinC, split_no (h x (by simp))]; rfl
  | x :: y :: r, _, h => by
    rw [joinC, split_at (h x (by simp)), split_join c (y :: r) (by simp) (fun z hz => h z (by simp [hz]))]
    rfl

/-! A label's text. -/
def txtL (x : S53) : List UInt8 := x.f0.data.toList ++ 61 :: x.f1.data.toList
def labOf (p : ByteArray) : S53 := ⟨(cutB p 61).1, (cutB p 61).2.1⟩
def hasEq (p : ByteArray) : Bool := (cutB p 61).2.2
theorem labs_join (b : UInt8) : ∀ (l : List S53), l ≠ [] → labs b l = b :: joinC 44 (l.map txtL)
  | [], h => absurd rfl h
  | [x], _ => by simp [labs, joinC, txtL]
  | x :: y :: r, _ => by
    have := labs_join 44 (y :: r) (by simp)
    rw [labs, this]
    simp only [List.map_cons, joinC, txtL, List.append_assoc, List.cons_append]
theorem lab_cases (p : ByteArray) : (hasEq p = true ∧ txtL (labOf p) = p.data.toList ∨ hasEq p = false ∧ (labOf p).f1 = ⟨#[]⟩) ∧ (labOf p).f0.size ≤ p.size ∧ (labOf p).f1.size ≤ p.size := by
  unfold hasEq labOf txtL
  by_cases h : (61 : UInt8) ∈ p.data.toList
  · obtain ⟨a, b, ha, hb⟩ := first_of h
    rw [ba_eq hb, cut_at ha]
    refine ⟨.inl ⟨rfl, rfl⟩, ?_, ?_⟩
    · simp [ba_size]
    · simp [ba_size]; omega
  · have := cut_no h
    rw [ba_of] at this
    rw [this]
    exact ⟨.inr ⟨rfl, rfl⟩, Nat.le_refl _, Nat.zero_le _⟩
theorem lab_of_txt (x : S53) (h : (61 : UInt8) ∉ x.f0.data.toList) : labOf (ba (txtL x)) = x := by
  unfold labOf txtL
  rw [cut_at h, ba_of, ba_of]
/-! Both readings. -/
def trimB (s : ByteArray) : ByteArray := if s.data.toList.getLast? = some 125 then ba s.data.toList.dropLast else s
theorem snoc_cases (s : ByteArray) : s = ba [] ∨ ∃ l x, s = ba (l ++ [x]) := by
  rcases List.eq_nil_or_concat s.data.toList with h | ⟨l, x, h⟩
  · exact .inl (ba_eq h)
  · exact .inr ⟨l, x, ba_eq (by rw [h, List.concat_eq_append])⟩
theorem trim_snoc (l : List UInt8) (x : UInt8) : trimB (ba (l ++ [x])) = if x = 125 then ba l else ba (l ++ [x]) := by
  unfold trimB
  rw [ba_data, List.getLast?_concat, List.dropLast_concat]
  by_cases h : x = 125
  · rw [if_pos (by rw [h]), if_pos h]
  · rw [if_neg (by simpa using h), if_neg h]
theorem trim_eq (s : ByteArray) (hs : s.size ≤ 140737488355328) : strings_TrimSuffix.f s (⟨#[125]⟩ : ByteArray) = some (trimB s) := by
  unfold strings_TrimSuffix.f stringslite_TrimSuffix.f stringslite_HasSuffix.f
  rw [show (ByteArray.mk #[125]).size = 1 from rfl]
  rcases snoc_cases s with rfl | ⟨l, x, rfl⟩
  · rw [if_neg (by simp [ba_size])]
    rfl
  · have hsz : (ba (l ++ [x])).size = l.length + 1 := by rw [ba_size]; simp
    rw [hsz] at hs
    rw [hsz, trim_snoc, wrap_in (by omega) (by omega), show ((l.length + 1 : Nat) : Int) - ((1 : Nat) : Int) = (l.length : Int) by omega]
    rw [if_pos (by omega), if_pos (by omega), if_pos (by omega), Int.toNat_natCast, ← hsz, ex_right, ba_data, ex_left, ba_data]
    rw [List.drop_append_of_le_length (Nat.le_refl _), List.drop_length, List.nil_append, List.take_append_of_le_length (Nat.le_refl _), List.take_length, ba_tl]
    simp only [Option.bind_some]
    by_cases h : x = 125
    · subst h
      rw [if_pos (by rw [Lib.toList_data]; rfl), if_pos (by omega), if_pos (by omega), if_pos rfl]
      rfl
    · rw [if_neg h, if_neg]
      · rfl
      · intro h1
        have h2 := beq_iff_eq.1 h1
        rw [Lib.toList_data] at h2
        exact h (List.cons.inj h2).1
def partsB (s : ByteArray) : List ByteArray := splitL (trimB s) 44
def labsB (s : ByteArray) : List S53 := if (cutB s 123).2.2 = true then (partsB (cutB s 123).2.1).map labOf else []
def readB (s : ByteArray) : ByteArray × List S53 × Int :=
  if goodB (cutB s 123).1 (labsB s) = true ∧ textL (cutB s 123).1 (labsB s) = s.data.toList then ((cutB s 123).1, labsB s, 0) else (⟨#[]⟩, [], 2)
theorem good_short {m : ByteArray} {l : List S53} (h : goodB m l = true) : shortS m l = true ∧ Within 24 l ∧ m.size ≤ 24 ∧ l.length ≤ 6 := by
  simp only [goodB, Bool.and_eq_true, List.all_eq_true, decide_eq_true_eq, nameB] at h
  have hw : Within 24 l := fun x hx => by
    have := h.1.1.2 x hx
    simp only [okS, wordB, nameB, valueB, Bool.and_eq_true, decide_eq_true_eq] at this
    exact ⟨this.1.1.1.1.2, this.2.2⟩
  refine ⟨?_, hw, h.1.1.1.1.1.2, h.2⟩
  simp only [shortS, Bool.and_eq_true, decide_eq_true_eq, List.all_eq_true]
  refine ⟨⟨by have := h.1.1.1.1.1.2; omega, by have := h.2; omega⟩, fun x hx => ?_⟩
  have := hw x hx
  omega
theorem tagText_good {m : ByteArray} {l : List S53} (h : goodB m l = true) : tag_Text.f m l = some (ba (textL m l)) := by
  unfold tag_Text.f
  rw [if_pos (good_short h).1]
  rfl
theorem refText_good {m : ByteArray} {l : List S53} (h : goodB m l = true) : tidemillref02_Text.f m l = some (ba (textL m l)) := by
  unfold tidemillref02_Text.f
  rw [if_pos (good_short h).1]
  rfl
theorem tagRead_fin (s m : ByteArray) (l : List S53) (Z : Nat) (hZ : Z ≤ 140737488355328) (hm : m.size ≤ Z) (hl : l.length ≤ 140737488355328) (hW : Within Z l) (k : Nat) (hk : l.length + Z + 4 < k) :
    tag_Read.j1 k s m l = some (if goodB m l = true ∧ textL m l = s.data.toList then (m, l, 0) else (⟨#[]⟩, [], 2)) := by
  obtain ⟨k, rfl⟩ : ∃ m, k = m + 1 := ⟨k - 1, by omega⟩
  simp only [tag_Read.j1]
  rw [tagGood_eq m l Z hZ hm hl hW k (by omega), Option.bind_some]
  by_cases h : goodB m l = true
  · rw [if_pos h, tagText_good h, Option.bind_some, ba_tl, Lib.toList_data]
    by_cases h1 : textL m l = s.data.toList
    · rw [if_pos h1, if_pos ⟨h, h1⟩]
    · rw [if_neg h1, if_neg (fun z => h1 z.2)]
  · rw [if_neg h, if_neg (fun z => h z.1)]
theorem cut_sizes (s : ByteArray) (c : UInt8) : (cutB s c).1.size ≤ s.size ∧ (cutB s c).2.1.size ≤ s.size := by
  by_cases h : c ∈ s.data.toList
  · obtain ⟨a, b, ha, hb⟩ := first_of h
    rw [ba_eq hb, cut_at ha]
    simp [ba_size]
    omega
  · have := cut_no h
    rw [ba_of] at this
    rw [this]
    exact ⟨Nat.le_refl _, Nat.zero_le _⟩
theorem trim_size (s : ByteArray) : (trimB s).size ≤ s.size := by
  rcases snoc_cases s with rfl | ⟨l, x, rfl⟩
  · exact Nat.le_refl _
  · rw [trim_snoc]
    by_cases h : x = 125
    · rw [if_pos h, ba_size, ba_size]; simp
    · rw [if_neg h]; exact Nat.le_refl _
theorem parts_sizes (s : ByteArray) : (∀ p ∈ splitL s 44, p.size ≤ s.size) ∧ (splitL s 44).length ≤ s.size + 1 := by
  have := join_split 44 s.size s.data.toList (by rw [len_of]; exact Nat.le_refl _)
  rw [ba_of, len_of] at this
  exact ⟨this.2.2.1, this.2.2.2⟩
theorem within_parts {Z : Nat} {ps : List ByteArray} (h : ∀ p ∈ ps, p.size ≤ Z) : Within Z (ps.map labOf) := by
  intro x hx
  obtain ⟨p, hp, rfl⟩ := List.mem_map.1 hx
  have h1 := lab_cases p
  have h2 := h p hp
  omega
theorem tagRead_loop (s m : ByteArray) (ps : List ByteArray) (Z : Nat) (hZ : Z ≤ 1000000) (hm : m.size ≤ Z) (hp : ∀ p ∈ ps, p.size ≤ Z) (hl : ps.length ≤ 1000001) :
    ∀ (R P : List ByteArray) (k : Nat), ps = P ++ R → R.length + ps.length + Z + 5 < k →
    tag_Read.l0 k s m (P.map labOf) ps (ps.length : Int) (P.length : Int) = some (if goodB m (ps.map labOf) = true ∧ textL m (ps.map labOf) = s.data.toList then (m, ps.map labOf, 0) else (⟨#[]⟩, [], 2)) := by
  intro R
  induction R with
  | nil =>
    intro P k hP hk
    obtain ⟨k, rfl⟩ : ∃ m, k = m + 1 := ⟨k - 1, by omega⟩
    rw [List.append_nil] at hP
    subst hP
    simp only [tag_Read.l0]
    rw [if_neg (by omega)]
    exact tagRead_fin s m _ Z (by omega) hm (by rw [List.length_map]; omega) (within_parts hp) k (by rw [List.length_map]; simp at hk; omega)
  | cons x R ih =>
    intro P k hP hk
    simp only [List.length_cons] at hk
    obtain ⟨k, rfl⟩ : ∃ m, k = m + 1 := ⟨k - 1, by omega⟩
    have hlen : ps.length = P.length + (R.length + 1) := by rw [hP]; simp
    have hrd : rdOf ByteArray.empty ps (P.length : Int) = x := by
      unfold rdOf
      rw [hP, Int.toNat_natCast]
      simp
    have hx := hp x (by rw [hP]; simp)
    simp only [tag_Read.l0]
    rw [if_pos (by omega), if_pos (by omega), if_pos (by omega), hrd]
    have hc : strings_Cut.f x (⟨#[61]⟩ : ByteArray) = some (cutB x 61) := by
      unfold strings_Cut.f
      simp only []
      rw [if_pos (by omega)]
    rw [hc, Option.bind_some, if_pos (by rw [List.length_map]; omega), wrap_succ (n := ps.length) (by omega) (by omega) (by omega)]
    have := ih (P ++ [x]) k (by rw [hP]; simp) (by omega)
    rw [List.length_append, List.length_singleton, List.map_append] at this
    exact this
theorem tagRead_eq (s : ByteArray) (Z : Nat) (hZ : Z ≤ 1000000) (hs : s.size ≤ Z) (k : Nat) (hk : 3 * Z + 9 < k) : tag_Read.f k s = some (readB s) := by
  unfold tag_Read.f readB labsB partsB
  have hc : strings_Cut.f s (⟨#[123]⟩ : ByteArray) = some (cutB s 123) := by
    unfold strings_Cut.f
    simp only []
    rw [if_pos (by omega)]
  have hz := cut_sizes s 123
  rw [hc, Option.bind_some]
  by_cases h : (cutB s 123).2.2 = true
  · have ht := trim_size (cutB s 123).2.1
    rw [if_pos h, trim_eq _ (by omega), Option.bind_some]
    have hsp : strings_Split.f (trimB (cutB s 123).2.1) (⟨#[44]⟩ : ByteArray) = some (splitL (trimB (cutB s 123).2.1) 44) := by
      unfold strings_Split.f
      simp only []
      rw [if_pos (by omega)]
    have hps := parts_sizes (trimB (cutB s 123).2.1)
    rw [hsp, Option.bind_some, if_pos h]
    clear hsp
    generalize splitL (trimB (cutB s 123).2.1) 44 = ps at hps ⊢
    exact tagRead_loop s _ ps Z hZ (by omega) (fun p hp => by have := hps.1 p hp; omega) (by omega) ps [] k rfl (by omega)
  · rw [if_neg h, if_neg h]
    exact tagRead_fin s _ _ Z (by omega) (by omega) (by simp) (fun x hx => by cases hx) k (by simp; omega)

/-! Both agree. -/
theorem text_no (m : ByteArray) : textL m [] = m.data.toList := by simp [textL]
end Go.Proofs.YtkclojakmhipnaaDoor.H
