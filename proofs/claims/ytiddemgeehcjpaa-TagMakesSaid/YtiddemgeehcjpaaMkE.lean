/- The reference's Make, told plainly: it is makeR. -/
import Derived.Test.YtiddemgeehcjpaaTagQ
import Derived.Test.YtiddemgeehcjpaaTagK
import Derived.Test.YtiddemgeehcjpaaPMx1
namespace Go.Proofs.Ytiddemgeehcjpaa.H
open Go.RowKit Go.Proofs.Ytiddemgeehcjpaa.PA Go.Proofs.Ytiddemgeehcjpaa.PM Go.Proofs.YtiddemgeehcjpaaW.PrintWords Go.Proofs.YtiddemgeehcjpaaW.PrintLast Go.Proofs.YtiddemgeehcjpaaW.PrintMore
set_option linter.unusedVariables false
theorem lt_asymE {a b : S32} (h : ltName a b = true) : ltName b a = false := by
  refine Bool.eq_false_iff.2 fun h2 => ?_
  have := swo_name.trans _ _ _ h h2
  rw [swo_name.irrefl] at this
  cases this
theorem lt_neE {a b : S32} (h : ltName a b = true) : nameL a ≠ nameL b := by
  intro e
  unfold ltName at h
  have e2 : a.f0.data.toList = b.f0.data.toList := e
  rw [e2] at h
  have := swo_name.irrefl b
  unfold ltName at this
  rw [this] at h
  cases h
theorem gt_of {a b : S32} (h : ltName a b = false) (hn : nameL a ≠ nameL b) : ltName b a = true := by
  cases h2 : ltName b a with
  | true => rfl
  | false => exact absurd (lt_anti h h2) hn
theorem rd_labE (l : List S32) (i : Nat) (h : i < l.length) : rd_T32 l (i : Int) = l[i] := by
  have := rd_at (l.take i) l[i] (l.drop (i + 1))
  rw [← List.drop_eq_getElem_cons h, List.take_append_drop, List.length_take, Nat.min_eq_left (by omega)] at this
  exact this
/-- Ascending names. -/
def Asc (l : List S32) : Prop := l.Pairwise (fun a b => ltName a b = true)
theorem Asc.nodup {l : List S32} (h : Asc l) : (l.map nameL).Nodup := by
  rw [List.nodup_iff_pairwise_ne, List.pairwise_map]
  exact h.imp fun hab => lt_neE hab
theorem Asc.is_sort {s l : List S32} (h : Asc s) (hp : s.Perm l) : s = sortN l :=
  sorted_is hp (fun i j hi hj => lt_asymE ((List.pairwise_iff_getElem.1 h) i j (by omega) hj hi)) ((hp.map nameL).nodup_iff.1 h.nodup)
theorem Asc.insert {acc : List S32} {x : S32} {a : Nat} (h : Asc acc) (hl : ∀ y ∈ acc.take a, ltName y x = true) (hg : ∀ h : a < acc.length, ltName acc[a] x = false) (hn : ∀ h : a < acc.length, nameL acc[a] ≠ nameL x) : Asc (acc.take a ++ [x] ++ acc.drop a) := by
  unfold Asc at h ⊢
  have h0 := h
  rw [← List.take_append_drop a acc, List.pairwise_append] at h0
  obtain ⟨h1, h2, h3⟩ := h0
  have hx : ∀ y ∈ acc.drop a, ltName x y = true := by
    intro y hy
    by_cases ha : a < acc.length
    · have e := List.drop_eq_getElem_cons ha
      have g := gt_of (hg ha) (hn ha)
      rw [e] at hy h2
      rcases List.mem_cons.1 hy with rfl | hy
      · exact g
      · exact swo_name.trans _ _ _ g ((List.pairwise_cons.1 h2).1 y hy)
    · rw [List.drop_eq_nil_iff.2 (by omega)] at hy
      cases hy
  rw [List.pairwise_append, List.pairwise_append]
  refine ⟨⟨h1, List.pairwise_singleton _ _, fun y hy z hz => ?_⟩, h2, fun y hy z hz => ?_⟩
  · rw [List.mem_singleton] at hz
    subst hz
    exact hl y hy
  · rcases List.mem_append.1 hy with hy | hy
    · exact h3 y hy z hz
    · rw [List.mem_singleton] at hy
      subst hy
      exact hx z hz
theorem ins_perm (acc : List S32) (x : S32) (a : Nat) : (acc.take a ++ [x] ++ acc.drop a).Perm (acc ++ [x]) := by
  have h1 : (acc.take a ++ [x] ++ acc.drop a).Perm (acc.take a ++ acc.drop a ++ [x]) := by
    rw [List.append_assoc, List.append_assoc]
    exact List.Perm.append_left _ List.perm_append_comm
  rw [List.take_append_drop] at h1
  exact h1
theorem texts_neg (a b : S32) (ha : a.f0.size ≤ 140737488355328) (hb : b.f0.size ≤ 140737488355328) (k : Nat) (hk : 2 * a.f0.size + 2 ≤ k) : ∃ t, tidemillref01_Texts.f k a.f0 b.f0 = some t ∧ (t < 0 ↔ ltName a b = true) := by
  refine ⟨_, texts_eq _ _ ha hb k hk, ?_⟩
  have h5 := cmpL_neg a.f0.data.toList b.f0.data.toList
  have h6 := less_name a b
  rw [Lib.toList_data, Lib.toList_data] at h6
  rw [h6] at h5
  cases h : ltName a b with
  | true =>
    rw [h] at h5
    refine ⟨fun _ => rfl, fun _ => ?_⟩
    by_cases h7 : cmpL a.f0.data.toList b.f0.data.toList ≥ 0
    · exact absurd (h5.1 h7) (by decide)
    · omega
  | false =>
    rw [h] at h5
    refine ⟨fun h8 => ?_, fun h8 => by cases h8⟩
    have := h5.2 rfl
    omega
theorem name_iff (a b : S32) : (a.f0).toList = (b.f0).toList ↔ nameL a = nameL b := by rw [Lib.toList_data, Lib.toList_data]; rfl

/-- One label is set into its place. -/
theorem place (m : ByteArray) (l acc : List S32) (Z : Nat) (hZ : Z ≤ 140737488355328) (hl : l.length ≤ 1000) (hacc : acc.length ≤ 1000) (hW : Within Z l) (hA : Within Z acc) (i : Nat) (hi : i < l.length) : ∀ (d a k : Nat), a + d = acc.length → d + 2 * Z + 5 < k → (∀ y ∈ acc.take a, ltName y l[i] = true) →
    ∃ a', a' ≤ acc.length ∧ (∀ y ∈ acc.take a', ltName y l[i] = true) ∧ (∀ h : a' < acc.length, ltName acc[a'] l[i] = false) ∧ ∃ k', k ≤ k' + d + 1 ∧
      (((∃ h : a' < acc.length, nameL acc[a'] = nameL l[i]) ∧ tidemillref02_Make.l2 k m l acc (i : Int) (a : Int) (l.length : Int) (i : Int) = some (⟨#[]⟩, [], 6)) ∨
       ((∀ h : a' < acc.length, nameL acc[a'] ≠ nameL l[i]) ∧ tidemillref02_Make.l2 k m l acc (i : Int) (a : Int) (l.length : Int) (i : Int) = tidemillref02_Make.l1 k' m l (acc.take a' ++ [l[i]] ++ acc.drop a') (l.length : Int) ((i + 1 : Nat) : Int))) := by
  have hx := hW l[i] (List.getElem_mem hi)
  have hrx := rd_labE l i hi
  intro d
  induction d with
  | zero =>
    intro a k ha hk hlt
    obtain ⟨k, rfl⟩ : ∃ m, k = m + 1 := ⟨k - 1, by omega⟩
    refine ⟨a, by omega, hlt, fun h => by omega, k, by omega, .inr ⟨fun h => by omega, ?_⟩⟩
    simp only [tidemillref02_Make.l2]
    have e1 : (acc.take a).length = acc.length := by rw [List.length_take]; omega
    have e2 : (acc.drop a).length = 0 := by rw [List.length_drop]; omega
    rw [if_neg (by omega), Option.bind_some, if_pos (by omega), if_pos (by omega), Option.bind_some, Int.toNat_natCast, if_pos (by simp only [List.length_nil]; omega), Option.bind_some, if_pos (by omega), if_pos (by omega), Option.bind_some, List.nil_append, if_pos (by simp only [List.length_singleton]; omega), Option.bind_some, Option.bind_some, if_pos (by simp only [List.length_append, List.length_singleton]; omega), hrx, wrap_in (by omega) (by omega)]
    rfl
  | succ d ih =>
    intro a k ha hk hlt
    obtain ⟨k, rfl⟩ : ∃ m, k = m + 1 := ⟨k - 1, by omega⟩
    have hal : a < acc.length := by omega
    have hy := hA acc[a] (List.getElem_mem hal)
    have hry := rd_labE acc a hal
    obtain ⟨t, ht, hneg⟩ := texts_neg acc[a] l[i] (by omega) (by omega) k (by omega)
    simp only [tidemillref02_Make.l2]
    rw [if_pos (by omega), if_pos (by omega), if_pos (by omega), if_pos (by omega), hrx, hry, ht, Option.bind_some]
    by_cases h : ltName acc[a] l[i] = true
    · rw [if_pos (hneg.2 h), wrap_in (by omega) (by omega)]
      obtain ⟨a', h1, h2, h3, k', h4, h5⟩ := ih (a + 1) k (by omega) (by omega) (fun y hy => by
        rw [List.take_add_one, List.getElem?_eq_getElem hal, Option.toList_some, List.mem_append, List.mem_singleton] at hy
        rcases hy with hy | rfl
        · exact hlt y hy
        · exact h)
      exact ⟨a', h1, h2, h3, k', by omega, h5⟩
    · refine ⟨a, by omega, hlt, fun _ => Bool.eq_false_iff.2 h, k, by omega, ?_⟩
      rw [if_neg (fun h6 => h (hneg.1 h6))]
      by_cases hn : nameL acc[a] = nameL l[i]
      · exact .inl ⟨⟨hal, hn⟩, by rw [if_pos ((name_iff _ _).2 hn)]⟩
      · refine .inr ⟨fun _ => hn, ?_⟩
        have e1 : (acc.take a).length = a := by rw [List.length_take]; omega
        have e2 : (acc.drop a).length = acc.length - a := by rw [List.length_drop]
        rw [if_neg (fun h6 => hn ((name_iff _ _).1 h6)), Option.bind_some, if_pos (by omega), Option.bind_some, Int.toNat_natCast, if_pos (by simp only [List.length_nil]; omega), Option.bind_some, Option.bind_some, List.nil_append, if_pos (by simp only [List.length_singleton]; omega), Option.bind_some, Option.bind_some, if_pos (by simp only [List.length_append, List.length_singleton]; omega), wrap_in (by omega) (by omega)]
        rfl
/-- What is left of makeR behind the labels' own check. -/
def makeT (m : ByteArray) (l : List S32) : ByteArray × List S32 × Int := if diffN l = false then (⟨#[]⟩, [], 6) else if 6 < l.length then (⟨#[]⟩, [], 3) else (m, sortN l, 0)
theorem all_placed (m : ByteArray) (l : List S32) (Z : Nat) (hZ : Z ≤ 140737488355328) (hl : l.length ≤ 1000) (hW : Within Z l) : ∀ (d i k : Nat) (acc : List S32), i + d = l.length → Asc acc → acc.Perm (l.take i) → d * 1100 + 2 * Z + 2000 < k →
    tidemillref02_Make.l1 k m l acc (l.length : Int) (i : Int) = some (makeT m l) := by
  intro d
  induction d with
  | zero =>
    intro i k acc hi hacc hp hk
    obtain ⟨k, rfl⟩ : ∃ m, k = m + 1 := ⟨k - 1, by omega⟩
    rw [List.take_of_length_le (by omega)] at hp
    have hnd : (l.map nameL).Nodup := (hp.map nameL).nodup_iff.1 hacc.nodup
    have hs := hacc.is_sort hp
    have hln := hp.length_eq
    simp only [tidemillref02_Make.l1]
    unfold makeT
    rw [if_neg (show ¬ (i : Int) < (l.length : Int) by omega), if_neg (show ¬ diffN l = false by unfold diffN; rw [decide_eq_true hnd]; decide), ← hs]
    by_cases h : 6 < l.length
    · rw [if_pos (by omega), if_pos h]
    · rw [if_neg (by omega), if_neg h]
  | succ d ih =>
    intro i k acc hi hacc hp hk
    obtain ⟨k, rfl⟩ : ∃ m, k = m + 1 := ⟨k - 1, by omega⟩
    have hil : i < l.length := by omega
    have hln := hp.length_eq
    rw [List.length_take] at hln
    have hA : Within Z acc := fun x hx => hW x (List.mem_of_mem_take (hp.mem_iff.1 hx))
    obtain ⟨a, h1, h2, h3, k', h4, h5⟩ := place m l acc Z hZ hl (by omega) hW hA i hil acc.length 0 k (by omega) (by omega) (fun y hy => by rw [List.take_zero] at hy; cases hy)
    simp only [tidemillref02_Make.l1]
    rw [if_pos (by omega)]
    rcases h5 with ⟨⟨ha, hn⟩, h6⟩ | ⟨hn, h6⟩
    · refine (show tidemillref02_Make.l2 k m l acc (i : Int) 0 (l.length : Int) (i : Int) = _ from h6).trans ?_
      have hd : diffN l = false := by
        unfold diffN
        refine decide_eq_false fun hnd => ?_
        have hnd2 : ((l.take i).map nameL ++ (l.drop i).map nameL).Nodup := by rw [← List.map_append, List.take_append_drop]; exact hnd
        refine (List.nodup_append.1 hnd2).2.2 (nameL acc[a]) (List.mem_map.2 ⟨_, hp.mem_iff.1 (List.getElem_mem ha), rfl⟩) (nameL l[i]) (List.mem_map.2 ⟨_, ?_, rfl⟩) hn
        rw [List.drop_eq_getElem_cons hil]
        exact List.mem_cons_self
      unfold makeT
      rw [if_pos hd]
    · refine (show tidemillref02_Make.l2 k m l acc (i : Int) 0 (l.length : Int) (i : Int) = _ from h6).trans ?_
      have hk2 : d * 1100 + 2 * Z + 2000 < k' := by
        have e : (d + 1) * 1100 = d * 1100 + 1100 := Nat.succ_mul _ _
        have h7 : k ≤ k' + 1001 := by omega
        rw [e] at hk
        clear h6 hn h2 h3 ih e h4 hln hi
        generalize d * 1100 = p at *
        omega
      refine ih (i + 1) k' _ (by omega) (hacc.insert h2 h3 hn) ?_ hk2
      rw [List.take_add_one, List.getElem?_eq_getElem hil, Option.toList_some]
      exact (ins_perm acc l[i] a).trans (hp.append_right _)
theorem all_checked (m : ByteArray) (l : List S32) (Z : Nat) (hZ : Z ≤ 140737488355328) (hl : l.length ≤ 1000) (hW : Within Z l) : ∀ (d i k : Nat), i + d = l.length → d + Z + 2 < k →
    ∃ k', k ≤ k' + d + 1 ∧ tidemillref02_Make.l0 k m l (l.length : Int) (i : Int) = if (l.drop i).all okS = true then tidemillref02_Make.l1 k' m l [] (l.length : Int) 0 else some (⟨#[]⟩, [], 10) := by
  intro d
  induction d with
  | zero =>
    intro i k hi hk
    obtain ⟨k, rfl⟩ : ∃ m, k = m + 1 := ⟨k - 1, by omega⟩
    refine ⟨k, by omega, ?_⟩
    simp only [tidemillref02_Make.l0]
    rw [if_neg (by omega), List.drop_eq_nil_iff.2 (by omega), List.all_nil, if_pos rfl]
  | succ d ih =>
    intro i k hi hk
    obtain ⟨k, rfl⟩ : ∃ m, k = m + 1 := ⟨k - 1, by omega⟩
    have hil : i < l.length := by omega
    have hx := hW l[i] (List.getElem_mem hil)
    obtain ⟨k', h1, h2⟩ := ih (i + 1) k (by omega) (by omega)
    refine ⟨k', by omega, ?_⟩
    simp only [tidemillref02_Make.l0]
    rw [if_pos (by omega), if_pos (by omega), if_pos (by omega), rd_labE l i hil, refWord_eq _ (by omega) k (by omega), Option.bind_some, refValue_eq _ (by omega) k (by omega), Option.bind_some, wrap_in (by omega) (by omega), show (i : Int) + 1 = ((i + 1 : Nat) : Int) by omega, h2, List.drop_eq_getElem_cons hil, List.all_cons]
    unfold okS
    cases wordB l[i].f0 <;> cases valueB l[i].f1 <;> simp
theorem refMake_eq (m : ByteArray) (l : List S32) (Z : Nat) (hZ : Z ≤ 140737488355328) (hm : m.size ≤ Z) (hl : l.length ≤ 1000) (hW : Within Z l) (k : Nat) (hk : 2 * Z + 2000000 < k) : tidemillref02_Make.f k m l = some (makeR m l) := by
  unfold tidemillref02_Make.f makeR
  rw [refName_eq m (by omega) k (by omega), Option.bind_some]
  cases h : nameB m with
  | false => rw [if_neg (by decide), if_pos rfl]
  | true =>
    rw [if_pos rfl, if_neg (by decide)]
    obtain ⟨k', h1, h2⟩ := all_checked m l Z hZ hl hW l.length 0 k (by omega) (by omega)
    refine (show tidemillref02_Make.l0 k m l (l.length : Int) 0 = _ from h2).trans ?_
    rw [List.drop_zero]
    cases h3 : l.all okS with
    | false => rw [if_neg (by decide), if_pos rfl]
    | true =>
      rw [if_pos rfl, if_neg (by decide)]
      exact all_placed m l Z hZ hl hW l.length 0 k' [] (by omega) List.Pairwise.nil (by rw [List.take_zero]) (by omega)
end Go.Proofs.Ytiddemgeehcjpaa.H
