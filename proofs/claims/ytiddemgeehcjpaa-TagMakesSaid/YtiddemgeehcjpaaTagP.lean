/- What tag.Name, tag.Value, tag.word and the reference's Name, Value, Word tell: one plain answer each. -/
import Derived.Test.YtiddemgeehcjpaaPAx
import Derived.Test.YtiddemgeehcjpaaPl
namespace Go.Proofs.Ytiddemgeehcjpaa.H
open Go.RowKit Go.Proofs.Ytiddemgeehcjpaa.PA Go.Proofs.YtiddemgeehcjpaaW.PrintWords Go.Proofs.YtiddemgeehcjpaaW.PrintLast Go.Proofs.YtiddemgeehcjpaaW.PrintMore
set_option linter.unusedVariables false

theorem name_tree {α : Type} (c : Int) (X Y : α) :
    (if c < 97 then (if c < 48 then (if c = 95 then X else (if c = 46 then X else Y)) else (if c > 57 then (if c = 95 then X else (if c = 46 then X else Y)) else X)) else (if c > 122 then (if c < 48 then (if c = 95 then X else (if c = 46 then X else Y)) else (if c > 57 then (if c = 95 then X else (if c = 46 then X else Y)) else X)) else X)) = if nmOk c = true then X else Y := by
  by_cases h : nmOk c = true
  · rw [if_pos h]
    simp only [nmOk, Bool.or_eq_true, decide_eq_true_eq] at h
    repeat' split
    all_goals first | rfl | (exfalso; omega)
  · rw [if_neg h]
    simp only [nmOk, Bool.or_eq_true, decide_eq_true_eq] at h
    repeat' split
    all_goals first | rfl | (exfalso; omega)

theorem tagName_eq (s : ByteArray) (hs : s.size ≤ 140737488355328) (k : Nat) (hk : s.size + 1 < k) : tag_Name.f k s = some (nameB s) := by
  obtain ⟨k, rfl⟩ : ∃ m, k = m + 1 := ⟨k - 1, by omega⟩
  have hl : tag_Name.l0 k s (s.size : Int) 0 = some (s.data.toList.all (okb nmOk) && true) := by
    refine all_loop0 (fun k i => tag_Name.l0 k s (s.size : Int) i) s nmOk true (fun k i h0 h1 => ?_) (fun k => ?_) k (by omega)
    · simp only [tag_Name.l0]
      rw [if_pos h1, if_pos h0, if_pos h1, wrap_succ h0 h1 (by omega), name_tree]
    · simp only [tag_Name.l0]
      rw [if_neg (by omega)]
  unfold tag_Name.f nameB
  by_cases h1 : (s.size : Int) < 1
  · rw [if_pos h1]
    simp only [tag_Name.j0, if_true]
    simp; omega
  · rw [if_neg h1]
    by_cases h2 : (s.size : Int) > 24
    · rw [if_pos h2]
      simp only [tag_Name.j0, if_true]
      simp; omega
    · rw [if_neg h2, if_pos (by omega)]
      have h3 : decide (1 ≤ s.size) = true := by simp; omega
      have h4 : decide (s.size ≤ 24) = true := by simp; omega
      rw [h3, h4]
      unfold low
      by_cases h5 : bt s 0 < 97
      · rw [if_pos h5]
        simp only [tag_Name.j0, if_true]
        have : decide (97 ≤ bt s 0 ∧ bt s 0 ≤ 122) = false := by simp; omega
        rw [this]; rfl
      · rw [if_neg h5]
        by_cases h6 : bt s 0 > 122
        · have : decide (97 ≤ bt s 0 ∧ bt s 0 ≤ 122) = false := by simp; omega
          rw [this, decide_eq_true h6]
          simp only [tag_Name.j0, if_true]; rfl
        · have : decide (97 ≤ bt s 0 ∧ bt s 0 ≤ 122) = true := by simp; omega
          rw [this, decide_eq_false h6]
          simp only [tag_Name.j0]
          rw [if_neg (by decide), hl]
          simp

theorem refName_eq (s : ByteArray) (hs : s.size ≤ 140737488355328) (k : Nat) (hk : s.size < k) : tidemillref02_Name.f k s = some (nameB s) := by
  obtain ⟨k, rfl⟩ : ∃ m, k = m + 1 := ⟨k - 1, by omega⟩
  have hend : ∀ k, tidemillref02_Name.l0 (k + 1) s (s.size : Int) = some (decide (1 ≤ s.size) && decide (s.size ≤ 24)) := by
    intro k
    simp only [tidemillref02_Name.l0]
    rw [if_neg (by omega)]
    by_cases h : 1 ≤ s.size
    · rw [if_pos (by omega)]
      by_cases h2 : s.size ≤ 24
      · have : decide ((s.size : Int) ≤ 24) = true := by simp; omega
        rw [this]; simp [h, h2]
      · have : decide ((s.size : Int) ≤ 24) = false := by simp; omega
        rw [this]; simp [h2]
    · rw [if_neg (by omega)]
      simp [h]
  unfold tidemillref02_Name.f nameB
  by_cases h0 : s.size = 0
  · have h1 : (0 : Int) = (s.size : Int) := by omega
    rw [h1, hend]
    simp [h0]
  · have step1 : tidemillref02_Name.l0 (k + 1) s 0 = if low (bt s 0) = true then tidemillref02_Name.l0 k s 1 else some false := by
      simp only [tidemillref02_Name.l0, if_true]
      rw [if_pos (by omega), if_pos (by omega), show wrap64 (0 + 1) = 1 from wrap_in (by omega) (by omega)]
      unfold low
      by_cases h : bt s 0 ≥ 97
      · rw [if_pos h]
        by_cases h2 : bt s 0 ≤ 122
        · rw [if_pos h2, if_pos (by simp; omega)]
        · rw [if_neg h2, if_neg (by simp; omega)]
      · rw [if_neg h, if_neg (by simp; omega)]
    rw [step1]
    have hall : s.data.toList.all (okb nmOk) = (nmOk (bt s 0) && (tl s 1).all (okb nmOk)) := by
      rw [← tl_zero]
      exact tl_all s nmOk 0 (by omega) (by omega)
    by_cases hlow : low (bt s 0) = true
    · have hnm : nmOk (bt s 0) = true := by simp only [low, decide_eq_true_eq] at hlow; simp [nmOk, hlow]
      rw [if_pos hlow, hlow, hall, hnm]
      have hrest : ∀ (d k : Nat) (i : Int), 1 ≤ i → i ≤ (s.size : Int) → (s.size : Int) - i = d → d < k → tidemillref02_Name.l0 k s i = some ((tl s i).all (okb nmOk) && (decide (1 ≤ s.size) && decide (s.size ≤ 24))) := by
        intro d
        induction d with
        | zero =>
          intro k i h0 h1 hd hk
          obtain ⟨k, rfl⟩ : ∃ m, k = m + 1 := ⟨k - 1, by omega⟩
          obtain rfl : i = s.size := by omega
          rw [hend, tl_end _ _ (by omega)]
          simp
        | succ d ih =>
          intro k i h0 h1 hd hk
          obtain ⟨k, rfl⟩ : ∃ m, k = m + 1 := ⟨k - 1, by omega⟩
          rw [tl_all s nmOk i (by omega) (by omega)]
          simp only [tidemillref02_Name.l0]
          rw [if_pos (show i < (s.size : Int) by omega), if_pos (show (0 : Int) ≤ i by omega), wrap_succ (n := s.size) (by omega) (by omega) (by omega), if_neg (show ¬ i = 0 by omega), ih k (i + 1) (by omega) (by omega) (by omega) (by omega)]
          generalize (tl s (i + 1)).all (okb nmOk) = R
          generalize (decide (1 ≤ s.size) && decide (s.size ≤ 24)) = Q
          generalize bt s i = c
          have e : ∀ X : Option Bool, (if nmOk c = true then X else some false) = if c ≥ 97 then (if c ≤ 122 then X else (if c < 48 then (if c = 95 then X else (if c = 46 then X else some false)) else (if c > 57 then (if c = 95 then X else (if c = 46 then X else some false)) else X))) else (if c < 48 then (if c = 95 then X else (if c = 46 then X else some false)) else (if c > 57 then (if c = 95 then X else (if c = 46 then X else some false)) else X)) := by
            intro X
            by_cases h : nmOk c = true
            · rw [if_pos h]
              simp only [nmOk, Bool.or_eq_true, decide_eq_true_eq] at h
              repeat' split
              all_goals first | rfl | (exfalso; omega)
            · rw [if_neg h]
              simp only [nmOk, Bool.or_eq_true, decide_eq_true_eq] at h
              repeat' split
              all_goals first | rfl | (exfalso; omega)
          rw [← e]
          by_cases h : nmOk c = true <;> simp [h]
      rw [hrest (s.size - 1) k 1 (by omega) (by omega) (by omega) (by omega)]
      simp [Bool.and_comm, Bool.and_assoc]
    · rw [if_neg hlow]
      simp [hlow]

theorem value_fin (s : ByteArray) : (if (s.size : Int) ≥ 1 then (some (decide ((s.size : Int) ≤ 24))) else (some false)) = some (decide (1 ≤ s.size) && decide (s.size ≤ 24)) := by
  by_cases h : 1 ≤ s.size
  · rw [if_pos (by omega)]
    by_cases h2 : s.size ≤ 24
    · have : decide ((s.size : Int) ≤ 24) = true := by simp; omega
      rw [this]; simp [h, h2]
    · have : decide ((s.size : Int) ≤ 24) = false := by simp; omega
      rw [this]; simp [h2]
  · rw [if_neg (by omega)]
    simp [h]

theorem vl_tree {α : Type} (c : Int) (X Y : α) : (if c < 33 then Y else (if c > 126 then Y else (if c = 44 then Y else (if c = 58 then Y else (if c = 59 then Y else (if c = 61 then Y else (if c = 124 then Y else (if c = 35 then Y else (if c = 34 then Y else (if c = 123 then Y else (if c = 125 then Y else X))))))))))) = if vlOk c = true then X else Y := by
  by_cases a : c < 33
  · rw [if_pos a, if_neg (fun h => by have := (vlOk_iff c).1 h; omega)]
  rw [if_neg a]
  by_cases b : c > 126
  · rw [if_pos b, if_neg (fun h => by have := (vlOk_iff c).1 h; omega)]
  rw [if_neg b]
  by_cases h0 : c = 44
  · rw [if_pos h0, if_neg (fun h => ((vlOk_iff c).1 h).2.2.1 h0)]
  rw [if_neg h0]
  by_cases h1 : c = 58
  · rw [if_pos h1, if_neg (fun h => ((vlOk_iff c).1 h).2.2.2.1 h1)]
  rw [if_neg h1]
  by_cases h2 : c = 59
  · rw [if_pos h2, if_neg (fun h => ((vlOk_iff c).1 h).2.2.2.2.1 h2)]
  rw [if_neg h2]
  by_cases h3 : c = 61
  · rw [if_pos h3, if_neg (fun h => ((vlOk_iff c).1 h).2.2.2.2.2.1 h3)]
  rw [if_neg h3]
  by_cases h4 : c = 124
  · rw [if_pos h4, if_neg (fun h => ((vlOk_iff c).1 h).2.2.2.2.2.2.1 h4)]
  rw [if_neg h4]
  by_cases h5 : c = 35
  · rw [if_pos h5, if_neg (fun h => ((vlOk_iff c).1 h).2.2.2.2.2.2.2.1 h5)]
  rw [if_neg h5]
  by_cases h6 : c = 34
  · rw [if_pos h6, if_neg (fun h => ((vlOk_iff c).1 h).2.2.2.2.2.2.2.2.1 h6)]
  rw [if_neg h6]
  by_cases h7 : c = 123
  · rw [if_pos h7, if_neg (fun h => ((vlOk_iff c).1 h).2.2.2.2.2.2.2.2.2.1 h7)]
  rw [if_neg h7]
  by_cases h8 : c = 125
  · rw [if_pos h8, if_neg (fun h => ((vlOk_iff c).1 h).2.2.2.2.2.2.2.2.2.2 h8)]
  rw [if_neg h8]
  rw [if_pos ((vlOk_iff c).2 ⟨by omega, by omega, h0, h1, h2, h3, h4, h5, h6, h7, h8⟩)]

theorem refValue_eq (s : ByteArray) (hs : s.size ≤ 140737488355328) (k : Nat) (hk : s.size < k) : tidemillref02_Value.f k s = some (valueB s) := by
  unfold tidemillref02_Value.f valueB
  rw [Bool.and_assoc]
  refine all_loop0 (fun k i => tidemillref02_Value.l0 k s i) s vlOk _ (fun k i h0 h1 => ?_) (fun k => ?_) k hk
  · simp only [tidemillref02_Value.l0]
    rw [if_pos h1, if_pos h0, wrap_succ h0 h1 (by omega)]
    exact vl_tree _ _ _
  · simp only [tidemillref02_Value.l0]
    rw [if_neg (by omega), value_fin]

theorem odd_mem (b : UInt8) : (0 ≤ Lib.indexByte [44, 58, 59, 61, 124, 35, 34, 123, 125] b) ↔ ((b.toNat : Int) = 44 ∨ (b.toNat : Int) = 58 ∨ (b.toNat : Int) = 59 ∨ (b.toNat : Int) = 61 ∨ (b.toNat : Int) = 124 ∨ (b.toNat : Int) = 35 ∨ (b.toNat : Int) = 34 ∨ (b.toNat : Int) = 123 ∨ (b.toNat : Int) = 125) := by
  rw [ixb_mem]
  simp only [List.mem_cons, List.not_mem_nil, or_false]
  have e : ∀ n : Nat, n < 256 → ((b = UInt8.ofNat n) ↔ (b.toNat : Int) = n) := fun n h => byte_eq b n h
  have h1 : b = 44 ↔ (b.toNat : Int) = 44 := e 44 (by omega)
  have h2 : b = 58 ↔ (b.toNat : Int) = 58 := e 58 (by omega)
  have h3 : b = 59 ↔ (b.toNat : Int) = 59 := e 59 (by omega)
  have h4 : b = 61 ↔ (b.toNat : Int) = 61 := e 61 (by omega)
  have h5 : b = 124 ↔ (b.toNat : Int) = 124 := e 124 (by omega)
  have h6 : b = 35 ↔ (b.toNat : Int) = 35 := e 35 (by omega)
  have h7 : b = 34 ↔ (b.toNat : Int) = 34 := e 34 (by omega)
  have h8 : b = 123 ↔ (b.toNat : Int) = 123 := e 123 (by omega)
  have h9 : b = 125 ↔ (b.toNat : Int) = 125 := e 125 (by omega)
  rw [h1, h2, h3, h4, h5, h6, h7, h8, h9]

theorem tagValue_eq (s : ByteArray) (hs : s.size ≤ 140737488355328) (k : Nat) (hk : s.size < k) : tag_Value.f k s = some (valueB s) := by
  unfold tag_Value.f valueB
  rw [Bool.and_assoc]
  refine all_loop0 (fun k i => tag_Value.l0 k s (s.size : Int) i) s vlOk _ (fun k i h0 h1 => ?_) (fun k => ?_) k hk
  · simp only [tag_Value.l0]
    rw [if_pos h1, if_pos h0, if_pos h1, wrap_succ h0 h1 (by omega)]
    obtain ⟨b, hb⟩ := bt_byte s i h0 h1
    rw [hb]
    simp only [strings_IndexByte.f, Option.bind_some]
    have e : ((b.toNat : Int)).toNat.toUInt8 = b := by simp
    rw [e]
    have hm := odd_mem b
    change (if _ then _ else if _ then _ else if 0 ≤ Lib.indexByte [44, 58, 59, 61, 124, 35, 34, 123, 125] b then _ else _) = _
    rw [← vl_tree]
    generalize Lib.indexByte [44, 58, 59, 61, 124, 35, 34, 123, 125] b = q at hm ⊢
    generalize tag_Value.l0 k s (s.size : Int) (i + 1) = X
    generalize (b.toNat : Int) = c at hm ⊢
    by_cases h1 : c < 33
    · rw [if_pos h1, if_pos h1]
    rw [if_neg h1, if_neg h1]
    by_cases h2 : c > 126
    · rw [if_pos h2, if_pos h2]
    rw [if_neg h2, if_neg h2]
    by_cases hq : 0 ≤ q
    · rw [if_pos hq]
      rcases hm.1 hq with h | h | h | h | h | h | h | h | h <;> subst h <;> rfl
    · rw [if_neg hq]
      have hn := fun z => hq (hm.2 z)
      rw [if_neg (fun h => hn (.inl h)), if_neg (fun h => hn (.inr (.inl h))), if_neg (fun h => hn (.inr (.inr (.inl h)))), if_neg (fun h => hn (.inr (.inr (.inr (.inl h))))), if_neg (fun h => hn (.inr (.inr (.inr (.inr (.inl h)))))), if_neg (fun h => hn (.inr (.inr (.inr (.inr (.inr (.inl h))))))), if_neg (fun h => hn (.inr (.inr (.inr (.inr (.inr (.inr (.inl h)))))))), if_neg (fun h => hn (.inr (.inr (.inr (.inr (.inr (.inr (.inr (.inl h))))))))), if_neg (fun h => hn (.inr (.inr (.inr (.inr (.inr (.inr (.inr (.inr h)))))))))]
  · simp only [tag_Value.l0]
    rw [if_neg (by omega), value_fin]

theorem tagWord_eq (s : ByteArray) (hs : s.size ≤ 140737488355328) (k : Nat) (hk : s.size + 1 < k) : tag_word.f k s = some (wordB s) := by
  unfold tag_word.f wordB
  rw [tagName_eq s hs k hk]
  simp only [Option.bind_some, strings_Contains.f]
  have : decide (0 ≤ Lib.indexByte s.data.toList 46) = dotB s := by unfold dotB; rw [decide_eq_decide]; exact ixb_mem _ _
  rw [this]
  by_cases h : nameB s = true
  · rw [if_pos h, h]; simp
  · rw [if_neg h]; simp [h]
end Go.Proofs.Ytiddemgeehcjpaa.H
