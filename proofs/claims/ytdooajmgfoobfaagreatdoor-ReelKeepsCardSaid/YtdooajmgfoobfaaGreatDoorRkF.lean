/- A rack's entries as a list: put in, taken out, looked up. -/
import Derived.Test.YtdooajmgfoobfaaGreatDoorRkE
namespace Go.Proofs.YtdooajmgfoobfaaGreatDoor.H
open Go.RowKit Go.Proofs.YtdooajmgfoobfaaGreatDoor.PA Go.Proofs.YtdooajmgfoobfaaGreatDoorW.PrintWords Go.Proofs.YtdooajmgfoobfaaGreatDoorW.PrintLast Go.Proofs.YtdooajmgfoobfaaGreatDoorW.PrintMore
set_option linter.unusedVariables false
set_option linter.unusedSimpArgs false
section
variable {α β : Type}
/-- A value put in its place. -/
def ins (k : ByteArray) (v : α) : List (ByteArray × α) → List (ByteArray × α)
  | [] => [(k, v)]
  | a :: r => if cmpS k a.1 < 0 then (k, v) :: a :: r else if k = a.1 then (k, v) :: r else a :: ins k v r
def del (k : ByteArray) : List (ByteArray × α) → List (ByteArray × α)
  | [] => []
  | a :: r => if k = a.1 then r else a :: del k r
def lk (k : ByteArray) : List (ByteArray × α) → Option α
  | [] => none
  | a :: r => if k = a.1 then some a.2 else lk k r
abbrev Rise (L : List (ByteArray × α)) : Prop := Tr.Rise cmpS L
theorem cmpS_self (k : ByteArray) : cmpS k k = 0 := (cmpS_ok.eq k k).2 rfl
theorem cmpS_ne {a b : ByteArray} (h : cmpS a b < 0) : a ≠ b := Tr.cmp_ne cmpS_ok h
theorem cmpS_asymm {a b : ByteArray} (h : cmpS a b < 0) : ¬ cmpS b a < 0 := fun h2 => by have := (cmpS_ok.anti a b).1 h; omega
theorem ins_append {k : ByteArray} {v : α} : ∀ (L1 : List (ByteArray × α)) (M : List (ByteArray × α)), (∀ a ∈ L1, cmpS a.1 k < 0) → ins k v (L1 ++ M) = L1 ++ ins k v M
  | [], _, _ => rfl
  | a :: L1, M, h => by
    have ha := h a (by simp)
    rw [List.cons_append, ins, if_neg (cmpS_asymm ha), if_neg (cmpS_ne ha).symm, ins_append L1 M (fun x hx => h x (by simp [hx]))]
    rfl
theorem ins_front {k : ByteArray} {v : α} : ∀ (M : List (ByteArray × α)), (∀ a ∈ M, cmpS k a.1 < 0) → ins k v M = (k, v) :: M
  | [], _ => rfl
  | a :: M, h => by rw [ins, if_pos (h a (by simp))]
theorem del_append {k : ByteArray} : ∀ (L1 : List (ByteArray × α)) (M : List (ByteArray × α)), (∀ a ∈ L1, a.1 ≠ k) → del k (L1 ++ M) = L1 ++ del k M
  | [], _, _ => rfl
  | a :: L1, M, h => by rw [List.cons_append, del, if_neg (h a (by simp)).symm, del_append L1 M (fun x hx => h x (by simp [hx]))]; rfl
theorem del_none {k : ByteArray} : ∀ (L : List (ByteArray × α)), (∀ a ∈ L, a.1 ≠ k) → del k L = L
  | [], _ => rfl
  | a :: L, h => by rw [del, if_neg (h a (by simp)).symm, del_none L (fun x hx => h x (by simp [hx]))]
theorem lk_mem {k : ByteArray} {v : α} : ∀ (L : List (ByteArray × α)), Rise L → (lk k L = some v ↔ (k, v) ∈ L)
  | [], _ => by simp [lk]
  | a :: L, h => by
    have h2 : Rise L := (List.pairwise_cons.1 h).2
    have h1 := (List.pairwise_cons.1 h).1
    unfold lk
    by_cases e : k = a.1
    · rw [if_pos e]
      constructor
      · intro hv; cases hv; rw [e]; simp
      · intro hm
        rcases List.mem_cons.1 hm with hm | hm
        · rw [← hm]
        · exact absurd e.symm (cmpS_ne (h1 _ hm))
    · rw [if_neg e, lk_mem L h2]
      constructor
      · intro hm; simp [hm]
      · intro hm
        rcases List.mem_cons.1 hm with hm | hm
        · rw [← hm] at e; exact absurd rfl e
        · exact hm
theorem lk_none {k : ByteArray} : ∀ (L : List (ByteArray × α)), (∀ a ∈ L, a.1 ≠ k) → lk k L = none
  | [], _ => rfl
  | a :: L, h => by rw [lk, if_neg (h a (by simp)).symm, lk_none L (fun x hx => h x (by simp [hx]))]
theorem lk_old {k : ByteArray} {u : α} {L2 : List (ByteArray × α)} : ∀ (L1 : List (ByteArray × α)), (∀ a ∈ L1, a.1 ≠ k) → lk k (L1 ++ (k, u) :: L2) = some u
  | [], _ => by simp [lk]
  | a :: L1, hh => by rw [List.cons_append, lk, if_neg (hh a (by simp)).symm]; exact lk_old L1 (fun x hx => hh x (by simp [hx]))
theorem put_ins {k : ByteArray} {v : α} {L L' : List (ByteArray × α)} {b : Bool} (h : Tr.PutL k v L b L') (hr' : Rise L') : L' = ins k v L ∧ b = (lk k L).isSome := by
  cases h with
  | new L1 L2 hh =>
    obtain ⟨_, _, h3, h4, _⟩ := Tr.rise_split.1 hr'
    exact ⟨by rw [ins_append L1 L2 h3, ins_front L2 h4], by rw [lk_none _ hh]; rfl⟩
  | old L1 L2 u hh =>
    obtain ⟨_, _, h3, h4, _⟩ := Tr.rise_split.1 hr'
    refine ⟨by rw [ins_append L1 _ h3, ins, if_neg (by rw [cmpS_self]; omega), if_pos rfl], ?_⟩
    rw [lk_old L1 (fun a ha => hh a (by simp [ha]))]; rfl
theorem drop_del {k : ByteArray} {L L' : List (ByteArray × α)} {b : Bool} (h : Tr.DropL k L b L') : L' = del k L ∧ b = (lk k L).isSome := by
  cases h with
  | none _ hh => exact ⟨(del_none _ hh).symm, by rw [lk_none _ hh]; rfl⟩
  | some L1 L2 u hh =>
    refine ⟨by rw [del_append L1 _ (fun a ha => hh a (by simp [ha])), del, if_pos rfl], ?_⟩
    rw [lk_old L1 (fun a ha => hh a (by simp [ha]))]; rfl
theorem put_toL {nb : Nat} {k : ByteArray} {v : α} {t : Tr α} (h : Rise t.toL) : (Tr.put cmpS nb k v t).toL = ins k v t.toL ∧ Rise (ins k v t.toL) ∧ Tr.had cmpS k t = (lk k t.toL).isSome := by
  obtain ⟨h1, h2, _⟩ := Tr.put_spec cmpS_ok nb k v t h
  obtain ⟨h3, h4⟩ := put_ins h1 h2
  exact ⟨h3, h3 ▸ h2, h4⟩
theorem drop_toL {k : ByteArray} {t : Tr α} (h : Rise t.toL) : (Tr.drop cmpS k t).toL = del k t.toL ∧ Rise (del k t.toL) ∧ Tr.had cmpS k t = (lk k t.toL).isSome := by
  obtain ⟨h1, h2, _⟩ := Tr.drop_spec cmpS_ok k t h
  obtain ⟨h3, h4⟩ := drop_del h1
  exact ⟨h3, h3 ▸ h2, h4⟩
theorem get_toL {k : ByteArray} {t : Tr α} (h : Rise t.toL) : Tr.get cmpS k t = lk k t.toL := by
  apply Option.ext
  intro v
  rw [Tr.get_spec cmpS_ok k t h v, lk_mem _ h]
/-! what ins, del leave -/
theorem lk_ins {k k' : ByteArray} {v : α} : ∀ {L : List (ByteArray × α)}, Rise L → lk k' (ins k v L) = if k' = k then some v else lk k' L
  | [], _ => by simp [ins, lk]
  | a :: L, h => by
    have h2 : Rise L := (List.pairwise_cons.1 h).2
    unfold ins
    split
    · rw [lk]
    · split
      · next e => rw [lk, lk]; subst e; split <;> rfl
      · next e =>
        rw [lk, lk_ins h2, lk]
        by_cases e2 : k' = a.1
        · rw [if_pos e2, if_neg (fun e3 => e (e3.symm.trans e2)), if_pos e2]
        · rw [if_neg e2, if_neg e2]
theorem lk_del {k k' : ByteArray} : ∀ {L : List (ByteArray × α)}, Rise L → lk k' (del k L) = if k' = k then none else lk k' L
  | [], _ => by simp [del, lk]
  | a :: L, h => by
    have h2 : Rise L := (List.pairwise_cons.1 h).2
    have h1 := (List.pairwise_cons.1 h).1
    unfold del
    split
    · next e =>
      rw [lk]
      by_cases e2 : k' = k
      · rw [if_pos e2, e2, e]
        exact lk_none L (fun x hx => (cmpS_ne (h1 x hx)).symm)
      · rw [if_neg e2, if_neg (fun e3 => e2 (e3.trans e.symm))]
    · next e =>
      rw [lk, lk_del h2, lk]
      by_cases e2 : k' = a.1
      · rw [if_pos e2, if_neg (fun e3 => e (e3.symm.trans e2)), if_pos e2]
      · rw [if_neg e2, if_neg e2]
theorem ins_len {k : ByteArray} {v : α} : ∀ {L : List (ByteArray × α)}, Rise L → (ins k v L).length = L.length + (if (lk k L).isSome then 0 else 1)
  | [], _ => by simp [ins, lk]
  | a :: L, h => by
    have h2 : Rise L := (List.pairwise_cons.1 h).2
    have h1 := (List.pairwise_cons.1 h).1
    unfold ins
    split
    · next e =>
      have : lk k (a :: L) = none := lk_none _ (fun x hx => by
        rcases List.mem_cons.1 hx with rfl | hx
        · exact (cmpS_ne e).symm
        · exact (cmpS_ne (cmpS_ok.trans _ _ _ e (h1 x hx))).symm)
      rw [this]; simp
    · split
      · next e => rw [lk, if_pos e]; simp
      · next e => rw [lk, if_neg e, List.length_cons, ins_len h2, List.length_cons]; omega
theorem del_len {k : ByteArray} : ∀ {L : List (ByteArray × α)}, Rise L → (del k L).length + (if (lk k L).isSome then 1 else 0) = L.length
  | [], _ => by simp [del, lk]
  | a :: L, h => by
    have h2 : Rise L := (List.pairwise_cons.1 h).2
    unfold del
    split
    · next e => rw [lk, if_pos e]; simp
    · next e => rw [lk, if_neg e, List.length_cons, List.length_cons, ← del_len (k := k) h2]; omega
theorem del_mem {k : ByteArray} : ∀ {L : List (ByteArray × α)} {a : ByteArray × α}, a ∈ del k L → a ∈ L
  | [], a, h => h
  | x :: L, a, h => by
    unfold del at h
    split at h
    · exact List.mem_cons_of_mem _ h
    · rcases List.mem_cons.1 h with h | h
      · simp [h]
      · exact List.mem_cons_of_mem _ (del_mem h)
theorem ins_mem {k : ByteArray} {v : α} : ∀ {L : List (ByteArray × α)} {a : ByteArray × α}, a ∈ ins k v L → a = (k, v) ∨ a ∈ L
  | [], a, h => by simpa [ins] using h
  | x :: L, a, h => by
    unfold ins at h
    split at h
    · rcases List.mem_cons.1 h with h | h
      · exact .inl h
      · exact .inr h
    · split at h
      · rcases List.mem_cons.1 h with h | h
        · exact .inl h
        · exact .inr (List.mem_cons_of_mem _ h)
      · rcases List.mem_cons.1 h with h | h
        · exact .inr (by simp [h])
        · rcases ins_mem h with h | h
          · exact .inl h
          · exact .inr (List.mem_cons_of_mem _ h)
/-- Two lists, entry by entry. -/
inductive Both (R : α → β → Prop) : List (ByteArray × α) → List (ByteArray × β) → Prop where
  | nil : Both R [] []
  | cons {k : ByteArray} {x : α} {y : β} {L : List (ByteArray × α)} {M : List (ByteArray × β)} (h : R x y) (t : Both R L M) : Both R ((k, x) :: L) ((k, y) :: M)
variable {R R' : α → β → Prop}
theorem Both.mono {L : List (ByteArray × α)} {M : List (ByteArray × β)} (h : Both R L M) (i : ∀ x y, R x y → R' x y) : Both R' L M := by
  induction h with
  | nil => exact .nil
  | cons h _ ih => exact .cons (i _ _ h) ih
theorem Both.ins {L : List (ByteArray × α)} {M : List (ByteArray × β)} (h : Both R L M) (k : ByteArray) {x : α} {y : β} (hxy : R x y) : Both R (ins k x L) (ins k y M) := by
  induction h with
  | nil => exact .cons hxy .nil
  | cons h1 h2 ih =>
    unfold H.ins
    split
    · exact .cons hxy (.cons h1 h2)
    · split
      · exact .cons hxy h2
      · exact .cons h1 ih
theorem Both.del {L : List (ByteArray × α)} {M : List (ByteArray × β)} (h : Both R L M) (k : ByteArray) : Both R (del k L) (del k M) := by
  induction h with
  | nil => exact .nil
  | cons h1 h2 ih =>
    unfold H.del
    split
    · exact h2
    · exact .cons h1 ih
theorem Both.lk {L : List (ByteArray × α)} {M : List (ByteArray × β)} (h : Both R L M) (k : ByteArray) : (lk k L = none ∧ lk k M = none) ∨ ∃ x y, lk k L = some x ∧ lk k M = some y ∧ R x y := by
  induction h with
  | nil => exact .inl ⟨rfl, rfl⟩
  | cons h1 h2 ih =>
    unfold H.lk
    split
    · exact .inr ⟨_, _, rfl, rfl, h1⟩
    · exact ih
theorem Both.length {L : List (ByteArray × α)} {M : List (ByteArray × β)} (h : Both R L M) : L.length = M.length := by
  induction h with
  | nil => rfl
  | cons _ _ ih => simp [ih]
end
end Go.Proofs.YtdooajmgfoobfaaGreatDoor.H
