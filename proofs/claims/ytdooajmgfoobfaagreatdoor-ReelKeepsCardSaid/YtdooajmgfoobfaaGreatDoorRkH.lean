/- Racks in memory: a node is a block. -/
import Derived.Test.YtdooajmgfoobfaaGreatDoorWWords
import Derived.Test.YtdooajmgfoobfaaGreatDoorPAx
import Derived.BigCall
import Derived.BigGuard
namespace Go.Proofs.YtdooajmgfoobfaaGreatDoor.H
set_option linter.unusedVariables false
set_option linter.unusedSimpArgs false
inductive Tr (α : Type) where
  | nil : Tr α
  | node (b : Nat) (k : ByteArray) (v : α) (l r : Tr α) (h m : Int) : Tr α
namespace Tr
variable {α : Type}
def hi : Tr α → Int
  | nil => 0
  | node _ _ _ _ _ h _ => h
def many : Tr α → Int
  | nil => 0
  | node _ _ _ _ _ _ m => m
def ids : Tr α → List Nat
  | nil => []
  | node b _ _ l r _ _ => l.ids ++ b :: r.ids
def toL : Tr α → List (ByteArray × α)
  | nil => []
  | node _ k v l r _ _ => l.toL ++ (k, v) :: r.toL
/-- The height and the size are what they are. -/
def wf : Tr α → Prop
  | nil => True
  | node _ _ _ l r h m => h = 1 + max l.hi r.hi ∧ m = 1 + l.many + r.many ∧ l.wf ∧ r.wf
def mk (b : Nat) (k : ByteArray) (v : α) (l r : Tr α) : Tr α := node b k v l r (1 + max l.hi r.hi) (1 + l.many + r.many)
def toRight (b : Nat) (k : ByteArray) (v : α) (l r : Tr α) : Tr α :=
  match l with
  | nil => mk b k v l r
  | node tb tk tv tl tr _ _ => mk tb tk tv tl (mk b k v tr r)
def toLeft (b : Nat) (k : ByteArray) (v : α) (l r : Tr α) : Tr α :=
  match r with
  | nil => mk b k v l r
  | node tb tk tv tl tr _ _ => mk tb tk tv (mk b k v l tl) tr
/-- A left side that is too high, made ready. -/
def leanL : Tr α → Tr α
  | nil => nil
  | node b k v l r h m => if l.hi < r.hi then toLeft b k v l r else node b k v l r h m
def leanR : Tr α → Tr α
  | nil => nil
  | node b k v l r h m => if r.hi < l.hi then toRight b k v l r else node b k v l r h m
def even (b : Nat) (k : ByteArray) (v : α) (l r : Tr α) : Tr α :=
  if l.hi - r.hi > 1 then toRight b k v (leanL l) r
  else if l.hi - r.hi < -1 then toLeft b k v l (leanR r)
  else mk b k v l r
def put (cmp : ByteArray → ByteArray → Int) (nb : Nat) (k : ByteArray) (v : α) : Tr α → Tr α
  | nil => mk nb k v nil nil
  | node b k' v' l r h m =>
    if cmp k k' < 0 then even b k' v' (put cmp nb k v l) r
    else if cmp k k' > 0 then even b k' v' l (put cmp nb k v r)
    else even b k' v l r
def had (cmp : ByteArray → ByteArray → Int) (k : ByteArray) : Tr α → Bool
  | nil => false
  | node _ k' _ l r _ _ => if cmp k k' < 0 then had cmp k l else if cmp k k' > 0 then had cmp k r else true
def get (cmp : ByteArray → ByteArray → Int) (k : ByteArray) : Tr α → Option α
  | nil => none
  | node _ k' v l r _ _ => if cmp k k' = 0 then some v else if cmp k k' < 0 then get cmp k l else get cmp k r
/-- The first entry, taken out of a tree that is some: its block, its key, its value; what is left. -/
def least (b : Nat) (k : ByteArray) (v : α) (l r : Tr α) : (Nat × ByteArray × α) × Tr α :=
  match l with
  | nil => ((b, k, v), r)
  | node b' k' v' l' r' _ _ => ((least b' k' v' l' r').1, even b k v (least b' k' v' l' r').2 r)
def drop (cmp : ByteArray → ByteArray → Int) (k : ByteArray) : Tr α → Tr α
  | nil => nil
  | node b k' v l r h m =>
    if cmp k k' < 0 then even b k' v (drop cmp k l) r
    else if cmp k k' > 0 then even b k' v l (drop cmp k r)
    else match r with
      | nil => l
      | node b2 k2 v2 l2 r2 _ _ => even (least b2 k2 v2 l2 r2).1.1 (least b2 k2 v2 l2 r2).1.2.1 (least b2 k2 v2 l2 r2).1.2.2 l (least b2 k2 v2 l2 r2).2
theorem hi_nonneg : ∀ {t : Tr α}, t.wf → 0 ≤ t.hi
  | nil, _ => by simp [hi]
  | node b k v l r h m, hw => by
    obtain ⟨h1, _, h3, h4⟩ := hw
    have := hi_nonneg h3; have := hi_nonneg h4
    simp only [hi] at *
    omega
theorem hi_le : ∀ {t : Tr α}, t.wf → t.hi ≤ t.toL.length
  | nil, _ => by simp [hi, toL]
  | node b k v l r h m, hw => by
    obtain ⟨h1, _, h3, h4⟩ := hw
    have := hi_le h3; have := hi_le h4
    simp only [hi, toL, List.length_append, List.length_cons] at *
    omega
theorem many_eq : ∀ {t : Tr α}, t.wf → t.many = t.toL.length
  | nil, _ => by simp [many, toL]
  | node b k v l r h m, hw => by
    obtain ⟨_, h2, h3, h4⟩ := hw
    have := many_eq h3; have := many_eq h4
    simp only [many, toL, List.length_append, List.length_cons] at *
    omega
theorem mk_wf {b k} {v : α} {l r : Tr α} (hl : l.wf) (hr : r.wf) : (mk b k v l r).wf := ⟨rfl, rfl, hl, hr⟩
theorem toRight_wf {b k} {v : α} {l r : Tr α} (hl : l.wf) (hr : r.wf) : (toRight b k v l r).wf := by
  cases l with
  | nil => exact mk_wf hl hr
  | node tb tk tv tl tr h m => exact mk_wf hl.2.2.1 (mk_wf hl.2.2.2 hr)
theorem toLeft_wf {b k} {v : α} {l r : Tr α} (hl : l.wf) (hr : r.wf) : (toLeft b k v l r).wf := by
  cases r with
  | nil => exact mk_wf hl hr
  | node tb tk tv tl tr h m => exact mk_wf (mk_wf hl hr.2.2.1) hr.2.2.2
theorem leanL_wf {t : Tr α} (h : t.wf) : t.leanL.wf := by
  cases t with
  | nil => exact h
  | node b k v l r hh m => simp only [leanL]; split; exact toLeft_wf h.2.2.1 h.2.2.2; exact h
theorem leanR_wf {t : Tr α} (h : t.wf) : t.leanR.wf := by
  cases t with
  | nil => exact h
  | node b k v l r hh m => simp only [leanR]; split; exact toRight_wf h.2.2.1 h.2.2.2; exact h
theorem even_wf {b k} {v : α} {l r : Tr α} (hl : l.wf) (hr : r.wf) : (even b k v l r).wf := by
  unfold even
  split
  · exact toRight_wf (leanL_wf hl) hr
  · split
    · exact toLeft_wf hl (leanR_wf hr)
    · exact mk_wf hl hr
theorem toRight_toL {b k} {v : α} {l r : Tr α} : (toRight b k v l r).toL = l.toL ++ (k, v) :: r.toL := by
  cases l <;> simp [toRight, mk, toL]
theorem toLeft_toL {b k} {v : α} {l r : Tr α} : (toLeft b k v l r).toL = l.toL ++ (k, v) :: r.toL := by
  cases r <;> simp [toLeft, mk, toL]
theorem leanL_toL {t : Tr α} : t.leanL.toL = t.toL := by
  cases t with
  | nil => rfl
  | node b k v l r h m => simp only [leanL]; split; rw [toLeft_toL]; rfl; rfl
theorem leanR_toL {t : Tr α} : t.leanR.toL = t.toL := by
  cases t with
  | nil => rfl
  | node b k v l r h m => simp only [leanR]; split; rw [toRight_toL]; rfl; rfl
theorem even_toL {b k} {v : α} {l r : Tr α} : (even b k v l r).toL = l.toL ++ (k, v) :: r.toL := by
  unfold even
  split
  · rw [toRight_toL, leanL_toL]
  · split
    · rw [toLeft_toL, leanR_toL]
    · rfl
theorem toRight_ids {b k} {v : α} {l r : Tr α} : (toRight b k v l r).ids = l.ids ++ b :: r.ids := by
  cases l <;> simp [toRight, mk, ids]
theorem toLeft_ids {b k} {v : α} {l r : Tr α} : (toLeft b k v l r).ids = l.ids ++ b :: r.ids := by
  cases r <;> simp [toLeft, mk, ids]
theorem leanL_ids {t : Tr α} : t.leanL.ids = t.ids := by
  cases t with
  | nil => rfl
  | node b k v l r h m => simp only [leanL]; split; rw [toLeft_ids]; rfl; rfl
theorem leanR_ids {t : Tr α} : t.leanR.ids = t.ids := by
  cases t with
  | nil => rfl
  | node b k v l r h m => simp only [leanR]; split; rw [toRight_ids]; rfl; rfl
theorem even_ids {b k} {v : α} {l r : Tr α} : (even b k v l r).ids = l.ids ++ b :: r.ids := by
  unfold even
  split
  · rw [toRight_ids, leanL_ids]
  · split
    · rw [toLeft_ids, leanR_ids]
    · rfl
theorem least_toL : ∀ (l : Tr α) (b k) (v : α) (r : Tr α), (least b k v l r).1.2 :: (least b k v l r).2.toL = l.toL ++ (k, v) :: r.toL
  | nil, b, k, v, r => rfl
  | node b' k' v' l' r' h m, b, k, v, r => by
    have ih := least_toL l' b' k' v' r'
    simp only [least, even_toL, toL]
    rw [← List.cons_append, ih]
theorem least_ids : ∀ (l : Tr α) (b k) (v : α) (r : Tr α), (least b k v l r).1.1 :: (least b k v l r).2.ids = l.ids ++ b :: r.ids
  | nil, b, k, v, r => rfl
  | node b' k' v' l' r' h m, b, k, v, r => by
    have ih := least_ids l' b' k' v' r'
    simp only [least, even_ids, ids]
    rw [← List.cons_append, ih]
theorem least_wf : ∀ (l : Tr α) (b k) (v : α) (r : Tr α), l.wf → r.wf → (least b k v l r).2.wf
  | nil, b, k, v, r, _, hr => hr
  | node b' k' v' l' r' h m, b, k, v, r, hl, hr => even_wf (least_wf l' b' k' v' r' hl.2.2.1 hl.2.2.2) hr
theorem put_wf {cmp nb k} {v : α} : ∀ {t : Tr α}, t.wf → (put cmp nb k v t).wf
  | nil, _ => mk_wf trivial trivial
  | node b k' v' l r h m, hw => by
    unfold put
    split
    · exact even_wf (put_wf hw.2.2.1) hw.2.2.2
    · split
      · exact even_wf hw.2.2.1 (put_wf hw.2.2.2)
      · exact even_wf hw.2.2.1 hw.2.2.2
theorem drop_wf {cmp k} : ∀ {t : Tr α}, t.wf → (drop cmp k t).wf
  | nil, h => h
  | node b k' v' l r h m, hw => by
    unfold drop
    split
    · exact even_wf (drop_wf hw.2.2.1) hw.2.2.2
    · split
      · exact even_wf hw.2.2.1 (drop_wf hw.2.2.2)
      · cases r with
        | nil => exact hw.2.2.1
        | node b2 k2 v2 l2 r2 h2 m2 => exact even_wf hw.2.2.1 (least_wf l2 b2 k2 v2 r2 hw.2.2.2.2.2.1 hw.2.2.2.2.2.2)
/-- An order of keys. -/
structure Cmp (cmp : ByteArray → ByteArray → Int) : Prop where
  eq : ∀ a b, cmp a b = 0 ↔ a = b
  anti : ∀ a b, cmp a b < 0 ↔ cmp b a > 0
  trans : ∀ a b c, cmp a b < 0 → cmp b c < 0 → cmp a c < 0
/-- The keys rise. -/
def Rise (cmp : ByteArray → ByteArray → Int) (L : List (ByteArray × α)) : Prop := L.Pairwise (fun a b => cmp a.1 b.1 < 0)
theorem rise_split {cmp : ByteArray → ByteArray → Int} {L1 L2 : List (ByteArray × α)} {e : ByteArray × α} : Rise cmp (L1 ++ e :: L2) ↔ Rise cmp L1 ∧ Rise cmp L2 ∧ (∀ a ∈ L1, cmp a.1 e.1 < 0) ∧ (∀ a ∈ L2, cmp e.1 a.1 < 0) ∧ (∀ a ∈ L1, ∀ b ∈ L2, cmp a.1 b.1 < 0) := by
  unfold Rise
  rw [List.pairwise_append, List.pairwise_cons]
  constructor
  · rintro ⟨h1, ⟨h2, h3⟩, h4⟩
    exact ⟨h1, h3, fun a ha => h4 a ha e (by simp), h2, fun a ha b hb => h4 a ha b (by simp [hb])⟩
  · rintro ⟨h1, h2, h3, h4, h5⟩
    refine ⟨h1, ⟨h4, h2⟩, fun a ha b hb => ?_⟩
    rcases List.mem_cons.1 hb with rfl | hb
    · exact h3 a ha
    · exact h5 a ha b hb
/-- An entry is put into a list: in the place of the one of its key, or between others. -/
inductive PutL (k : ByteArray) (v : α) : List (ByteArray × α) → Bool → List (ByteArray × α) → Prop where
  | new (L1 L2 : List (ByteArray × α)) (h : ∀ a ∈ L1 ++ L2, a.1 ≠ k) : PutL k v (L1 ++ L2) false (L1 ++ (k, v) :: L2)
  | old (L1 L2 : List (ByteArray × α)) (u : α) (h : ∀ a ∈ L1 ++ L2, a.1 ≠ k) : PutL k v (L1 ++ (k, u) :: L2) true (L1 ++ (k, v) :: L2)
inductive DropL (k : ByteArray) : List (ByteArray × α) → Bool → List (ByteArray × α) → Prop where
  | none (L : List (ByteArray × α)) (h : ∀ a ∈ L, a.1 ≠ k) : DropL k L false L
  | some (L1 L2 : List (ByteArray × α)) (u : α) (h : ∀ a ∈ L1 ++ L2, a.1 ≠ k) : DropL k (L1 ++ (k, u) :: L2) true (L1 ++ L2)
theorem cmp_ne {cmp : ByteArray → ByteArray → Int} (hc : Cmp cmp) {a b : ByteArray} (h : cmp a b < 0) : a ≠ b := fun e => by have := (hc.eq a b).2 e; omega
theorem put_spec {cmp : ByteArray → ByteArray → Int} (hc : Cmp cmp) (nb : Nat) (k : ByteArray) (v : α) : ∀ (t : Tr α), Rise cmp t.toL → PutL k v t.toL (had cmp k t) (put cmp nb k v t).toL ∧ Rise cmp (put cmp nb k v t).toL ∧ (∀ a ∈ (put cmp nb k v t).toL, a.1 = k ∨ a.1 ∈ t.toL.map (·.1))
  | nil, _ => by
    refine ⟨?_, ?_, ?_⟩
    · exact PutL.new [] [] (by simp)
    · simp [Rise, put, mk, toL]
    · simp [put, mk, toL]
  | node b k' v' l r h m, hr => by
    unfold toL at hr
    obtain ⟨h1, h2, h3, h4, h5⟩ := rise_split.1 hr
    by_cases hlt : cmp k k' < 0
    · obtain ⟨ih1, ih2, ih3⟩ := put_spec hc nb k v l h1
      have hk' : k' ≠ k := (cmp_ne hc hlt).symm
      have hR : ∀ a ∈ r.toL, a.1 ≠ k := fun a ha => (cmp_ne hc (hc.trans _ _ _ hlt (h4 a ha))).symm
      have hL' : ∀ a ∈ (put cmp nb k v l).toL, cmp a.1 k' < 0 := by
        intro a ha
        rcases ih3 a ha with e | e
        · rw [e]; exact hlt
        · obtain ⟨y, hy, e2⟩ := List.mem_map.1 e
          rw [← e2]; exact h3 y hy
      have e1 : (put cmp nb k v (node b k' v' l r h m)).toL = (put cmp nb k v l).toL ++ (k', v') :: r.toL := by rw [put, if_pos hlt, even_toL]
      have e2 : had cmp k (node b k' v' l r h m) = had cmp k l := by rw [had, if_pos hlt]
      have e3 : (node b k' v' l r h m).toL = l.toL ++ (k', v') :: r.toL := rfl
      rw [e1, e2, e3]
      refine ⟨?_, ?_, ?_⟩
      · generalize l.toL = X at *
        generalize (put cmp nb k v l).toL = Y at *
        generalize had cmp k l = hb at *
        cases ih1 with
        | new L1 L2 hh =>
          rw [List.append_assoc, List.append_assoc, List.cons_append]
          refine PutL.new L1 (L2 ++ (k', v') :: r.toL) ?_
          intro a ha
          rw [← List.append_assoc] at ha
          rcases List.mem_append.1 ha with ha | ha
          · exact hh a ha
          · rcases List.mem_cons.1 ha with rfl | ha
            · exact hk'
            · exact hR a ha
        | old L1 L2 u hh =>
          rw [List.append_assoc, List.append_assoc, List.cons_append, List.cons_append]
          refine PutL.old L1 (L2 ++ (k', v') :: r.toL) u ?_
          intro a ha
          rw [← List.append_assoc] at ha
          rcases List.mem_append.1 ha with ha | ha
          · exact hh a ha
          · rcases List.mem_cons.1 ha with rfl | ha
            · exact hk'
            · exact hR a ha
      · refine rise_split.2 ⟨ih2, h2, hL', h4, fun a ha y hy => hc.trans _ _ _ (hL' a ha) (h4 y hy)⟩
      · intro a ha
        rcases List.mem_append.1 ha with ha | ha
        · rcases ih3 a ha with e | e
          · exact .inl e
          · exact .inr (by rw [List.map_append]; exact List.mem_append_left _ e)
        · exact .inr (by rw [List.map_append]; exact List.mem_append_right _ (List.mem_map.2 ⟨a, ha, rfl⟩))
    · by_cases hgt : cmp k k' > 0
      · obtain ⟨ih1, ih2, ih3⟩ := put_spec hc nb k v r h2
        have hkk : cmp k' k < 0 := (hc.anti k' k).2 hgt
        have hk' : k' ≠ k := cmp_ne hc hkk
        have hL : ∀ a ∈ l.toL, a.1 ≠ k := fun a ha => cmp_ne hc (hc.trans _ _ _ (h3 a ha) hkk)
        have hR' : ∀ a ∈ (put cmp nb k v r).toL, cmp k' a.1 < 0 := by
          intro a ha
          rcases ih3 a ha with e | e
          · rw [e]; exact hkk
          · obtain ⟨y, hy, e2⟩ := List.mem_map.1 e
            rw [← e2]; exact h4 y hy
        have e1 : (put cmp nb k v (node b k' v' l r h m)).toL = l.toL ++ (k', v') :: (put cmp nb k v r).toL := by rw [put, if_neg hlt, if_pos hgt, even_toL]
        have e2 : had cmp k (node b k' v' l r h m) = had cmp k r := by rw [had, if_neg hlt, if_pos hgt]
        have e3 : (node b k' v' l r h m).toL = l.toL ++ (k', v') :: r.toL := rfl
        rw [e1, e2, e3]
        refine ⟨?_, ?_, ?_⟩
        · generalize r.toL = X at *
          generalize (put cmp nb k v r).toL = Y at *
          generalize had cmp k r = hb at *
          cases ih1 with
          | new L1 L2 hh =>
            have := PutL.new (k := k) (v := v) (l.toL ++ (k', v') :: L1) L2 (by
              intro a ha
              rw [List.append_assoc] at ha
              rcases List.mem_append.1 ha with ha | ha
              · exact hL a ha
              · rw [List.cons_append] at ha
                rcases List.mem_cons.1 ha with rfl | ha
                · exact hk'
                · exact hh a ha)
            simpa using this
          | old L1 L2 u hh =>
            have := PutL.old (k := k) (v := v) (l.toL ++ (k', v') :: L1) L2 u (by
              intro a ha
              rw [List.append_assoc] at ha
              rcases List.mem_append.1 ha with ha | ha
              · exact hL a ha
              · rw [List.cons_append] at ha
                rcases List.mem_cons.1 ha with rfl | ha
                · exact hk'
                · exact hh a ha)
            simpa using this
        · exact rise_split.2 ⟨h1, ih2, h3, hR', fun a ha y hy => hc.trans _ _ _ (h3 a ha) (hR' y hy)⟩
        · intro a ha
          rcases List.mem_append.1 ha with ha | ha
          · exact .inr (by rw [List.map_append]; exact List.mem_append_left _ (List.mem_map.2 ⟨a, ha, rfl⟩))
          · rcases List.mem_cons.1 ha with rfl | ha
            · exact .inr (by simp)
            · rcases ih3 a ha with e | e
              · exact .inl e
              · exact .inr (by rw [List.map_append, List.map_cons]; exact List.mem_append_right _ (List.mem_cons_of_mem _ e))
      · have he : k = k' := (hc.eq k k').1 (by omega)
        subst he
        have e1 : (put cmp nb k v (node b k v' l r h m)).toL = l.toL ++ (k, v) :: r.toL := by rw [put, if_neg hlt, if_neg hgt, even_toL]
        have e2 : had cmp k (node b k v' l r h m) = true := by rw [had, if_neg hlt, if_neg hgt]
        have e3 : (node b k v' l r h m).toL = l.toL ++ (k, v') :: r.toL := rfl
        rw [e1, e2, e3]
        refine ⟨PutL.old _ _ _ ?_, rise_split.2 ⟨h1, h2, h3, h4, h5⟩, ?_⟩
        · intro a ha
          rcases List.mem_append.1 ha with ha | ha
          · exact cmp_ne hc (h3 a ha)
          · exact (cmp_ne hc (h4 a ha)).symm
        · intro a ha
          exact .inr (by
            rcases List.mem_append.1 ha with ha | ha
            · rw [List.map_append]; exact List.mem_append_left _ (List.mem_map.2 ⟨a, ha, rfl⟩)
            · rcases List.mem_cons.1 ha with rfl | ha
              · simp
              · rw [List.map_append, List.map_cons]; exact List.mem_append_right _ (List.mem_cons_of_mem _ (List.mem_map.2 ⟨a, ha, rfl⟩)))
theorem get_spec {cmp : ByteArray → ByteArray → Int} (hc : Cmp cmp) (k : ByteArray) : ∀ (t : Tr α), Rise cmp t.toL → (∀ v, get cmp k t = some v ↔ (k, v) ∈ t.toL)
  | nil, _ => by simp [get, toL]
  | node b k' v' l r h m, hr => by
    unfold toL at hr
    obtain ⟨h1, h2, h3, h4, h5⟩ := rise_split.1 hr
    intro v
    have hm : (k, v) ∈ (node b k' v' l r h m).toL ↔ (k, v) ∈ l.toL ∨ (k, v) = (k', v') ∨ (k, v) ∈ r.toL := by simp [toL]
    rw [hm]
    by_cases he : cmp k k' = 0
    · have := (hc.eq k k').1 he
      subst this
      have hL : (k, v) ∉ l.toL := fun hh => (cmp_ne hc (h3 _ hh)) rfl
      have hR : (k, v) ∉ r.toL := fun hh => (cmp_ne hc (h4 _ hh)) rfl
      rw [get, if_pos he]
      constructor
      · intro e; cases e; exact .inr (.inl rfl)
      · rintro (e | e | e)
        · exact absurd e hL
        · cases e; rfl
        · exact absurd e hR
    · by_cases hlt : cmp k k' < 0
      · have hR : (k, v) ∉ r.toL := fun hh => (cmp_ne hc (hc.trans _ _ _ hlt (h4 _ hh))) rfl
        rw [get, if_neg he, if_pos hlt, get_spec hc k l h1 v]
        constructor
        · exact fun e => .inl e
        · rintro (e | e | e)
          · exact e
          · cases e; exact absurd rfl (cmp_ne hc hlt)
          · exact absurd e hR
      · have hkk : cmp k' k < 0 := (hc.anti k' k).2 (by omega)
        have hL : (k, v) ∉ l.toL := fun hh => (cmp_ne hc (hc.trans _ _ _ (h3 _ hh) hkk)) rfl
        rw [get, if_neg he, if_neg hlt, get_spec hc k r h2 v]
        constructor
        · exact fun e => .inr (.inr e)
        · rintro (e | e | e)
          · exact absurd e hL
          · cases e; exact absurd rfl (cmp_ne hc hkk)
          · exact e
theorem drop_spec {cmp : ByteArray → ByteArray → Int} (hc : Cmp cmp) (k : ByteArray) : ∀ (t : Tr α), Rise cmp t.toL → DropL k t.toL (had cmp k t) (drop cmp k t).toL ∧ Rise cmp (drop cmp k t).toL ∧ (∀ a ∈ (drop cmp k t).toL, a ∈ t.toL)
  | nil, _ => ⟨DropL.none [] (by simp), by simp [drop, toL, Rise], by simp [drop, toL]⟩
  | node b k' v' l r h m, hr => by
    unfold toL at hr
    obtain ⟨h1, h2, h3, h4, h5⟩ := rise_split.1 hr
    have e3 : (node b k' v' l r h m).toL = l.toL ++ (k', v') :: r.toL := rfl
    rw [e3]
    by_cases hlt : cmp k k' < 0
    · obtain ⟨ih1, ih2, ih3⟩ := drop_spec hc k l h1
      have hk' : k' ≠ k := (cmp_ne hc hlt).symm
      have hR : ∀ a ∈ r.toL, a.1 ≠ k := fun a ha => (cmp_ne hc (hc.trans _ _ _ hlt (h4 a ha))).symm
      have e1 : (drop cmp k (node b k' v' l r h m)).toL = (drop cmp k l).toL ++ (k', v') :: r.toL := by cases r <;> rw [drop, if_pos hlt, even_toL]
      have e2 : had cmp k (node b k' v' l r h m) = had cmp k l := by rw [had, if_pos hlt]
      rw [e1, e2]
      refine ⟨?_, ?_, ?_⟩
      · generalize l.toL = X at *
        generalize (drop cmp k l).toL = Y at *
        generalize had cmp k l = hb at *
        cases ih1 with
        | none L hh =>
          refine DropL.none _ ?_
          intro a ha
          rcases List.mem_append.1 ha with ha | ha
          · exact hh a ha
          · rcases List.mem_cons.1 ha with rfl | ha
            · exact hk'
            · exact hR a ha
        | some L1 L2 u hh =>
          rw [List.append_assoc, List.append_assoc, List.cons_append]
          refine DropL.some L1 (L2 ++ (k', v') :: r.toL) u ?_
          intro a ha
          rw [← List.append_assoc] at ha
          rcases List.mem_append.1 ha with ha | ha
          · exact hh a ha
          · rcases List.mem_cons.1 ha with rfl | ha
            · exact hk'
            · exact hR a ha
      · exact rise_split.2 ⟨ih2, h2, fun a ha => h3 a (ih3 a ha), h4, fun a ha y hy => h5 a (ih3 a ha) y hy⟩
      · intro a ha
        rcases List.mem_append.1 ha with ha | ha
        · exact List.mem_append_left _ (ih3 a ha)
        · exact List.mem_append_right _ ha
    · by_cases hgt : cmp k k' > 0
      · obtain ⟨ih1, ih2, ih3⟩ := drop_spec hc k r h2
        have hkk : cmp k' k < 0 := (hc.anti k' k).2 hgt
        have hk' : k' ≠ k := cmp_ne hc hkk
        have hL : ∀ a ∈ l.toL, a.1 ≠ k := fun a ha => cmp_ne hc (hc.trans _ _ _ (h3 a ha) hkk)
        have e1 : (drop cmp k (node b k' v' l r h m)).toL = l.toL ++ (k', v') :: (drop cmp k r).toL := by cases r <;> (simp only [drop]; rw [if_neg hlt, if_pos hgt, even_toL])
        have e2 : had cmp k (node b k' v' l r h m) = had cmp k r := by rw [had, if_neg hlt, if_pos hgt]
        rw [e1, e2]
        refine ⟨?_, ?_, ?_⟩
        · generalize r.toL = X at *
          generalize (drop cmp k r).toL = Y at *
          generalize had cmp k r = hb at *
          cases ih1 with
          | none L hh =>
            refine DropL.none _ ?_
            intro a ha
            rcases List.mem_append.1 ha with ha | ha
            · exact hL a ha
            · rcases List.mem_cons.1 ha with rfl | ha
              · exact hk'
              · exact hh a ha
          | some L1 L2 u hh =>
            have := DropL.some (k := k) (l.toL ++ (k', v') :: L1) L2 u (by
              intro a ha
              rw [List.append_assoc] at ha
              rcases List.mem_append.1 ha with ha | ha
              · exact hL a ha
              · rw [List.cons_append] at ha
                rcases List.mem_cons.1 ha with rfl | ha
                · exact hk'
                · exact hh a ha)
            simpa using this
        · exact rise_split.2 ⟨h1, ih2, h3, fun a ha => h4 a (ih3 a ha), fun a ha y hy => h5 a ha y (ih3 y hy)⟩
        · intro a ha
          rcases List.mem_append.1 ha with ha | ha
          · exact List.mem_append_left _ ha
          · rcases List.mem_cons.1 ha with rfl | ha
            · exact List.mem_append_right _ (by simp)
            · exact List.mem_append_right _ (List.mem_cons_of_mem _ (ih3 a ha))
      · have he : k = k' := (hc.eq k k').1 (by omega)
        subst he
        have e1 : (drop cmp k (node b k v' l r h m)).toL = l.toL ++ r.toL := by
          cases r with
          | nil => simp only [drop]; rw [if_neg hlt, if_neg hgt]; simp [toL]
          | node b2 k2 v2 l2 r2 hh2 m2 =>
            simp only [drop]
            rw [if_neg hlt, if_neg hgt, even_toL]
            have := least_toL l2 b2 k2 v2 r2
            rw [show (node b2 k2 v2 l2 r2 hh2 m2).toL = l2.toL ++ (k2, v2) :: r2.toL from rfl, ← this]
        have e2 : had cmp k (node b k v' l r h m) = true := by rw [had, if_neg hlt, if_neg hgt]
        rw [e1, e2]
        refine ⟨DropL.some _ _ v' ?_, ?_, ?_⟩
        · intro a ha
          rcases List.mem_append.1 ha with ha | ha
          · exact cmp_ne hc (h3 a ha)
          · exact (cmp_ne hc (h4 a ha)).symm
        · exact List.pairwise_append.2 ⟨h1, h2, fun a ha y hy => h5 a ha y hy⟩
        · intro a ha
          rcases List.mem_append.1 ha with ha | ha
          · exact List.mem_append_left _ ha
          · exact List.mem_append_right _ (List.mem_cons_of_mem _ ha)
theorem put_ids {cmp : ByteArray → ByteArray → Int} {nb : Nat} {k : ByteArray} {v : α} : ∀ (t : Tr α), ∀ i, i ∈ (put cmp nb k v t).ids ↔ i ∈ t.ids ∨ (had cmp k t = false ∧ i = nb)
  | nil, i => by simp [put, mk, ids, had]
  | node b k' v' l r h m, i => by
    by_cases hlt : cmp k k' < 0
    · rw [put, had, if_pos hlt, if_pos hlt, even_ids]
      simp only [ids, List.mem_append, List.mem_cons, put_ids l i]
      constructor
      · rintro ((h | h) | h | h) <;> simp [h]
      · rintro ((h | h | h) | h) <;> simp [h]
    · rw [put, had, if_neg hlt, if_neg hlt]
      by_cases hgt : cmp k k' > 0
      · rw [if_pos hgt, if_pos hgt, even_ids]
        simp only [ids, List.mem_append, List.mem_cons, put_ids r i]
        constructor
        · rintro (h | h | h | h) <;> simp [h]
        · rintro ((h | h | h) | h) <;> simp [h]
      · rw [if_neg hgt, if_neg hgt, even_ids]
        simp [ids]
theorem put_nodup {cmp : ByteArray → ByteArray → Int} {nb : Nat} {k : ByteArray} {v : α} : ∀ (t : Tr α), t.ids.Nodup → nb ∉ t.ids → (put cmp nb k v t).ids.Nodup
  | nil, _, _ => by simp [put, mk, ids]
  | node b k' v' l r h m, hn, hb => by
    simp only [ids] at hn hb
    have hn2 := hn
    rw [List.nodup_append] at hn
    obtain ⟨n1, n2, n3⟩ := hn
    rw [List.nodup_cons] at n2
    simp only [List.mem_append, List.mem_cons, not_or] at hb
    rw [put]
    split
    · rw [even_ids, List.nodup_append]
      refine ⟨put_nodup l n1 hb.1, List.nodup_cons.2 n2, fun i hi j hj => ?_⟩
      rcases (put_ids l i).1 hi with hi | ⟨_, rfl⟩
      · exact n3 i hi j hj
      · rintro rfl
        rcases List.mem_cons.1 hj with e | e
        · exact hb.2.1 e
        · exact hb.2.2 e
    · split
      · rw [even_ids, List.nodup_append]
        refine ⟨n1, List.nodup_cons.2 ⟨?_, put_nodup r n2.2 hb.2.2⟩, fun i hi j hj => ?_⟩
        · intro hh
          rcases (put_ids r b).1 hh with hh | ⟨_, e⟩
          · exact n2.1 hh
          · exact hb.2.1 e.symm
        · rcases List.mem_cons.1 hj with rfl | hj
          · exact n3 i hi j (by simp)
          · rcases (put_ids r j).1 hj with hj | ⟨_, rfl⟩
            · exact n3 i hi j (by simp [hj])
            · rintro rfl; exact hb.1 hi
      · rw [even_ids]; exact hn2
theorem drop_ids {cmp : ByteArray → ByteArray → Int} {k : ByteArray} : ∀ (t : Tr α), (drop cmp k t).ids.Sublist t.ids
  | nil => by simp [drop, ids]
  | node b k' v' l r h m => by
    by_cases hlt : cmp k k' < 0
    · simp only [drop]
      rw [if_pos hlt, even_ids]
      exact List.Sublist.append (drop_ids l) (List.Sublist.refl _)
    · by_cases hgt : cmp k k' > 0
      · simp only [drop]
        rw [if_neg hlt, if_pos hgt, even_ids]
        exact List.Sublist.append (List.Sublist.refl _) ((drop_ids r).cons_cons _)
      · cases r with
        | nil => simp only [drop]; rw [if_neg hlt, if_neg hgt]; simp [ids]
        | node b2 k2 v2 l2 r2 hh2 m2 =>
          simp only [drop]
          rw [if_neg hlt, if_neg hgt, even_ids, least_ids]
          exact List.Sublist.append (List.Sublist.refl _) (List.sublist_cons_self _ _)
end Tr
end Go.Proofs.YtdooajmgfoobfaaGreatDoor.H
namespace Go.Proofs.YtdooajmgfoobfaaGreatDoor.H
open Go.RowKit Go.Proofs.YtdooajmgfoobfaaGreatDoor.PA Go.Proofs.YtdooajmgfoobfaaGreatDoorW.PrintWords Go.Proofs.YtdooajmgfoobfaaGreatDoorW.PrintLast Go.Proofs.YtdooajmgfoobfaaGreatDoorW.PrintMore
set_option linter.unusedVariables false
set_option linter.unusedSimpArgs false
/-- Only blocks of F change; what is new lies behind. -/
structure Mut (F : Nat → Prop) (w w' : World) : Prop where
  os : w'.os = w.os
  tape : w'.tape = w.tape
  output : w'.output = w.output
  size : w.heap.size ≤ w'.heap.size
  block : ∀ i, i < w.heap.size → ¬ F i → w'.heap[i]? = w.heap[i]?
theorem Mut.refl (F : Nat → Prop) (w : World) : Mut F w w := ⟨rfl, rfl, rfl, Nat.le_refl _, fun _ _ _ => rfl⟩
theorem Mut.trans {F F1 F2 : Nat → Prop} {w w1 w2 : World} (h1 : Mut F1 w w1) (h2 : Mut F2 w1 w2) (i1 : ∀ i, F1 i → F i) (i2 : ∀ i, F2 i → i < w.heap.size → F i) : Mut F w w2 :=
  ⟨h2.os.trans h1.os, h2.tape.trans h1.tape, h2.output.trans h1.output, Nat.le_trans h1.size h2.size, fun i hi hn => (h2.block i (Nat.lt_of_lt_of_le hi h1.size) (fun e => hn (i2 i e hi))).trans (h1.block i hi (fun e => hn (i1 i e)))⟩
theorem Mut.mono {F F' : Nat → Prop} {w w' : World} (h : Mut F w w') (i : ∀ i, F i → i < w.heap.size → F' i) : Mut F' w w' := ⟨h.os, h.tape, h.output, h.size, fun k hk hn => h.block k hk (fun e => hn (i k e hk))⟩
theorem Mut.blk {F : Nat → Prop} {w w' : World} {b : Nat} {o : Obj} (h : Mut F w w') (hb : w.heap[b]? = some o) (hn : ¬ F b) : w'.heap[b]? = some o := (h.block b (blk_lt hb) hn).trans hb
theorem Mut.drew {F : Nat → Prop} {w w' : World} (h : Mut F w w') : Mut F w w'.drew := ⟨h.os, h.tape, h.output, h.size, h.block⟩
theorem Mut.drewN {F : Nat → Prop} {w w' : World} (h : Mut F w w') (n : Nat) : Mut F w (w'.drewN n) := ⟨h.os, h.tape, h.output, h.size, h.block⟩
theorem Mut.of_below {F : Nat → Prop} {w w' : World} (h : Below w.heap.size w w') : Mut F w w' := ⟨h.os, h.tape, h.output, h.size, fun i hi _ => h.block i hi⟩
theorem Mut.set {F : Nat → Prop} {w w' : World} {b : Nat} (h : Mut F w w') (hb : F b ∨ w.heap.size ≤ b) (j : Nat) (v : Value) : Mut F w (w'.setCell ⟨b, j, none⟩ v) :=
  ⟨h.os, h.tape, h.output, by rw [World.size_setCell]; exact h.size, fun i hi hn => (Below.heap_setCell w' ⟨b, j, none⟩ v i (by rintro rfl; rcases hb with hb | hb; exact hn hb; omega)).trans (h.block i hi hn)⟩
/-- A file's value as it lies in a node: its bytes' slice, how many are safe. -/
structure FV where
  A : Option Addr
  n : Nat
  c : Nat
  s : Int
def Tr.adr {α : Type} : Tr α → Option Addr
  | .nil => none
  | .node b _ _ _ _ _ _ => some ⟨b, 0, none⟩
def nodeC (k : ByteArray) (v : FV) (l r : Option Addr) (h m : Int) : Array Value := #[.string k, .slice v.A v.n v.c, .int .i64 v.s, .pointer l, .pointer r, .int .i64 h, .int .i64 m]
/-- A tree in memory. -/
def At (w : World) : Tr FV → Prop
  | .nil => True
  | .node b k v l r h m => w.heap[b]? = some (.cells (nodeC k v l.adr r.adr h m) 121 (0, 0)) ∧ At w l ∧ At w r
theorem At.mk {w : World} {b : Nat} {k : ByteArray} {v : FV} {l r : Tr FV} {h m : Int} (hb : w.heap[b]? = some (.cells (nodeC k v l.adr r.adr h m) 121 (0, 0))) (hl : At w l) (hr : At w r) : At w (.node b k v l r h m) := ⟨hb, hl, hr⟩
theorem At.node {w : World} {b : Nat} {k : ByteArray} {v : FV} {l r : Tr FV} {h m : Int} (ha : At w (.node b k v l r h m)) : w.heap[b]? = some (.cells (nodeC k v l.adr r.adr h m) 121 (0, 0)) := ha.1
theorem At.left {w : World} {b : Nat} {k : ByteArray} {v : FV} {l r : Tr FV} {h m : Int} (ha : At w (.node b k v l r h m)) : At w l := ha.2.1
theorem At.right {w : World} {b : Nat} {k : ByteArray} {v : FV} {l r : Tr FV} {h m : Int} (ha : At w (.node b k v l r h m)) : At w r := ha.2.2
theorem At.keep {w w' : World} : ∀ {t : Tr FV}, At w t → (∀ i, i ∈ t.ids → i < w.heap.size → w'.heap[i]? = w.heap[i]?) → At w' t
  | .nil, _, _ => trivial
  | .node b k v l r h m, ⟨h1, h2, h3⟩, hk => ⟨(hk b (by simp [Tr.ids]) (blk_lt h1)).trans h1, At.keep h2 (fun i hi hs => hk i (by simp [Tr.ids, hi]) hs), At.keep h3 (fun i hi hs => hk i (by simp [Tr.ids, hi]) hs)⟩
theorem At.mut {F : Nat → Prop} {w w' : World} {t : Tr FV} (h : At w t) (hm : Mut F w w') (hn : ∀ i, i ∈ t.ids → ¬ F i) : At w' t := h.keep (fun i hi hs => hm.block i hs (hn i hi))
theorem At.lt {w : World} : ∀ {t : Tr FV}, At w t → ∀ i, i ∈ t.ids → i < w.heap.size
  | .nil, _, i, hi => by simp [Tr.ids] at hi
  | .node b k v l r h m, ⟨h1, h2, h3⟩, i, hi => by
    simp only [Tr.ids, List.mem_append, List.mem_cons] at hi
    rcases hi with hi | rfl | hi
    · exact At.lt h2 i hi
    · exact blk_lt h1
    · exact At.lt h3 i hi
theorem height_calls (t : Tr FV) (w : World) (h : At w t) : Calls Tryz.prog 88 #[.pointer t.adr] w fun e w' => e = .returned (.int .i64 t.hi) ∧ w' = w := by
  cases t with
  | nil =>
    simp only [Tr.adr, Tr.hi]
    go_enter Tryz.func88, Tryz.ntmps88
    go_wp2
    exact bodyPost_ret (v := .int .i64 0) (by simp [results, Tryz.results88, go_sem]) rfl ⟨rfl, rfl⟩
  | node b k v l r hh m =>
    have d : w.cell? ⟨b, 5, none⟩ = some (.int .i64 hh) := (blk_cell h.1 5).trans rfl
    simp only [Tr.adr, Tr.hi]
    clear h
    go_enter Tryz.func88, Tryz.ntmps88
    go_wp2
    exact bodyPost_ret (v := .int .i64 hh) (by simp [results, Tryz.results88, go_sem]) rfl ⟨rfl, rfl⟩
theorem size_calls (t : Tr FV) (w : World) (h : At w t) : Calls Tryz.prog 72 #[.pointer t.adr] w fun e w' => e = .returned (.int .i64 t.many) ∧ w' = w := by
  cases t with
  | nil =>
    simp only [Tr.adr, Tr.many]
    go_enter Tryz.func72, Tryz.ntmps72
    go_wp2
    exact bodyPost_ret (v := .int .i64 0) (by simp [results, Tryz.results72, go_sem]) rfl ⟨rfl, rfl⟩
  | node b k v l r hh m =>
    have d : w.cell? ⟨b, 6, none⟩ = some (.int .i64 m) := (blk_cell h.1 6).trans rfl
    simp only [Tr.adr, Tr.many]
    clear h
    go_enter Tryz.func72, Tryz.ntmps72
    go_wp2
    exact bodyPost_ret (v := .int .i64 m) (by simp [results, Tryz.results72, go_sem]) rfl ⟨rfl, rfl⟩
end Go.Proofs.YtdooajmgfoobfaaGreatDoor.H

