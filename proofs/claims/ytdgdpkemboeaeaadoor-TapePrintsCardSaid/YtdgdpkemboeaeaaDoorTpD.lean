/- Acts as texts, told plainly: which are good, their lines, how a line is read. -/
import Derived.Test.YtdgdpkemboeaeaaDoorTpG
import Derived.Test.YtdgdpkemboeaeaaDoorTpS
import Derived.Test.YtdgdpkemboeaeaaDoorTpJ
import Derived.Lib.AtoiAllCases
import Derived.Lib.ItoaMem
namespace Go.Proofs.YtdgdpkemboeaeaaDoor.H
open Go.RowKit Go.Shelf Go.Proofs.YtdgdpkemboeaeaaDoorW.PrintWords Go.Proofs.YtdgdpkemboeaeaaDoorW.PrintLast Go.Proofs.YtdgdpkemboeaeaaDoorW.PrintMore
set_option linter.unusedVariables false
set_option linter.unusedSimpArgs false
/-- An act, plainly. -/
structure PAct where
  k : Int
  i : Int
  n : Int
  t : ByteArray
  keep : List Int
def zeroP : PAct := ⟨0, 0, 0, ⟨#[]⟩, []⟩
def shW (k : Int) : List UInt8 := (shapeAt k.toNat).1.data.toList
def shI (k : Int) : Bool := (shapeAt k.toNat).2.1
def shN (k : Int) : Bool := (shapeAt k.toNat).2.2.1
def shT (k : Int) : Bool := (shapeAt k.toNat).2.2.2.1
def shK (k : Int) : Bool := (shapeAt k.toNat).2.2.2.2
def goodP (a : PAct) : Bool :=
  decide (1 ≤ a.k) && decide (a.k ≤ 10) && (numB a.i (shI a.k) && numB a.n (shN a.k) && (decide (a.keep.length = 0) || shK a.k && decide (a.keep.length ≤ 16) && !a.keep.any badN) && (decide (a.t.size = 0) || shT a.k))
def partsP (a : PAct) : List (List UInt8) :=
  shW a.k :: ((if shI a.k = true then [Lib.itoa a.i] else []) ++ (if shN a.k = true then [Lib.itoa a.n] else []) ++ (if a.t.size = 0 then [] else [showL a.t.data.toList]) ++ a.keep.map Lib.itoa)
def lineP (a : PAct) : List UInt8 := joinC 32 (partsP a)
/-- What the words' number is. -/
def numW (s : List UInt8) : Int := match Lib.atoiAll s with
  | .ok v => v
  | .range => Lib.atoiSat s
  | .«syntax» => 0
def nextW : List (List UInt8) → List UInt8 × List (List UInt8)
  | [] => ([], [])
  | x :: r => (x, r)
/-- Which kind's word, from 1 on; 0: none's. -/
def wordIx (w : List UInt8) : Nat := if w = shW 1 then 1 else if w = shW 2 then 2 else if w = shW 3 then 3 else if w = shW 4 then 4 else if w = shW 5 then 5 else if w = shW 6 then 6 else if w = shW 7 then 7 else if w = shW 8 then 8 else if w = shW 9 then 9 else if w = shW 10 then 10 else 0
/-- A text's numeral of a number that may be told. -/
theorem num_itoa {n : Int} (h0 : 0 ≤ n) (h1 : n ≤ 1000000000) : numW (Lib.itoa n) = n := by
  obtain ⟨u, rfl⟩ := Int.eq_ofNat_of_zero_le h0
  have hu : u ≤ 1000000000 := by omega
  have hd := dec_dg u
  have hv := valF_dec u
  rw [Lib.itoa_nonneg]
  have key : ∀ (l : List UInt8) (acc : Nat), l.all dgB = true → valF acc l ≤ 1000000000 → Lib.parseUint10 acc l = .ok (valF acc l) := by
    intro l
    induction l with
    | nil => intro acc _ _; rfl
    | cons b r ih =>
      intro acc ha hle
      rw [List.all_cons, Bool.and_eq_true] at ha
      have hb := ha.1
      unfold dgB at hb
      rw [decide_eq_true_iff] at hb
      have hmono : ∀ (r : List UInt8) (m : Nat), m ≤ valF m r := by
        intro r
        induction r with
        | nil => intro m; exact Nat.le_refl _
        | cons c r ih2 => intro m; rw [valF_cons]; exact Nat.le_trans (by omega) (ih2 _)
      have hm := hmono r (acc * 10 + (b.toNat - 48))
      rw [valF_cons] at hle ⊢
      simp only [Lib.parseUint10]
      rw [if_pos hb, if_neg (by omega), if_neg (by omega)]
      exact ih _ ha.2 hle
  have hk := key (Lib.decDigits u) 0 hd (by rw [hv]; exact hu)
  rw [hv] at hk
  cases hl : Lib.decDigits u with
  | nil => rw [hl] at hv; rw [valF_nil] at hv; exact absurd hl (by rw [← hv, dec_small (by omega)]; simp)
  | cons b r =>
    rw [hl] at hk hd
    rw [List.all_cons, Bool.and_eq_true] at hd
    have hb := hd.1
    unfold dgB at hb
    rw [decide_eq_true_iff] at hb
    unfold numW
    rw [Lib.atoiAll_plain b r (by omega) (by omega)]
    unfold Lib.parseMag
    rw [if_neg (by simp), hk]
    unfold Lib.signless
    have : ¬ (9223372036854775808 ≤ u) := by omega
    simp [this]
theorem itoa_dg {n : Int} (h0 : 0 ≤ n) : (Lib.itoa n).all dgB = true ∧ Lib.itoa n ≠ [] := by
  obtain ⟨u, rfl⟩ := Int.eq_ofNat_of_zero_le h0
  rw [Lib.itoa_nonneg]
  refine ⟨dec_dg u, fun h => ?_⟩
  have := Lib.decDigits_length u
  rw [h] at this
  by_cases hu : u < 10
  · rw [dec_small hu] at h; cases h
  · rw [dec_big hu] at h; simp at h
/-! A text, shown, and back. -/
def hexq (c : UInt8) : Option Nat := if 48 ≤ c.toNat ∧ c.toNat ≤ 57 then some (c.toNat - 48) else if 97 ≤ c.toNat ∧ c.toNat ≤ 102 then some (c.toNat - 87) else none
theorem hexq_hexd : ∀ q : Fin 16, hexq (hexd q.1) = some q.1 := by decide +kernel
theorem showC_ne (c : UInt8) : showC c ≠ [] := by unfold showC; split <;> simp
theorem showC_no : ∀ n : Fin 256, (32 : UInt8) ∉ showC (UInt8.ofNat n.1) ∧ (10 : UInt8) ∉ showC (UInt8.ofNat n.1) := by decide +kernel
theorem showC_clean (c : UInt8) : (32 : UInt8) ∉ showC c ∧ (10 : UInt8) ∉ showC c := by
  have := showC_no ⟨c.toNat, c.toNat_lt⟩
  simp only [UInt8.ofNat_toNat] at this
  exact this
theorem showL_clean (l : List UInt8) : (32 : UInt8) ∉ showL l ∧ (10 : UInt8) ∉ showL l := by
  unfold showL
  simp only [List.mem_flatMap, not_exists, not_and]
  exact ⟨fun c _ => (showC_clean c).1, fun c _ => (showC_clean c).2⟩
theorem showL_cons (c : UInt8) (l : List UInt8) : showL (c :: l) = showC c ++ showL l := by unfold showL; rw [List.flatMap_cons]
theorem showC_head {c d : UInt8} {x y : List UInt8} (h : showC c ++ x = showC d ++ y) : c = d ∧ x = y := by
  have key : ∀ e : UInt8, (plainB e = true ∧ showC e = [e] ∧ e ≠ 37) ∨ (plainB e = false ∧ showC e = [37, hexd (e.toNat / 16), hexd (e.toNat % 16)]) := by
    intro e
    unfold showC
    cases hp : plainB e with
    | true =>
      refine .inl ⟨rfl, by simp, ?_⟩
      rintro rfl
      exact absurd hp (by decide)
    | false => exact .inr ⟨rfl, by simp⟩
  rcases key c with ⟨_, hc, nc⟩ | ⟨_, hc⟩ <;> rcases key d with ⟨_, hd, nd⟩ | ⟨_, hd⟩ <;> rw [hc, hd] at h <;> simp only [List.cons_append, List.nil_append, List.cons.injEq] at h
  · exact ⟨h.1, h.2⟩
  · exact absurd h.1 nc
  · exact absurd h.1.symm nd
  · obtain ⟨_, h1, h2, h3⟩ := h
    refine ⟨?_, h3⟩
    have l1 := c.toNat_lt
    have l2 := d.toNat_lt
    have a1 := congrArg hexq h1
    have a2 := congrArg hexq h2
    rw [hexq_hexd ⟨c.toNat / 16, by omega⟩, hexq_hexd ⟨d.toNat / 16, by omega⟩] at a1
    rw [hexq_hexd ⟨c.toNat % 16, by omega⟩, hexq_hexd ⟨d.toNat % 16, by omega⟩] at a2
    simp only [Option.some.injEq] at a1 a2
    exact UInt8.toNat_inj.1 (by omega)
theorem showL_inj : ∀ (a b : List UInt8), showL a = showL b → a = b
  | [], [], _ => rfl
  | [], c :: b, h => by
    rw [showL_cons] at h
    have := showC_ne c
    cases hc : showC c with
    | nil => exact absurd hc this
    | cons x y => rw [hc] at h; cases h
  | c :: a, [], h => by
    rw [showL_cons] at h
    have := showC_ne c
    cases hc : showC c with
    | nil => exact absurd hc this
    | cons x y => rw [hc] at h; cases h
  | c :: a, d :: b, h => by
    rw [showL_cons, showL_cons] at h
    obtain ⟨rfl, h2⟩ := showC_head h
    rw [showL_inj a b h2]
open Classical in
/-- The text that shows so. -/
noncomputable def unshowL (s : List UInt8) : Option (List UInt8) := if h : ∃ t, showL t = s then some (Classical.choose h) else none
theorem unshowL_show (t : List UInt8) : unshowL (showL t) = some t := by
  have h : ∃ x, showL x = showL t := ⟨t, rfl⟩
  unfold unshowL
  rw [dif_pos h, showL_inj _ _ (Classical.choose_spec h)]
theorem unshowL_some {s t : List UInt8} (h : unshowL s = some t) : showL t = s := by
  unfold unshowL at h
  split at h
  · rename_i h2
    rw [← Option.some.inj h]
    exact Classical.choose_spec h2
  · cases h
theorem unshowL_none {s : List UInt8} (h : ¬∃ t, showL t = s) : unshowL s = none := by unfold unshowL; rw [dif_neg h]
noncomputable def unT (s : List UInt8) : ByteArray := ba ((unshowL s).getD [])
noncomputable def rI (k : Int) (p : List (List UInt8)) : Int × List (List UInt8) := if shI k = true then (numW (nextW p).1, (nextW p).2) else (0, p)
noncomputable def rN (k : Int) (p : List (List UInt8)) : Int × List (List UInt8) := if shN k = true then (numW (nextW p).1, (nextW p).2) else (0, p)
noncomputable def rT (k : Int) (p : List (List UInt8)) : ByteArray × List (List UInt8) := if shT k = true then (unT (nextW p).1, (nextW p).2) else (⟨#[]⟩, p)
noncomputable def rK (k : Int) (p : List (List UInt8)) : List Int := if shK k = true then p.map numW else []
/-- What the program reads of a line's words, whatever they are. -/
noncomputable def readK (k : Int) (p : List (List UInt8)) : PAct :=
  ⟨k, (rI k p).1, (rN k (rI k p).2).1, (rT k (rN k (rI k p).2).2).1, rK k (rT k (rN k (rI k p).2).2).2⟩
noncomputable def readP (p : List (List UInt8)) : PAct := readK (wordIx (nextW p).1 : Int) (nextW p).2
theorem kinds_of {k : Int} (h1 : 1 ≤ k) (h2 : k ≤ 10) : k = 1 ∨ k = 2 ∨ k = 3 ∨ k = 4 ∨ k = 5 ∨ k = 6 ∨ k = 7 ∨ k = 8 ∨ k = 9 ∨ k = 10 := by omega
theorem word_ix {k : Int} (h1 : 1 ≤ k) (h2 : k ≤ 10) : (wordIx (shW k) : Int) = k := by
  rcases kinds_of h1 h2 with rfl | rfl | rfl | rfl | rfl | rfl | rfl | rfl | rfl | rfl <;> decide +kernel
theorem sh_excl {k : Int} (h1 : 1 ≤ k) (h2 : k ≤ 10) : shT k = true → shK k = false := by
  rcases kinds_of h1 h2 with rfl | rfl | rfl | rfl | rfl | rfl | rfl | rfl | rfl | rfl <;> decide +kernel
theorem shW_clean {k : Int} (h1 : 1 ≤ k) (h2 : k ≤ 10) : (32 : UInt8) ∉ shW k ∧ (10 : UInt8) ∉ shW k := by
  rcases kinds_of h1 h2 with rfl | rfl | rfl | rfl | rfl | rfl | rfl | rfl | rfl | rfl <;> decide +kernel
theorem shW_len {k : Int} (h1 : 1 ≤ k) (h2 : k ≤ 10) : 1 ≤ (shW k).length ∧ (shW k).length ≤ 7 := by
  rcases kinds_of h1 h2 with rfl | rfl | rfl | rfl | rfl | rfl | rfl | rfl | rfl | rfl <;> decide +kernel
structure GoodP (a : PAct) : Prop where
  k1 : 1 ≤ a.k
  k2 : a.k ≤ 10
  i0 : 0 ≤ a.i
  i1 : a.i ≤ 1000000000
  iz : shI a.k = false → a.i = 0
  n0 : 0 ≤ a.n
  n1 : a.n ≤ 1000000000
  nz : shN a.k = false → a.n = 0
  kz : shK a.k = false → a.keep = []
  kl : a.keep.length ≤ 16
  ka : ∀ x ∈ a.keep, 0 ≤ x ∧ x ≤ 1000000000
  tz : shT a.k = false → a.t.size = 0
theorem numB_iff {n : Int} {t : Bool} : numB n t = true ↔ 0 ≤ n ∧ n ≤ 1000000000 ∧ (t = false → n = 0) := by
  unfold numB
  cases t <;> simp [and_assoc]
theorem goodP_iff {a : PAct} : goodP a = true ↔ GoodP a := by
  unfold goodP
  simp only [Bool.and_eq_true, Bool.or_eq_true, decide_eq_true_eq, numB_iff]
  constructor
  · rintro ⟨⟨h1, h2⟩, ⟨⟨⟨hi0, hi1, hi2⟩, hn0, hn1, hn2⟩, hk⟩, ht⟩
    have hka : a.keep.length ≤ 16 ∧ ∀ x ∈ a.keep, 0 ≤ x ∧ x ≤ 1000000000 := by
      rcases hk with hk | ⟨⟨_, hk⟩, hb⟩
      · rw [List.eq_nil_of_length_eq_zero hk]; simp
      · refine ⟨hk, fun x hx => ?_⟩
        have h3 : a.keep.any badN = false := by simpa using hb
        rw [List.any_eq_false] at h3
        have h4 := h3 x hx
        unfold badN at h4
        simp only [Bool.not_eq_true', Bool.not_eq_false] at h4
        have := numB_iff.1 h4
        exact ⟨this.1, this.2.1⟩
    refine ⟨h1, h2, hi0, hi1, hi2, hn0, hn1, hn2, fun hz => ?_, hka.1, hka.2, fun hz => ?_⟩
    · rcases hk with hk | ⟨⟨hk, _⟩, _⟩
      · exact List.eq_nil_of_length_eq_zero hk
      · rw [hz] at hk; cases hk
    · rcases ht with ht | ht
      · exact ht
      · rw [hz] at ht; cases ht
  · rintro ⟨h1, h2, hi0, hi1, hi2, hn0, hn1, hn2, hkz, hkl, hka, htz⟩
    refine ⟨⟨h1, h2⟩, ⟨⟨⟨hi0, hi1, hi2⟩, hn0, hn1, hn2⟩, ?_⟩, ?_⟩
    · cases hk : shK a.k with
      | false => exact .inl (by rw [hkz hk]; rfl)
      | true =>
        refine .inr ⟨⟨rfl, hkl⟩, ?_⟩
        simp only [Bool.not_eq_true', List.any_eq_false]
        intro x hx
        unfold badN
        simp only [Bool.not_eq_true', Bool.not_eq_false]
        exact numB_iff.2 ⟨(hka x hx).1, (hka x hx).2, fun h => by cases h⟩
    · cases ht : shT a.k with
      | false => exact .inl (htz ht)
      | true => exact .inr rfl
theorem ba_nil_of {s : ByteArray} (h : s.size = 0) : s = ⟨#[]⟩ := by
  obtain ⟨⟨l⟩⟩ := s
  cases l with
  | nil => rfl
  | cons _ _ => simp [ByteArray.size] at h
theorem map_num {l : List Int} (h : ∀ x ∈ l, 0 ≤ x ∧ x ≤ 1000000000) : (l.map Lib.itoa).map numW = l := by
  induction l with
  | nil => rfl
  | cons x l ih =>
    rw [List.map_cons, List.map_cons, num_itoa (h x (by simp)).1 (h x (by simp)).2, ih (fun y hy => h y (by simp [hy]))]
theorem unT_show (t : ByteArray) : unT (showL t.data.toList) = t := by unfold unT; rw [unshowL_show]; exact ba_of t
/-- A good act's words, read, are it. -/
theorem read_parts {a : PAct} (h : goodP a = true) : readP (partsP a) = a := by
  obtain ⟨h1, h2, hi0, hi1, hi2, hn0, hn1, hn2, hkz, hkl, hka, htz⟩ := goodP_iff.1 h
  obtain ⟨k, i, n, t, keep⟩ := a
  simp only at h1 h2 hi0 hi1 hi2 hn0 hn1 hn2 hkz hkl hka htz
  have eI : ∀ R, rI k ((if shI k = true then [Lib.itoa i] else []) ++ R) = (i, R) := by
    intro R
    unfold rI
    cases hs : shI k with
    | true => simp [nextW, num_itoa hi0 hi1]
    | false => simp [hi2 hs]
  have eN : ∀ R, rN k ((if shN k = true then [Lib.itoa n] else []) ++ R) = (n, R) := by
    intro R
    unfold rN
    cases hs : shN k with
    | true => simp [nextW, num_itoa hn0 hn1]
    | false => simp [hn2 hs]
  have eT : rT k ((if t.size = 0 then [] else [showL t.data.toList]) ++ keep.map Lib.itoa) = (t, keep.map Lib.itoa) := by
    unfold rT
    cases hs : shT k with
    | true =>
      have hk := hkz (sh_excl h1 h2 hs)
      subst hk
      by_cases hz : t.size = 0
      · rw [if_pos hz, if_pos rfl]
        have := unT_show t
        rw [ba_nil_of hz] at this ⊢
        simp only [List.map_nil, List.append_nil, nextW]
        exact Prod.ext this rfl
      · rw [if_neg hz, if_pos rfl]
        simp [nextW, unT_show]
    | false =>
      have hz := htz hs
      rw [if_pos hz, if_neg (by decide), ba_nil_of hz]
      rfl
  have eK : rK k (keep.map Lib.itoa) = keep := by
    unfold rK
    cases hs : shK k with
    | true => rw [if_pos rfl, map_num hka]
    | false => rw [if_neg (by decide), hkz hs]
  unfold readP partsP readK
  simp only [nextW, word_ix h1 h2, List.append_assoc, eI, eN, eT, eK]
theorem parts_clean {a : PAct} (h : goodP a = true) : ∀ x ∈ partsP a, (32 : UInt8) ∉ x ∧ (10 : UInt8) ∉ x := by
  obtain ⟨h1, h2, hi0, hi1, hi2, hn0, hn1, hn2, hkz, hkl, hka, htz⟩ := goodP_iff.1 h
  have hd : ∀ z : Int, 0 ≤ z → (32 : UInt8) ∉ Lib.itoa z ∧ (10 : UInt8) ∉ Lib.itoa z := fun z hz => ⟨not_mem_dg (itoa_dg hz).1 _ (by decide), not_mem_dg (itoa_dg hz).1 _ (by decide)⟩
  intro x hx
  unfold partsP at hx
  rcases List.mem_cons.1 hx with rfl | hx
  · exact shW_clean h1 h2
  · rcases List.mem_append.1 hx with hx | hx
    · rcases List.mem_append.1 hx with hx | hx
      · rcases List.mem_append.1 hx with hx | hx
        · split at hx
          · rw [List.mem_singleton.1 hx]; exact hd _ hi0
          · cases hx
        · split at hx
          · rw [List.mem_singleton.1 hx]; exact hd _ hn0
          · cases hx
      · split at hx
        · cases hx
        · rw [List.mem_singleton.1 hx]; exact showL_clean _
    · obtain ⟨z, hz, rfl⟩ := List.mem_map.1 hx
      exact hd z (hka z hz).1
theorem split_line {a : PAct} (h : goodP a = true) : splitL (ba (lineP a)) 32 = (partsP a).map ba :=
  split_join 32 _ (by unfold partsP; simp) (fun x hx => (parts_clean h x hx).1)
theorem joinC_not {c d : UInt8} (hcd : d ≠ c) : ∀ (xs : List (List UInt8)), (∀ x ∈ xs, d ∉ x) → d ∉ joinC c xs
  | [], _ => by simp [joinC]
  | [x], h => h x (by simp)
  | x :: y :: r, h => by
    have := joinC_not hcd (y :: r) (fun z hz => h z (by simp [hz]))
    have h2 := h x (by simp)
    rw [joinC]
    simp only [List.mem_append, List.mem_cons, not_or]
    exact ⟨h2, hcd, this⟩
theorem line_clean {a : PAct} (h : goodP a = true) : (10 : UInt8) ∉ lineP a := joinC_not (by decide) _ (fun x hx => (parts_clean h x hx).2)
/-- A line's words as lists. -/
def wordsL (one : List UInt8) : List (List UInt8) := (splitL (ba one) 32).map (fun p => p.data.toList)
theorem words_line {a : PAct} (h : goodP a = true) : wordsL (lineP a) = partsP a := by
  unfold wordsL
  rw [split_line h, List.map_map]
  have : ((fun p : ByteArray => p.data.toList) ∘ ba) = id := by funext x; exact ba_data x
  rw [this, List.map_id]
theorem read_line {a : PAct} (h : goodP a = true) : readP (wordsL (lineP a)) = a := by rw [words_line h, read_parts h]
open Classical in
/-- A line's act. -/
noncomputable def actA (one : List UInt8) : Option PAct := if h : ∃ a, goodP a = true ∧ lineP a = one then some (Classical.choose h) else none
theorem actA_iff {one : List UInt8} {a : PAct} : actA one = some a ↔ goodP a = true ∧ lineP a = one := by
  unfold actA
  constructor
  · intro h
    split at h
    · rename_i h2
      rw [← Option.some.inj h]
      exact Classical.choose_spec h2
    · cases h
  · rintro ⟨h1, rfl⟩
    have h : ∃ x, goodP x = true ∧ lineP x = lineP a := ⟨a, h1, rfl⟩
    rw [dif_pos h]
    have h2 := Classical.choose_spec h
    rw [← read_line h2.1, h2.2, read_line h1]
theorem actA_read {one : List UInt8} {a : PAct} (h : actA one = some a) : readP (wordsL one) = a := by
  obtain ⟨h1, rfl⟩ := actA_iff.1 h
  exact read_line h1
/-- The program's way: read, then look whether it is good and has that line. -/
theorem actA_way (one : List UInt8) : actA one = if goodP (readP (wordsL one)) = true ∧ lineP (readP (wordsL one)) = one then some (readP (wordsL one)) else none := by
  by_cases h : goodP (readP (wordsL one)) = true ∧ lineP (readP (wordsL one)) = one
  · rw [if_pos h]
    exact actA_iff.2 h
  · rw [if_neg h]
    cases hq : actA one with
    | none => rfl
    | some a =>
      have := actA_read hq
      obtain ⟨h1, h2⟩ := actA_iff.1 hq
      rw [this] at h
      exact absurd ⟨h1, h2⟩ h
/-- The acts of a text; are all lines some's? -/
noncomputable def parseN : Nat → List UInt8 → List PAct × Bool
  | 0, _ => ([], true)
  | n + 1, s => if s = [] then ([], true) else if (cutL s 10).2.2 = true then (match actA (cutL s 10).1 with
      | some a => (a :: (parseN n (cutL s 10).2.1).1, (parseN n (cutL s 10).2.1).2)
      | none => ([], false)) else ([], false)
noncomputable def parseA (s : List UInt8) : List PAct × Bool := parseN s.length s
theorem cut_less {s : List UInt8} (h : (cutL s 10).2.2 = true) : (cutL s 10).2.1.length < s.length := by
  have := (cutL_parts s 10).1 h
  have h2 := congrArg List.length this
  rw [List.length_append, List.length_cons] at h2
  omega
theorem parseN_more : ∀ (n : Nat) (s : List UInt8), s.length ≤ n → parseN n s = parseN s.length s := by
  intro n
  induction n using Nat.strongRecOn with
  | _ n ih =>
    intro s hs
    cases n with
    | zero => obtain rfl := List.eq_nil_of_length_eq_zero (Nat.le_zero.1 hs); rfl
    | succ n =>
      cases s with
      | nil => simp [parseN]
      | cons c r =>
        rw [List.length_cons] at hs ⊢
        simp only [parseN]
        rw [if_neg (show ¬ (c :: r = []) by simp), if_neg (show ¬ (c :: r = []) by simp)]
        cases hc : (cutL (c :: r) 10).2.2 with
        | false => rfl
        | true =>
          have hl := cut_less hc
          rw [List.length_cons] at hl
          rw [ih n (by omega) _ (by omega), ih r.length (by omega) _ (by omega)]
theorem parseA_nil : parseA [] = ([], true) := rfl
theorem parseA_step {s : List UInt8} (h : s ≠ []) : parseA s = if (cutL s 10).2.2 = true then (match actA (cutL s 10).1 with
      | some a => (a :: (parseA (cutL s 10).2.1).1, (parseA (cutL s 10).2.1).2)
      | none => ([], false)) else ([], false) := by
  cases s with
  | nil => exact absurd rfl h
  | cons c r =>
    unfold parseA
    rw [List.length_cons]
    simp only [parseN]
    rw [if_neg (show ¬ (c :: r = []) by simp)]
    cases hc : (cutL (c :: r) 10).2.2 with
    | false => rfl
    | true =>
      have hl := cut_less hc
      rw [List.length_cons] at hl
      rw [parseN_more r.length _ (by omega)]
/-- The text of acts. -/
def printL (l : List PAct) : List UInt8 := l.flatMap (fun a => lineP a ++ [10])
theorem parse_print : ∀ (l : List PAct), (∀ a ∈ l, goodP a = true) → parseA (printL l) = (l, true)
  | [], _ => rfl
  | a :: l, h => by
    have hg := h a (by simp)
    have hc : cutL (lineP a ++ 10 :: printL l) 10 = (lineP a, printL l, true) := cutL_at (line_clean hg)
    have he : printL (a :: l) = lineP a ++ 10 :: printL l := by unfold printL; simp
    rw [he, parseA_step (by simp), hc]
    simp only [if_true]
    rw [actA_iff.2 ⟨hg, rfl⟩, parse_print l (fun x hx => h x (by simp [hx]))]
end Go.Proofs.YtdgdpkemboeaeaaDoor.H
