/- Texts as lists of bytes: cutting, splitting, joining at one byte. (Out of XTagQ and XTagS.) -/
import Derived.Lib.ItoaNum
import Derived.Lib.TrimByte
import Derived.Lib.Atoi
import Derived.Lib.Repeat
import Derived.Test.YtdgdpkemboeaeaaDoorShelf
import Derived.Shelf.Strings.SplitCore
import Derived.Test.YtdgdpkemboeaeaaDoorWMore
import Derived.Test.YtdgdpkemboeaeaaDoorPl
import Derived.Lib.Join
namespace Go.Proofs.YtdgdpkemboeaeaaDoor.H
open Go
set_option linter.unusedVariables false

theorem dec_small {u : Nat} (h : u < 10) : Lib.decDigits u = [UInt8.ofNat (48 + u)] := Lib.decDigits_one h
theorem dec_big {u : Nat} (h : ¬ u < 10) : Lib.decDigits u = Lib.decDigits (u / 10) ++ [UInt8.ofNat (48 + u % 10)] := by rw [Lib.decDigits, dif_neg h]
/-- All are digits. -/
def dgB (b : UInt8) : Bool := decide (48 ≤ b.toNat ∧ b.toNat ≤ 57)
theorem dg_mod (u : Nat) : dgB (UInt8.ofNat (48 + u % 10)) = true := by
  unfold dgB
  rw [decide_eq_true_iff, UInt8.toNat_ofNat']
  omega
theorem toNat_mod (u : Nat) : (UInt8.ofNat (48 + u % 10)).toNat = 48 + u % 10 := by rw [UInt8.toNat_ofNat']; omega
theorem dec_dg (u : Nat) : (Lib.decDigits u).all dgB = true := by
  induction u using Nat.strongRecOn with
  | _ u ih =>
    by_cases h : u < 10
    · rw [dec_small h, ← Nat.mod_eq_of_lt h, List.all_cons, dg_mod]; rfl
    · rw [dec_big h, List.all_append, ih (u / 10) (by omega), List.all_cons, dg_mod]; rfl

/-- What digits spell. -/
def valF (acc : Nat) (l : List UInt8) : Nat := l.foldl (fun a b => a * 10 + (b.toNat - 48)) acc
theorem valF_append (acc : Nat) (l m : List UInt8) : valF acc (l ++ m) = valF (valF acc l) m := by unfold valF; rw [List.foldl_append]
theorem valF_nil (acc : Nat) : valF acc [] = acc := rfl
theorem valF_cons (acc : Nat) (b : UInt8) (l : List UInt8) : valF acc (b :: l) = valF (acc * 10 + (b.toNat - 48)) l := by unfold valF; rw [List.foldl_cons]
theorem valF_snoc (acc : Nat) (l : List UInt8) (b : UInt8) : valF acc (l ++ [b]) = valF acc l * 10 + (b.toNat - 48) := by rw [valF_append, valF_cons, valF_nil]
theorem valF_dec (u : Nat) : valF 0 (Lib.decDigits u) = u := by
  induction u using Nat.strongRecOn with
  | _ u ih =>
    by_cases h : u < 10
    · rw [dec_small h]
      have := toNat_mod u
      rw [Nat.mod_eq_of_lt h] at this
      rw [valF_cons, valF_nil, this]
      omega
    · rw [dec_big h, valF_snoc, ih (u / 10) (by omega), toNat_mod]
      omega
/-- What is ahead of the first such byte, what is behind it, is there one. -/
def cutL : List UInt8 → UInt8 → List UInt8 × List UInt8 × Bool
  | [], _ => ([], [], false)
  | x :: l, c => if x = c then ([], l, true) else (x :: (cutL l c).1, (cutL l c).2.1, (cutL l c).2.2)
theorem cutL_no {l : List UInt8} {c : UInt8} (h : c ∉ l) : cutL l c = (l, [], false) := by
  induction l with
  | nil => rfl
  | cons x l ih =>
    have h1 : x ≠ c := fun e => h (by simp [e])
    have h2 := ih fun e => h (by simp [e])
    simp only [cutL, if_neg h1, h2]
theorem cutL_at {a b : List UInt8} {c : UInt8} (h : c ∉ a) : cutL (a ++ c :: b) c = (a, b, true) := by
  induction a with
  | nil => simp [cutL]
  | cons x a ih =>
    have h1 : x ≠ c := fun e => h (by simp [e])
    have h2 := ih fun e => h (by simp [e])
    simp only [List.cons_append, cutL, if_neg h1, h2]
theorem not_mem_dg {l : List UInt8} (h : l.all dgB = true) (c : UInt8) (hc : dgB c = false) : c ∉ l := by
  intro e
  rw [List.all_eq_true] at h
  have := h c e
  rw [hc] at this
  cases this
end Go.Proofs.YtdgdpkemboeaeaaDoor.H
namespace Go.Proofs.YtdgdpkemboeaeaaDoor.H
open Go.RowKit Go.Shelf Go.Proofs.YtdgdpkemboeaeaaDoorW.PrintWords Go.Proofs.YtdgdpkemboeaeaaDoorW.PrintLast Go.Proofs.YtdgdpkemboeaeaaDoorW.PrintMore

theorem one_of {b : ByteArray} {c : UInt8} (h : b.data.toList = [c]) : b = ⟨#[c]⟩ := by
  obtain ⟨⟨l⟩⟩ := b
  simp only at h
  rw [h]

-- EXT strings.IndexByte plain still
/-- What is ahead of the first such byte, what is behind it, is there one. -/
def cutB (s : ByteArray) (c : UInt8) : ByteArray × ByteArray × Bool :=
  if Lib.indexByte s.data.toList c < 0 then (s, ⟨#[]⟩, false) else (s.extract 0 (Lib.indexByte s.data.toList c).toNat, s.extract ((Lib.indexByte s.data.toList c).toNat + 1) s.size, true)

theorem ixb_cases (s : ByteArray) (c : UInt8) : Lib.indexByte s.data.toList c = -1 ∨ ∃ i : Nat, Lib.indexByte s.data.toList c = i ∧ i < s.size := by
  have hge := Lib.indexByte_ge s.data.toList c
  by_cases h : Lib.indexByte s.data.toList c = -1
  · exact .inl h
  · obtain ⟨i, hi⟩ := Int.eq_ofNat_of_zero_le (show 0 ≤ Lib.indexByte s.data.toList c by omega)
    refine .inr ⟨i, hi, ?_⟩
    have h1 := (Lib.indexByte_some hi).1
    have := (List.getElem?_eq_some_iff.1 h1).1
    simpa using this

set_option maxHeartbeats 1000000 in
theorem stringslite_Cut_one (s : ByteArray) (c : UInt8) (w : World) (hs : s.size ≤ 9223372036854775806) :
    Calls Tryd.prog 79 #[.string s, .string ⟨#[c]⟩] w fun e w' => e = .returned (.tuple #[.string (cutB s c).1, .string (cutB s c).2.1, .bool (cutB s c).2.2]) ∧ Drawn0 w w' := by
  have hcon := fun W => Tryd.stringslite_Index_one s c W
  rcases ixb_cases s c with h | ⟨i, h, hi⟩
  · have e1 : cutB s c = (s, ⟨#[]⟩, false) := by unfold cutB; rw [h]; rfl
    rw [e1]
    rw [h] at hcon
    clear h e1
    go_enter Tryd.func79, Tryd.ntmps79
    go_wp2_with (go_at_call 106; refine (hcon _).mono ?_; rintro e w' ⟨rfl, rfl⟩)
    go_ret3
    exact ⟨rfl, Drawn0.refl _⟩
  · have e1 : cutB s c = (s.extract 0 i, s.extract (i + 1) s.size, true) := by unfold cutB; rw [h, if_neg (by omega)]; rfl
    rw [e1]
    rw [h] at hcon
    have c1 : (0 : Int) ≤ ↑i := by omega
    have c2 : (↑i : Int) ≤ ↑s.size := by omega
    have c3 : (0 : Int) ≤ ↑i + 1 := by omega
    have c4 : (↑i + 1 : Int) ≤ ↑s.size := by omega
    clear h e1
    go_enter Tryd.func79, Tryd.ntmps79
    go_wp2_with (go_at_call 106; refine (hcon _).mono ?_; rintro e w' ⟨rfl, rfl⟩)
    go_quiet (fail)
    go_wp2
    go_ret3
    exact ⟨rfl, (Drawn0.refl _).step _⟩

-- EXT strings.Cut plain still
def strings_Cut.f (a0 : ByteArray) (a1 : ByteArray) : Option (ByteArray × ByteArray × Bool) := match a1.data.toList with
  | [c] => if a0.size ≤ 9223372036854775806 then some (cutB a0 c) else none
  | _ => none
theorem strings_Cut.calls (a0 : ByteArray) (a1 : ByteArray) (r1 : ByteArray) (r2 : ByteArray) (r3 : Bool) (w : World) (h : strings_Cut.f a0 a1 = some (r1, r2, r3)) :
    Calls Tryd.prog 45 #[.string a0, .string a1] w fun e w' => e = .returned (.tuple #[.string r1, .string r2, .bool r3]) ∧ Drawn0 w w' := by
  unfold strings_Cut.f at h
  split at h
  · rename_i c hc
    split at h
    · rename_i hs
      obtain rfl := one_of hc
      have hcon := stringslite_Cut_one a0 c w hs
      rw [Option.some.inj h] at hcon
      clear h
      go_enter Tryd.func45, Tryd.ntmps45
      go_wp2_with (go_at_call 79; refine hcon.mono ?_; rintro e w' ⟨rfl, hd⟩)
      go_ret3
      exact ⟨rfl, hd⟩
    · cases h
  · cases h

/-- The pieces between such bytes. -/
def splitL (s : ByteArray) (c : UInt8) : List ByteArray := Lib.splitB ⟨#[c]⟩ 0 (Lib.countB s ⟨#[c]⟩) s

theorem R_block {α : Type} (enc : α → Value) (h1 : ∀ x, (enc x).oneCell' = true) (e base g : Nat) (w : World) (xs : List α) (hb : w.heap[g]? = some (.cells (xs.map enc).toArray e (0, 0))) (hg : base ≤ g) (hm : xs.length ≤ maxLen) :
    Kd.R (Kd.scalar enc h1) e w base (fun _ => True) (.slice (some ⟨g, 0, none⟩) xs.length xs.length) xs := by
  refine ⟨fun _ _ => trivial, xs.map enc, ⟨by simp [Kd.scalar], .inr ⟨g, xs.length, _, rfl, hg, hb, Nat.le_refl _, hm, by simp [Kd.scalar], by simp only [Kd.scalar, Nat.mul_one]; rw [show xs.length = (xs.map enc).length by simp, List.take_length]⟩⟩, by simp [Kd.scalar], fun j p hj => ?_⟩
  simp only [Kd.scalar, Nat.mul_one]
  have hj' := (List.getElem?_eq_some_iff.1 hj).1
  rw [List.drop_eq_getElem_cons (by simpa using hj')]
  simp only [List.take_succ_cons, List.take_zero, List.getElem_map]
  rw [(List.getElem?_eq_some_iff.1 hj).2]

set_option maxHeartbeats 1000000 in
theorem strings_Split_one (s : ByteArray) (c : UInt8) (w : World) (hs : s.size < 4294967281) :
    Calls Tryd.prog 88 #[.string s, .string ⟨#[c]⟩] w fun e w' =>
      e = .returned (.slice (some ⟨w.heap.size, 0, none⟩) (splitL s c).length (splitL s c).length) ∧ w' = w.alloc (.cells ((splitL s c).map Value.string).toArray 9) := by
  have hle := Lib.countB_le ⟨#[c]⟩ (Nat.le_refl 1) s.size s (Nat.le_refl _)
  have hlen := Lib.splitB_all ⟨#[c]⟩ (Nat.le_refl 1) 0 _ s rfl
  have cc := Any.strings_genSplit_core Tryd.lays221 (by kernel_rfl) s ⟨#[c]⟩ 0 (-1) (Lib.countB s ⟨#[c]⟩ + 1) w hs (Nat.le_refl 1) (Nat.zero_le _)
    (fun x cs _ => (Tryd.strings_Index_one x c _).mono fun e w' ⟨he, hw⟩ => ⟨by rw [he, ← Lib.index_one], hw⟩)
    ((Tryd.strings_Count_one s c w).mono fun e w' ⟨he, hw⟩ => ⟨by rw [he]; exact congrArg (fun z : Nat => Ending.returned (Value.int .i64 z)) (Lib.count_one c s.data.toList).symm, hw⟩)
    (by decide) (by decide) (by rw [if_pos (by decide)]; omega)
  rw [Nat.add_sub_cancel, hlen] at cc
  have e2 : Lib.cellsOf (Lib.splitB ⟨#[c]⟩ 0 (Lib.countB s ⟨#[c]⟩) s) (Lib.countB s ⟨#[c]⟩ + 1) = ((Lib.splitB ⟨#[c]⟩ 0 (Lib.countB s ⟨#[c]⟩) s).map Value.string).toArray := by rw [← hlen]; exact Lib.cellsOf_full _
  rw [e2, ← hlen] at cc
  change Calls Tryd.prog 115 _ _ _ at cc
  clear e2 hlen hle
  unfold splitL
  generalize Lib.splitB ⟨#[c]⟩ 0 (Lib.countB s ⟨#[c]⟩) s = L at cc ⊢
  go_enter Tryd.func88, Tryd.ntmps88
  go_wp2_with (go_at_call 115; refine cc.mono ?_; rintro e w' ⟨rfl, rfl⟩)
  go_ret
  exact ⟨rfl, rfl⟩

-- EXT strings.Split plain making
def strings_Split.f (a0 : ByteArray) (a1 : ByteArray) : Option (List ByteArray) := match a1.data.toList with
  | [c] => if a0.size < 4294967281 then some (splitL a0 c) else none
  | _ => none
theorem strings_Split.calls (a0 : ByteArray) (a1 : ByteArray) (r : List ByteArray) (w : World) (h : strings_Split.f a0 a1 = some r) :
    Calls Tryd.prog 88 #[.string a0, .string a1] w fun e w' => ∃ v_ : Value, e = .returned v_ ∧ Kd.R Kd.string 9 w' w.heap.size (fun _ => True) v_ r ∧ Below w.heap.size w w' := by
  unfold strings_Split.f at h
  split at h
  · rename_i c hc
    split at h
    · rename_i hs
      obtain rfl := Option.some.inj h
      obtain rfl := one_of hc
      refine (strings_Split_one a0 c w hs).mono ?_
      rintro e w' ⟨rfl, rfl⟩
      have hle := Lib.countB_le ⟨#[c]⟩ (Nat.le_refl 1) a0.size a0 (Nat.le_refl _)
      have hlen : (splitL a0 c).length = _ := Lib.splitB_all ⟨#[c]⟩ (Nat.le_refl 1) 0 _ a0 rfl
      exact ⟨_, rfl, R_block Value.string (fun _ => rfl) _ _ _ _ _ (heap_alloc_new w _) (Nat.le_refl _) (by unfold maxLen; omega), (Below.refl _ _).alloc (Nat.le_refl _) _⟩
    · cases h
  · cases h
end Go.Proofs.YtdgdpkemboeaeaaDoor.H
namespace Go.Proofs.YtdgdpkemboeaeaaDoor.H
open Go.RowKit Go.Shelf Go.Proofs.YtdgdpkemboeaeaaDoorW.PrintWords Go.Proofs.YtdgdpkemboeaeaaDoorW.PrintLast Go.Proofs.YtdgdpkemboeaeaaDoorW.PrintMore
set_option linter.unusedVariables false
set_option linter.unusedSimpArgs false
/-- A string of some bytes. -/
def ba (l : List UInt8) : ByteArray := ⟨l.toArray⟩
theorem ba_data (l : List UInt8) : (ba l).data.toList = l := rfl
theorem ba_size (l : List UInt8) : (ba l).size = l.length := by simp [ba, ByteArray.size]
theorem ba_of (s : ByteArray) : ba s.data.toList = s := by cases s; rfl
theorem ba_eq {s : ByteArray} {l : List UInt8} (h : s.data.toList = l) : s = ba l := by rw [← h, ba_of]
theorem ba_tl (l : List UInt8) : (ba l).toList = l := by rw [Lib.toList_data, ba_data]

theorem ixb_at {a b : List UInt8} {c : UInt8} (h : c ∉ a) : Lib.indexByte (a ++ c :: b) c = a.length := by
  induction a with
  | nil => simp [Lib.indexByte]
  | cons x a ih =>
    have h1 : (x == c) = false := by simp; rintro rfl; exact h (by simp)
    have h2 := ih (fun z => h (by simp [z]))
    rw [List.cons_append, Lib.indexByte, h1, h2]
    rw [if_neg (by decide), if_neg (by simp)]
    simp
theorem ixb_no {a : List UInt8} {c : UInt8} (h : c ∉ a) : Lib.indexByte a c = -1 := by
  have h1 := ixb_mem a c
  have h2 := Lib.indexByte_ge a c
  have : ¬ 0 ≤ Lib.indexByte a c := fun z => h (h1.1 z)
  omega
theorem first_of {l : List UInt8} {c : UInt8} (h : c ∈ l) : ∃ a b, c ∉ a ∧ l = a ++ c :: b := by
  induction l with
  | nil => cases h
  | cons x l ih =>
    by_cases hx : x = c
    · exact ⟨[], l, by simp, by rw [hx]; rfl⟩
    · obtain ⟨a, b, ha, hb⟩ := ih (by simpa [Ne.symm hx] using h)
      exact ⟨x :: a, b, by simp [Ne.symm hx, ha], by rw [hb]; rfl⟩
theorem ex_left (s : ByteArray) (n : Nat) : s.extract 0 n = ba (s.data.toList.take n) := ba_eq (Lib.extract_from_zero s n)
theorem ex_right (s : ByteArray) (n : Nat) : s.extract n s.size = ba (s.data.toList.drop n) := ba_eq (Lib.extract_to_end s n)
theorem drop_mid (a b : List UInt8) (c : UInt8) : (a ++ c :: b).drop (a.length + 1) = b := by
  rw [List.drop_append, List.drop_of_length_le (by omega), show a.length + 1 - a.length = 1 by omega]
  rfl
theorem cut_no {a : List UInt8} {c : UInt8} (h : c ∉ a) : cutB (ba a) c = (ba a, ⟨#[]⟩, false) := by
  unfold cutB
  rw [ba_data, ixb_no h]
  rfl
theorem cut_at {a b : List UInt8} {c : UInt8} (h : c ∉ a) : cutB (ba (a ++ c :: b)) c = (ba a, ba b, true) := by
  unfold cutB
  rw [ba_data, ixb_at h, if_neg (by omega), ex_left, ex_right, ba_data, Int.toNat_natCast, drop_mid]
  simp
theorem split_no {a : List UInt8} {c : UInt8} (h : c ∉ a) : splitL (ba a) c = [ba a] := by
  unfold splitL
  refine Lib.splitB_miss _ _ _ _ ?_
  show Lib.index _ [c] = _
  rw [Lib.index_one, ba_data, ixb_no h]
theorem split_at {a b : List UInt8} {c : UInt8} (h : c ∉ a) : splitL (ba (a ++ c :: b)) c = ba a :: splitL (ba b) c := by
  have h1 : Lib.indexB (ba (a ++ c :: b)) ⟨#[c]⟩ = (a.length : Int) := by
    show Lib.index _ [c] = _
    rw [Lib.index_one, ba_data, ixb_at h]
  have h2 := Lib.countB_hit (ba (a ++ c :: b)) ⟨#[c]⟩ a.length (Nat.le_refl 1) h1
  have h3 : (ba (a ++ c :: b)).extract (a.length + (ByteArray.mk #[c]).size) (ba (a ++ c :: b)).size = ba b := by
    rw [ex_right, ba_data, show (ByteArray.mk #[c]).size = 1 from rfl, drop_mid]
  unfold splitL
  rw [h2, Nat.add_comm 1, Lib.splitB_hit _ _ _ _ _ h1, h3, ex_left, ba_data]
  simp

/-! Splitting and joining. -/
def joinC (c : UInt8) : List (List UInt8) → List UInt8
  | [] => []
  | [x] => x
  | x :: y :: r => x ++ c :: joinC c (y :: r)
theorem join_split (c : UInt8) : ∀ (n : Nat) (l : List UInt8), l.length ≤ n → joinC c ((splitL (ba l) c).map (fun p => p.data.toList)) = l ∧ splitL (ba l) c ≠ [] ∧ (∀ p ∈ splitL (ba l) c, p.size ≤ l.length) ∧ (splitL (ba l) c).length ≤ l.length + 1 := by
  intro n
  induction n with
  | zero =>
    intro l hl
    obtain rfl := List.eq_nil_of_length_eq_zero (Nat.le_zero.1 hl)
    rw [split_no (by simp)]
    simp [joinC, ba_data]
    rfl
  | succ n ih =>
    intro l hl
    by_cases h : c ∈ l
    · obtain ⟨a, b, ha, rfl⟩ := first_of h
      rw [split_at ha]
      simp only [List.length_append, List.length_cons] at hl ⊢
      obtain ⟨h1, h2, h3, h4⟩ := ih b (by omega)
      refine ⟨?_, by simp, ?_, ?_⟩
      · cases hs : splitL (ba b) c with
        | nil => exact absurd hs h2
        | cons y r =>
          rw [hs] at h1
          simp only [List.map_cons] at h1 ⊢
          rw [joinC, h1, ba_data]
      · intro p hp
        rcases List.mem_cons.1 hp with rfl | hp
        · rw [ba_size]; omega
        · have := h3 p hp; omega
      · omega
    · rw [split_no h]
      simp [joinC, ba_data, ba_size]
theorem split_join (c : UInt8) : ∀ (xs : List (List UInt8)), xs ≠ [] → (∀ x ∈ xs, c ∉ x) → splitL (ba (joinC c xs)) c = xs.map ba
  | [], h, _ => absurd rfl h
  | [x], _, h => by rw [joinC, split_no (h x (by simp))]; rfl
  | x :: y :: r, _, h => by
    rw [joinC, split_at (h x (by simp)), split_join c (y :: r) (by simp) (fun z hz => h z (by simp [hz]))]
    rfl

theorem join_C (c : UInt8) : ∀ (xs : List (List UInt8)), Lib.join xs [c] = joinC c xs
  | [] => rfl
  | [x] => Lib.join_one x [c]
  | x :: y :: r => by
    have := join_C c (y :: r)
    rw [Lib.join_cons] at this ⊢
    rw [joinC, ← this]
    show x ++ ([c] ++ y ++ Lib.joinTail [c] r) = _
    simp
/-- Cutting at a byte, on lists, is the library's. -/
theorem cutB_L (l : List UInt8) (c : UInt8) : cutB (ba l) c = (ba (cutL l c).1, ba (cutL l c).2.1, (cutL l c).2.2) := by
  by_cases h : c ∈ l
  · obtain ⟨a, b, ha, rfl⟩ := first_of h
    rw [cut_at ha, cutL_at ha]
  · rw [cut_no h, cutL_no h]
    rfl
theorem cutL_parts (l : List UInt8) (c : UInt8) : ((cutL l c).2.2 = true → l = (cutL l c).1 ++ c :: (cutL l c).2.1) ∧ ((cutL l c).2.2 = false → (cutL l c).1 = l ∧ (cutL l c).2.1 = []) ∧ c ∉ (cutL l c).1 := by
  by_cases h : c ∈ l
  · obtain ⟨a, b, ha, rfl⟩ := first_of h
    rw [cutL_at ha]
    exact ⟨fun _ => rfl, fun h => (by cases h), ha⟩
  · rw [cutL_no h]
    exact ⟨fun h => (by cases h), fun _ => ⟨rfl, rfl⟩, h⟩
end Go.Proofs.YtdgdpkemboeaeaaDoor.H


