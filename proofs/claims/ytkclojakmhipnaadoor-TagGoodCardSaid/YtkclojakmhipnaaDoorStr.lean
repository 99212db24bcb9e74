/- Library functions on strings, in the print's form, out of the shelf's contracts (laid in YtkclojakmhipnaaDoorShelf). -/
import Derived.Test.YtkclojakmhipnaaDoorShelf
import Derived.Shelf.Strings.SplitCore
import Derived.Test.YtkclojakmhipnaaDoorWMore
namespace Go.Proofs.YtkclojakmhipnaaDoor.H
open Go.RowKit Go.Shelf Go.Proofs.YtkclojakmhipnaaDoorW.PrintWords Go.Proofs.YtkclojakmhipnaaDoorW.PrintLast Go.Proofs.YtkclojakmhipnaaDoorW.PrintMore

theorem one_of {b : ByteArray} {c : UInt8} (h : b.data.toList = [c]) : b = ⟨#[c]⟩ := by
  obtain ⟨⟨l⟩⟩ := b
  simp only at h
  rw [h]

-- EXT strings.IndexByte plain still
def strings_IndexByte.f (a0 : ByteArray) (a1 : Int) : Option (Int) := some (Lib.indexByte a0.data.toList a1.toNat.toUInt8)
theorem strings_IndexByte.calls (a0 : ByteArray) (a1 : Int) (r : Int) (w : World) (h : strings_IndexByte.f a0 a1 = some r) :
    Calls Tryd.prog 90 #[.string a0, .int .u8 a1] w fun e w' => e = .returned (.int .i64 r) ∧ Drawn0 w w' := by
  obtain rfl := Option.some.inj h
  exact (Tryd.strings_IndexByte a0 a1 w).mono fun e w' ⟨he, hw⟩ => ⟨he, hw ▸ Drawn0.refl w⟩

-- EXT strings.Contains plain still
def strings_Contains.f (a0 : ByteArray) (a1 : ByteArray) : Option (Bool) := match a1.data.toList with
  | [c] => some (decide (0 ≤ Lib.indexByte a0.data.toList c))
  | _ => none
theorem strings_Contains.calls (a0 : ByteArray) (a1 : ByteArray) (r : Bool) (w : World) (h : strings_Contains.f a0 a1 = some r) :
    Calls Tryd.prog 89 #[.string a0, .string a1] w fun e w' => e = .returned (.bool r) ∧ Drawn0 w w' := by
  unfold strings_Contains.f at h
  split at h
  · rename_i c hc
    obtain rfl := Option.some.inj h
    obtain rfl := one_of hc
    exact (Tryd.strings_Contains_one a0 c w).mono fun e w' ⟨he, hw⟩ => ⟨he, hw ▸ Drawn0.refl w⟩
  · cases h

/-- What is ahead of the first such byte, what is behind it, is there one. -/
def cutB (s : ByteArray) (c : UInt8) : ByteArray × ByteArray × Bool :=
  if Lib.indexByte s.data.toList c < 0 then (s, ⟨#[]⟩, false) else (s.extract 0 (Lib.indexByte s.data.toList c).toNat, s.extract ((Lib.indexByte s.data.toList c).toNat + 1) s.size, true)

theorem ixb_cases (s : ByteArray) (c : UInt8) : Lib.indexByte s.data.toList c = -1 ∨ ∃ i : Nat, Lib.indexByte s.data.toList c = i ∧ i < s.size := by
  have hge := Lib.indexByte_ge s.data.toList c
  by_cases h : Lib.indexByte s.data.toList c = -1
  · exact .inl h
  · obtain ⟨i, hi⟩ := Int.eq_ofNat_of_zero_le (show 0 ≤ Lib.indexByte s.data.toList c by omega)
    refine .inr ⟨i, hi, ?_⟩
    have h1 := (Lib.indexByte_some hi).1
    have := (List.getElem?_eq_some_iff.1 h1).1
    simpa using this

set_option maxHeartbeats 1000000 in
theorem stringslite_Cut_one (s : ByteArray) (c : UInt8) (w : World) (hs : s.size ≤ 9223372036854775806) :
    Calls Tryd.prog 67 #[.string s, .string ⟨#[c]⟩] w fun e w' => e = .returned (.tuple #[.string (cutB s c).1, .string (cutB s c).2.1, .bool (cutB s c).2.2]) ∧ Drawn0 w w' := by
  have hcon := fun W => Tryd.stringslite_Index_one s c W
  rcases ixb_cases s c with h | ⟨i, h, hi⟩
  · have e1 : cutB s c = (s, ⟨#[]⟩, false) := by unfold cutB; rw [h]; rfl
    rw [e1]
    rw [h] at hcon
    clear h e1
    go_enter Tryd.func67, Tryd.ntmps67
    go_wp2_with (go_at_call 92; refine (hcon _).mono ?_; rintro e w' ⟨rfl, rfl⟩)
    go_ret3
    exact ⟨rfl, Drawn0.refl _⟩
  · have e1 : cutB s c = (s.extract 0 i, s.extract (i + 1) s.size, true) := by unfold cutB; rw [h, if_neg (by omega)]; rfl
    rw [e1]
    rw [h] at hcon
    have c1 : (0 : Int) ≤ ↑i := by omega
    have c2 : (↑i : Int) ≤ ↑s.size := by omega
    have c3 : (0 : Int) ≤ ↑i + 1 := by omega
    have c4 : (↑i + 1 : Int) ≤ ↑s.size := by omega
    clear h e1
    go_enter Tryd.func67, Tryd.ntmps67
    go_wp2_with (go_at_call 92; refine (hcon _).mono ?_; rintro e w' ⟨rfl, rfl⟩)
    go_quiet (fail)
    go_wp2
    go_ret3
    exact ⟨rfl, (Drawn0.refl _).step _⟩

-- EXT strings.Cut plain still
def strings_Cut.f (a0 : ByteArray) (a1 : ByteArray) : Option (ByteArray × ByteArray × Bool) := match a1.data.toList with
  | [c] => if a0.size ≤ 9223372036854775806 then some (cutB a0 c) else none
  | _ => none
theorem strings_Cut.calls (a0 : ByteArray) (a1 : ByteArray) (r1 : ByteArray) (r2 : ByteArray) (r3 : Bool) (w : World) (h : strings_Cut.f a0 a1 = some (r1, r2, r3)) :
    Calls Tryd.prog 42 #[.string a0, .string a1] w fun e w' => e = .returned (.tuple #[.string r1, .string r2, .bool r3]) ∧ Drawn0 w w' := by
  unfold strings_Cut.f at h
  split at h
  · rename_i c hc
    split at h
    · rename_i hs
      obtain rfl := one_of hc
      have hcon := stringslite_Cut_one a0 c w hs
      rw [Option.some.inj h] at hcon
      clear h
      go_enter Tryd.func42, Tryd.ntmps42
      go_wp2_with (go_at_call 67; refine hcon.mono ?_; rintro e w' ⟨rfl, hd⟩)
      go_ret3
      exact ⟨rfl, hd⟩
    · cases h
  · cases h

/-- The pieces between such bytes. -/
def splitL (s : ByteArray) (c : UInt8) : List ByteArray := Lib.splitB ⟨#[c]⟩ 0 (Lib.countB s ⟨#[c]⟩) s

theorem R_block {α : Type} (enc : α → Value) (h1 : ∀ x, (enc x).oneCell' = true) (e base g : Nat) (w : World) (xs : List α) (hb : w.heap[g]? = some (.cells (xs.map enc).toArray e (0, 0))) (hg : base ≤ g) (hm : xs.length ≤ maxLen) :
    Kd.R (Kd.scalar enc h1) e w base (fun _ => True) (.slice (some ⟨g, 0, none⟩) xs.length xs.length) xs := by
  refine ⟨fun _ _ => trivial, xs.map enc, ⟨by simp [Kd.scalar], .inr ⟨g, xs.length, _, rfl, hg, hb, Nat.le_refl _, hm, by simp [Kd.scalar], by simp only [Kd.scalar, Nat.mul_one]; rw [show xs.length = (xs.map enc).length by simp, List.take_length]⟩⟩, by simp [Kd.scalar], fun j p hj => ?_⟩
  simp only [Kd.scalar, Nat.mul_one]
  have hj' := (List.getElem?_eq_some_iff.1 hj).1
  rw [List.drop_eq_getElem_cons (by simpa using hj')]
  simp only [List.take_succ_cons, List.take_zero, List.getElem_map]
  rw [(List.getElem?_eq_some_iff.1 hj).2]

set_option maxHeartbeats 1000000 in
theorem strings_Split_one (s : ByteArray) (c : UInt8) (w : World) (hs : s.size < 4294967281) :
    Calls Tryd.prog 43 #[.string s, .string ⟨#[c]⟩] w fun e w' =>
      e = .returned (.slice (some ⟨w.heap.size, 0, none⟩) (splitL s c).length (splitL s c).length) ∧ w' = w.alloc (.cells ((splitL s c).map Value.string).toArray 9) := by
  have hle := Lib.countB_le ⟨#[c]⟩ (Nat.le_refl 1) s.size s (Nat.le_refl _)
  have hlen := Lib.splitB_all ⟨#[c]⟩ (Nat.le_refl 1) 0 _ s rfl
  have cc := Any.strings_genSplit_core Tryd.lays221 (by kernel_rfl) s ⟨#[c]⟩ 0 (-1) (Lib.countB s ⟨#[c]⟩ + 1) w hs (Nat.le_refl 1) (Nat.zero_le _)
    (fun x cs _ => (Tryd.strings_Index_one x c _).mono fun e w' ⟨he, hw⟩ => ⟨by rw [he, ← Lib.index_one], hw⟩)
    ((Tryd.strings_Count_one s c w).mono fun e w' ⟨he, hw⟩ => ⟨by rw [he]; exact congrArg (fun z : Nat => Ending.returned (Value.int .i64 z)) (Lib.count_one c s.data.toList).symm, hw⟩)
    (by decide) (by decide) (by rw [if_pos (by decide)]; omega)
  rw [Nat.add_sub_cancel, hlen] at cc
  have e2 : Lib.cellsOf (Lib.splitB ⟨#[c]⟩ 0 (Lib.countB s ⟨#[c]⟩) s) (Lib.countB s ⟨#[c]⟩ + 1) = ((Lib.splitB ⟨#[c]⟩ 0 (Lib.countB s ⟨#[c]⟩) s).map Value.string).toArray := by rw [← hlen]; exact Lib.cellsOf_full _
  rw [e2, ← hlen] at cc
  change Calls Tryd.prog 68 _ _ _ at cc
  clear e2 hlen hle
  unfold splitL
  generalize Lib.splitB ⟨#[c]⟩ 0 (Lib.countB s ⟨#[c]⟩) s = L at cc ⊢
  go_enter Tryd.func43, Tryd.ntmps43
  go_wp2_with (go_at_call 68; refine cc.mono ?_; rintro e w' ⟨rfl, rfl⟩)
  go_ret
  exact ⟨rfl, rfl⟩

-- EXT strings.Split plain making
def strings_Split.f (a0 : ByteArray) (a1 : ByteArray) : Option (List ByteArray) := match a1.data.toList with
  | [c] => if a0.size < 4294967281 then some (splitL a0 c) else none
  | _ => none
theorem strings_Split.calls (a0 : ByteArray) (a1 : ByteArray) (r : List ByteArray) (w : World) (h : strings_Split.f a0 a1 = some r) :
    Calls Tryd.prog 43 #[.string a0, .string a1] w fun e w' => ∃ v_ : Value, e = .returned v_ ∧ Kd.R Kd.string 9 w' w.heap.size (fun _ => True) v_ r ∧ Below w.heap.size w w' := by
  unfold strings_Split.f at h
  split at h
  · rename_i c hc
    split at h
    · rename_i hs
      obtain rfl := Option.some.inj h
      obtain rfl := one_of hc
      refine (strings_Split_one a0 c w hs).mono ?_
      rintro e w' ⟨rfl, rfl⟩
      have hle := Lib.countB_le ⟨#[c]⟩ (Nat.le_refl 1) a0.size a0 (Nat.le_refl _)
      have hlen : (splitL a0 c).length = _ := Lib.splitB_all ⟨#[c]⟩ (Nat.le_refl 1) 0 _ a0 rfl
      exact ⟨_, rfl, R_block Value.string (fun _ => rfl) _ _ _ _ _ (heap_alloc_new w _) (Nat.le_refl _) (by unfold maxLen; omega), (Below.refl _ _).alloc (Nat.le_refl _) _⟩
    · cases h
  · cases h
end Go.Proofs.YtkclojakmhipnaaDoor.H
