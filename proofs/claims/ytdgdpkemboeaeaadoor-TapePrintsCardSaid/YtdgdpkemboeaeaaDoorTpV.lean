/- What stands in the program's variables where a statement begins; strconv.ParseUint at base 16 and 8 bits, of at most two bytes. -/
import Derived.Test.YtdgdpkemboeaeaaDoorShelf
import Derived.Lib.SmallJoins
import Derived.Lib.ItoaMem
import Derived.Test.YtdgdpkemboeaeaaDoorTpU
import Derived.Lib.AtoiErrMem
namespace Go.Proofs.YtdgdpkemboeaeaaDoor.H
open Go.RowKit Go.Shelf
abbrev Tab (w : World) : Prop := Lib.TabIs Tryd.prog w "internal/strconv.uint64pow10" .u64 Lib.pow10Tab
theorem gTab : Tryd.prog.globalNamed "internal/strconv.uint64pow10" = some 1 := by kernel_rfl
theorem tab_below {w w' : World} (h : Tab w) (hb : Below w.heap.size w w') : Tab w' := Go.Joins.tab_stays gTab h hb (Nat.le_refl _)
end Go.Proofs.YtdgdpkemboeaeaaDoor.H
namespace Go.Proofs.YtdgdpkemboeaeaaDoor.H
open Go.RowKit Go.Shelf Go.Proofs.YtdgdpkemboeaeaaDoorW.PrintWords Go.Proofs.YtdgdpkemboeaeaaDoorW.PrintLast Go.Proofs.YtdgdpkemboeaeaaDoorW.PrintMore
set_option linter.unusedVariables false
set_option linter.unusedSimpArgs false
/-- The kinds' words, and what their lines tell. -/
def shapeL : List (ByteArray × Bool × Bool × Bool × Bool) := [(⟨#[]⟩, false, false, false, false), (⟨#[98, 97, 116, 99, 104]⟩, false, true, true, false), (⟨#[115, 101, 110, 100]⟩, true, false, false, false), (⟨#[98, 101, 97, 116]⟩, true, true, false, false),
  (⟨#[100, 101, 108, 105, 118, 101, 114]⟩, true, false, false, false), (⟨#[108, 111, 115, 101]⟩, true, false, false, false), (⟨#[116, 119, 105, 99, 101]⟩, true, false, false, false), (⟨#[99, 108, 111, 99, 107]⟩, false, true, false, false),
  (⟨#[115, 116, 111, 112]⟩, true, false, false, true), (⟨#[102, 117, 115, 101]⟩, true, true, false, false), (⟨#[114, 101, 116, 97, 105, 110]⟩, false, false, false, false)]
def shapeAt (k : Nat) : ByteArray × Bool × Bool × Bool × Bool := shapeL.getD k (⟨#[]⟩, false, false, false, false)
def shapeCells (s : ByteArray × Bool × Bool × Bool × Bool) : List Value := [.string s.1, .bool s.2.1, .bool s.2.2.1, .bool s.2.2.2.1, .bool s.2.2.2.2]
/-- The program's variables, as a statement's beginning has them. -/
structure Env (w : World) : Prop where
  syn : ∃ te pe, w.cell? ⟨3, 0, none⟩ = some (.iface te pe)
  ran : ∃ te pe, w.cell? ⟨4, 0, none⟩ = some (.iface te pe)
  tab : Tab w
  sh : ∀ j, j < 55 → w.cell? ⟨0, j, none⟩ = (shapeL.flatMap shapeCells)[j]?
theorem Env.below {w w' : World} (h : Env w) (hb : Below w.heap.size w w') : Env w' := by
  refine ⟨?_, ?_, tab_below h.tab hb, fun j hj => ?_⟩
  · obtain ⟨te, pe, hc⟩ := h.syn
    exact ⟨te, pe, (hb.cell (World.block_lt_of_cell? _ _ hc)).trans hc⟩
  · obtain ⟨te, pe, hc⟩ := h.ran
    exact ⟨te, pe, (hb.cell (World.block_lt_of_cell? _ _ hc)).trans hc⟩
  · have hc := h.sh j hj
    have hl : j < (shapeL.flatMap shapeCells).length := hj
    rw [List.getElem?_eq_getElem hl] at hc ⊢
    exact (hb.cell (World.block_lt_of_cell? _ _ hc)).trans hc
theorem parse_hex (t : ByteArray) (hmax : t.size ≤ 2) (w : World) :
    Calls Tryd.prog 94 #[.string t, .int .i64 16, .int .i64 8] w fun e w' => e = .returned (hexT (hexP t.data.toList)) ∧ Below w.heap.size w w' := by
  unfold hexP
  by_cases h0 : t.size = 0
  · have ht : t = ⟨#[]⟩ := by
      obtain ⟨⟨l⟩⟩ := t
      cases l with
      | nil => rfl
      | cons _ _ => simp [ByteArray.size] at h0
    subst ht
    refine (parse_empty w).mono ?_
    rintro e w' ⟨rfl, rfl⟩
    exact ⟨rfl, Below.refl _ _⟩
  · have hne : t.data.toList ≠ [] := fun h => h0 (by rw [Lib.size_eq, h]; rfl)
    rw [if_neg hne]
    refine (parse_some t h0 hmax w).mono ?_
    rintro e w' ⟨rfl, rfl⟩
    refine ⟨rfl, ?_⟩
    exact Lib.bytesWorld_below _ _ _
/-- strconv.ParseUint at a text that is a number: it, and no error. -/
theorem parse_ok (t : ByteArray) (n : Nat) (hmax : t.size ≤ 2) (h : hexP t.data.toList = some n) (w : World) :
    Calls Tryd.prog 65 #[.string t, .int .i64 16, .int .i64 8] w fun e w' => e = .returned (.tuple #[.int .u64 n, .nilIface]) ∧ Below w.heap.size w w' := by
  have hin := fun W => parse_hex t hmax W
  rw [h] at hin
  clear h
  go_enter Tryd.func65, Tryd.ntmps65
  go_wp2_with fail
  refine (hin _).mono ?_
  rintro e w' ⟨rfl, hb⟩
  have HB := Aside0.mk hb
  clear hb hin
  simp only [hexT]
  go_wp2
  go_ret2
  exact ⟨rfl, HB.out⟩
/-- strconv.ParseUint at a text that is none: 0, and an error. -/
theorem parse_bad (t : ByteArray) (hmax : t.size ≤ 2) (h : hexP t.data.toList = none) (w : World) (hE : Env w) :
    Calls Tryd.prog 65 #[.string t, .int .i64 16, .int .i64 8] w fun e w' => ∃ (T : TypeId) (v : Value), e = .returned (.tuple #[.int .u64 0, .iface T v]) ∧ Below w.heap.size w w' := by
  have hin := fun W => parse_hex t hmax W
  rw [h] at hin
  clear h
  have HE := Aside0.mk hE
  clear hE
  go_enter Tryd.func65, Tryd.ntmps65
  go_wp2_with fail
  refine (hin _).mono ?_
  rintro e w' ⟨rfl, hb⟩
  have HB := Aside0.mk hb
  clear hb hin
  simp only [hexT]
  go_wp2_with fail
  obtain ⟨te, pe, hc⟩ := (HE.out.below HB.out).syn
  refine (Tryd.strconv_toError_syntax _ t 16 8 (.iface te pe) w' (by omega) hc (.inr ⟨te, pe, rfl⟩)).mono ?_
  rintro e w2 ⟨N, rfl, _, _, hb2⟩
  have HB2 := Aside0.mk hb2
  clear hb2 hc
  go_wp2
  go_ret2
  exact ⟨_, _, rfl, HB.out.trans (HB2.out.mono HB.out.size)⟩
def strconv_ParseUint.f (s : ByteArray) (b c : Int) : Option (Int × Option Int) := if s.size ≤ 2 ∧ b = 16 ∧ c = 8 then (match hexP s.data.toList with | some n => some ((n : Int), none) | none => some (0, some 2)) else none
theorem strconv_ParseUint.ok (s : ByteArray) (b c : Int) (n : Int) (w : World) (h : strconv_ParseUint.f s b c = some (n, none)) :
    Calls Tryd.prog 65 #[.string s, .int .i64 b, .int .i64 c] w fun e w' => e = .returned (.tuple #[.int .u64 n, .nilIface]) ∧ Below w.heap.size w w' := by
  unfold strconv_ParseUint.f at h
  by_cases hc : s.size ≤ 2 ∧ b = 16 ∧ c = 8
  · rw [if_pos hc] at h
    obtain ⟨hs, rfl, rfl⟩ := hc
    cases hx : hexP s.data.toList with
    | none => rw [hx] at h; simp at h
    | some m =>
      rw [hx] at h
      obtain ⟨rfl, _⟩ := Prod.mk.inj (Option.some.inj h)
      exact parse_ok s m hs hx w
  · rw [if_neg hc] at h
    cases h
theorem strconv_ParseUint.bad (s : ByteArray) (b c : Int) (n q : Int) (w : World) (h : strconv_ParseUint.f s b c = some (n, some q)) (hE : Env w) :
    Calls Tryd.prog 65 #[.string s, .int .i64 b, .int .i64 c] w fun e w' => ∃ (T : TypeId) (v : Value), e = .returned (.tuple #[.int .u64 n, .iface T v]) ∧ Below w.heap.size w w' := by
  unfold strconv_ParseUint.f at h
  by_cases hc : s.size ≤ 2 ∧ b = 16 ∧ c = 8
  · rw [if_pos hc] at h
    obtain ⟨hs, rfl, rfl⟩ := hc
    cases hx : hexP s.data.toList with
    | some m => rw [hx] at h; simp at h
    | none =>
      rw [hx] at h
      obtain ⟨rfl, _⟩ := Prod.mk.inj (Option.some.inj h)
      exact parse_bad s hs hx w hE
  · rw [if_neg hc] at h
    cases h
end Go.Proofs.YtdgdpkemboeaeaaDoor.H

