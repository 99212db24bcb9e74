/- tape.Show: a text, shown. -/
import Derived.Test.YtdgdpkemboeaeaaDoorTpB
import Derived.Test.YtdgdpkemboeaeaaDoorShelf
import Derived.Test.YtdgdpkemboeaeaaDoorWMore
import Derived.Test.YtdgdpkemboeaeaaDoorPTx
import Derived.Test.YtdgdpkemboeaeaaDoorPl
import Derived.Shelf.Strings.BuilderK
import Derived.StillTailTactics
import Derived.Deep.QuietTactic
import Derived.BigQuiet
import Derived.Lib.VarintBits
namespace Go.Proofs.YtdgdpkemboeaeaaDoor.H
open Go.RowKit Go.Shelf Go.Proofs.YtdgdpkemboeaeaaDoor.PT Go.Proofs.YtdgdpkemboeaeaaDoorW.PrintWords Go.Proofs.YtdgdpkemboeaeaaDoorW.PrintLast Go.Proofs.YtdgdpkemboeaeaaDoorW.PrintMore
set_option linter.unusedVariables false
set_option linter.unusedSimpArgs false
def plainB (c : UInt8) : Bool := decide (0x21 ≤ c.toNat) && decide (c.toNat ≤ 0x7e) && decide (c.toNat ≠ 37)
def hexd (n : Nat) : UInt8 := if n < 10 then UInt8.ofNat (48 + n) else UInt8.ofNat (87 + n)
def showC (c : UInt8) : List UInt8 := if plainB c = true then [c] else [37, hexd (c.toNat / 16), hexd (c.toNat % 16)]
def showL (l : List UInt8) : List UInt8 := l.flatMap showC
theorem showC_len (c : UInt8) : (showC c).length ≤ 3 := by unfold showC; split <;> simp
theorem showL_len (l : List UInt8) : (showL l).length ≤ 3 * l.length := by
  induction l with
  | nil => simp [showL]
  | cons c l ih =>
    unfold showL at ih ⊢
    rw [List.flatMap_cons, List.length_append, List.length_cons]
    have := showC_len c
    omega
theorem new_builder (w : World) : Lib.IsBuilder 91 5 w.heap.size w.heap.size [] (w.alloc (.cells #[.pointer none, .slice none 0 0] 91)) :=
  .inl ⟨Nat.le_refl _, .slice none 0 0, heap_alloc_new w _, ⟨rfl, .inl ⟨rfl, rfl⟩⟩, by simp [Value.ownBlock]⟩
theorem plain_calls (c : UInt8) (w : World) : Calls Tryd.prog 61 #[.int .u8 (c.toNat : Int)] w fun e w' => e = .returned (.bool (plainB c)) ∧ w' = w := by
  unfold plainB
  generalize c.toNat = n
  by_cases h1 : 33 ≤ n
  · by_cases h2 : n ≤ 126
    · by_cases h3 : n = 37
      · subst h3
        go_enter Tryd.func61, Tryd.ntmps61
        go_wp2
        go_ret
        exact ⟨by simp, rfl⟩
      · rw [decide_eq_true h1, decide_eq_true h2, decide_eq_true (show n ≠ 37 from h3)]
        go_enter Tryd.func61, Tryd.ntmps61
        go_wp2
        go_ret
        exact ⟨by simp; omega, rfl⟩
    · rw [decide_eq_false h2]
      go_enter Tryd.func61, Tryd.ntmps61
      go_wp2
      go_ret
      exact ⟨by simp, rfl⟩
  · rw [decide_eq_false h1]
    go_enter Tryd.func61, Tryd.ntmps61
    go_wp2
    go_ret
    exact ⟨by simp, rfl⟩
def hexA : ByteArray := ⟨#[48, 49, 50, 51, 52, 53, 54, 55, 56, 57, 97, 98, 99, 100, 101, 102]⟩
theorem hex_at : ∀ q : Fin 16, hexA.extract q.1 (q.1 + 1) = ⟨#[hexd q.1]⟩ := by decide +kernel
theorem hex_slice (q : Nat) (h : q ≤ 15) (W : World) : (Instr.slice 9 (.string ⟨#[48, 49, 50, 51, 52, 53, 54, 55, 56, 57, 97, 98, 99, 100, 101, 102]⟩) (some (.int .u8 (q : Int))) (some (.int .u8 ((q : Int) + 1))) none).run Tryd.prog W = .ok (.string ⟨#[hexd q]⟩) W := by
  have := run_slice_string (P := Tryd.prog) W 9 hexA .u8 .u8 (q : Int) ((q : Int) + 1) Tryd.underlying9 (by omega) (by omega) (by have : hexA.size = 16 := rfl; omega)
  rw [show ((q : Int) + 1).toNat = q + 1 by omega, Int.toNat_natCast, hex_at ⟨q, by omega⟩] at this
  exact this
theorem and_low (c : UInt8) : bits BinOp.and IntKind.u8 (c.toNat : Int) 15 = ((c.toNat % 16 : Nat) : Int) := by
  have := bits_mask .u8 8 (by decide) wraps_u8 4 (by decide) (c.toNat : Int) (by omega) (by have := c.toNat_lt; omega)
  exact this.trans (by omega)
theorem showL_snoc (l : List UInt8) (k : Nat) (h : k < l.length) : showL (l.take (k + 1)) = showL (l.take k) ++ showC l[k] := by
  unfold showL
  rw [List.take_add_one, List.getElem?_eq_getElem h, Option.toList_some, List.flatMap_append, List.flatMap_cons, List.flatMap_nil, List.append_nil]
set_option maxRecDepth 1000000 in
set_option maxHeartbeats 1600000 in
theorem show_calls (s : ByteArray) (hs : s.size ≤ 40000000000000) (w : World) :
    Calls Tryd.prog 30 #[.string s] w fun e w' => e = .returned (.string ⟨(showL s.data.toList).toArray⟩) ∧ Below w.heap.size w w' := by
  go_enter Tryd.func30, Tryd.ntmps30
  go_wp2
  have hnb := new_builder w
  have hB0 : Below w.heap.size w (w.alloc (.cells #[.pointer none, .slice none 0 0] 91)) := (Below.refl _ w).alloc (Nat.le_refl _) _
  generalize w.alloc (.cells #[.pointer none, .slice none 0 0] 91) = w1 at hnb hB0 ⊢
  go_loopw [7] (fun v wr => ∃ k : Nat, k ≤ s.size ∧ v = .int .i64 k ∧ Lib.IsBuilder 91 5 w.heap.size w.heap.size (Lib.byteCells (showL (s.data.toList.take k))) wr ∧ Below w.heap.size w wr) (fun v _ => s.size - (intOf v).toNat)
  case atStart => exact ⟨0, Nat.zero_le _, rfl, hnb, hB0⟩
  case round =>
    obtain ⟨k, hk, rfl, hb, hbe⟩ := hrel
    have HB := Aside0.mk hb
    have HE := Aside0.mk hbe
    clear hb hbe hnb hB0
    by_cases hlt : k < s.size
    · have hsn := showL_snoc s.data.toList k (by simpa using hlt)
      have hlen := showL_len (s.data.toList.take k)
      rw [List.length_take] at hlen
      have hlen' : (showL (s.data.toList.take k)).length ≤ 3 * k := by omega
      rw [show s.data.toList[k]'(by simpa using hlt) = s[k] from rfl] at hsn
      have HS := Aside0.mk hsn
      have HL := Aside0.mk hlen'
      clear hsn hlen hlen'
      obtain ⟨c, hc⟩ : ∃ c, s[k]'hlt = c := ⟨_, rfl⟩
      rw [hc] at HS
      have hpl := fun W => plain_calls c W
      cases hp : plainB c with
      | true =>
        rw [hp] at hpl
        have hsc : showC c = [c] := by unfold showC; rw [if_pos hp]
        rw [hsc] at HS
        clear hsc hp
        go_wp2_with fail
        refine (hpl _).mono ?_
        rintro e w' ⟨rfl, rfl⟩
        go_wp2_with fail
        refine (Bld.writeByte w.heap.size w.heap.size (Lib.byteCells (showL (s.data.toList.take k))) c.toNat _ HB.out (by rw [Lib.byteCells_length]; have := HL.out; omega) HE.out.size).mono ?_
        rintro e w' ⟨rfl, hb, hbe, _⟩
        have HB2 := Aside0.mk hb
        have HE2 := Aside0.mk hbe
        clear hb hbe
        go_wp2
        go_roundw
        case rel => exact ⟨k + 1, by omega, rfl, .inr (by rw [HS.out, Lib.byteCells_append]; exact ⟨HB2.out.1, HB2.out.2⟩), HE.out.trans HE2.out⟩
        case measure => show s.size - ((((k + 1 : Nat) : Int)).toNat) < s.size - (((k : Nat) : Int).toNat); omega
      | false =>
        rw [hp] at hpl
        have hsc : showC c = [37, hexd (c.toNat / 16), hexd (c.toNat % 16)] := by unfold showC; rw [if_neg (by rw [hp]; decide)]
        rw [hsc] at HS
        clear hsc hp
        go_wp2_with fail
        refine (hpl _).mono ?_
        rintro e w' ⟨rfl, rfl⟩
        go_wp2_with fail
        have h16 : c.toNat < 256 := c.toNat_lt
        obtain ⟨q, hq⟩ : ∃ q : Nat, q = c.toNat / 16 := ⟨_, rfl⟩
        have hq15 : q ≤ 15 := by omega
        have hqi : (c.toNat : Int) / 16 = (q : Int) := by omega
        have hqw : IntKind.u8.wrap ((q : Int) + 1) = (q : Int) + 1 := by unfold IntKind.wrap; simp [IntKind.signed, IntKind.bits]; omega
        have hq0 : (0 : Int) ≤ (q : Int) := by omega
        have hsq := fun W => hex_slice q hq15 W
        obtain ⟨H1, hH1⟩ : ∃ b : ByteArray, b = ⟨#[hexd q]⟩ := ⟨_, rfl⟩
        have hz1 : H1.size = 1 := by rw [hH1]; rfl
        simp only [← hH1] at hsq
        obtain ⟨r, hr⟩ : ∃ r : Nat, r = c.toNat % 16 := ⟨_, rfl⟩
        have hr15 : r ≤ 15 := by omega
        have hri := and_low c
        rw [← hr] at hri
        have hrw : IntKind.u8.wrap ((r : Int) + 1) = (r : Int) + 1 := by unfold IntKind.wrap; simp [IntKind.signed, IntKind.bits]; omega
        have hr0 : (0 : Int) ≤ (r : Int) := by omega
        have hsr := fun W => hex_slice r hr15 W
        obtain ⟨H2, hH2⟩ : ∃ b : ByteArray, b = ⟨#[hexd r]⟩ := ⟨_, rfl⟩
        have hz2 : H2.size = 1 := by rw [hH2]; rfl
        simp only [← hH2] at hsr
        have HR := Aside0.mk hr
        have HH2 := Aside0.mk hH2
        clear hr hH2
        have HQ := Aside0.mk hq
        have HH1 := Aside0.mk hH1
        clear hq h16 hH1
        go_still_tail 22, (by kernel_rfl)
        have hb1 : Lib.IsBuilder 91 5 w.heap.size w.heap.size (Lib.byteCells (showL (s.data.toList.take k))) w'.drew := HB.out
        have hbe1 : Below w.heap.size w w'.drew := below_drew1 HE.out
        change wpList _ _ _ _ _ w'.drew
        generalize w'.drew = w2 at hb1 hbe1 ⊢
        have HB1 := Aside0.mk hb1
        have HE1 := Aside0.mk hbe1
        clear hb1 hbe1
        have hcat : Lib.strCells (⟨#[37]⟩ ++ H1 ++ H2) = Lib.byteCells [37, hexd (c.toNat / 16), hexd (c.toNat % 16)] := by
          rw [HH1.out, HH2.out, ← HQ.out, ← HR.out, Lib.strCells_eq]
          simp only [ByteArray.data_append, Array.toList_append, List.cons_append, List.nil_append]
        have HC := Aside0.mk hcat
        clear hcat
        go_wp2_with fail
        refine (Bld.writeString w.heap.size w.heap.size (Lib.byteCells (showL (s.data.toList.take k))) _ w2 HB1.out (by rw [Lib.byteCells_length]; have := HL.out; simp only [ByteArray.size_append, hz1, hz2]; have : (ByteArray.mk #[37]).size = 1 := rfl; omega) HE1.out.size).mono ?_
        rintro e w3 ⟨rfl, hb, hbe, _⟩
        have HB2 := Aside0.mk hb
        have HE2 := Aside0.mk hbe
        clear hb hbe
        go_wp2
        go_roundw
        case rel => exact ⟨k + 1, by omega, rfl, .inr (by rw [HS.out, Lib.byteCells_append, ← HC.out]; exact ⟨HB2.out.1, HB2.out.2⟩), HE1.out.trans HE2.out⟩
        case measure => show s.size - ((((k + 1 : Nat) : Int)).toNat) < s.size - (((k : Nat) : Int).toNat); omega
    · obtain rfl : k = s.size := by omega
      have htk : s.data.toList.take s.size = s.data.toList := List.take_of_length_le (by simp)
      rw [htk] at HB
      clear htk
      go_wp2_with fail
      refine (Tryd.Builder_String_any w.heap.size w.heap.size _ wr HB.out HE.out.size).mono ?_
      rintro e w' ⟨rfl, hb⟩
      have HB2 := Aside0.mk hb
      clear hb
      go_wp2
      go_ret
      exact ⟨rfl, HE.out.trans HB2.out⟩
-- EXT tidemill/tape.Show plain making
def tape_Show.f (a0 : ByteArray) : Option (ByteArray) := if a0.size ≤ 40000000000000 then some ⟨(showL a0.data.toList).toArray⟩ else none
theorem tape_Show.calls (a0 : ByteArray) (r : ByteArray) (w : World) (h : tape_Show.f a0 = some r) :
    Calls Tryd.prog 30 #[.string a0] w fun e w' => e = .returned (.string r) ∧ Below w.heap.size w w' := by
  unfold tape_Show.f at h
  by_cases hs : a0.size ≤ 40000000000000
  · rw [if_pos hs] at h
    obtain rfl := Option.some.inj h
    exact show_calls a0 hs w
  · rw [if_neg hs] at h
    cases h
end Go.Proofs.YtdgdpkemboeaeaaDoor.H
