/- fix.digits at every text: whether it is from one to so many digits. -/
import Derived.Test.YtiddemgeehcjpaaDoorFxS
import Derived.Test.YtiddemgeehcjpaaDoorWMore
import Derived.Laws.RangeAny
import Derived.Laws.RangeString
import Derived.LoopTactic
import Derived.Outline
namespace Go.Proofs.YtiddemgeehcjpaaDoor.H
open Go.RowKit Go.Shelf Go.Proofs.YtiddemgeehcjpaaDoorW.PrintWords Go.Proofs.YtiddemgeehcjpaaDoorW.PrintLast Go.Proofs.YtiddemgeehcjpaaDoorW.PrintMore
set_option linter.unusedVariables false

theorem iter_below (w : World) (s : ByteArray) (pos : Nat) : Below w.heap.size w (w.iter s pos) := (Below.refl _ _).alloc (Nat.le_refl _) _
theorem dg_take (s : ByteArray) (pos : Nat) (h : pos < s.size) (ha : (s.data.toList.take pos).all dgB = true) (hb : dgB s[pos] = true) : (s.data.toList.take (pos + 1)).all dgB = true := by
  rw [List.take_succ_eq_append_getElem (by simpa using h), List.all_append, ha, List.all_cons]
  have : s.data.toList[pos]'(by simpa using h) = s[pos] := rfl
  rw [this, hb]
  rfl
theorem dg_not (s : ByteArray) (most pos : Nat) (h : pos < s.size) (hb : dgB s[pos] = false) : digL most s.data.toList = false := by
  unfold digL
  have : s.data.toList.all dgB = false := by
    rw [List.all_eq_false]
    refine ⟨s[pos], ?_, by rw [hb]; decide⟩
    have : s.data.toList[pos]'(by simpa using h) = s[pos] := rfl
    rw [← this]
    exact List.getElem_mem _
  rw [this]
  rfl
theorem dg_all (s : ByteArray) (most : Nat) (ha : s.data.toList.all dgB = true) : digL most s.data.toList = (decide (1 ≤ s.size) && decide (s.size ≤ most)) := by
  unfold digL
  rw [ha]
  simp
set_option maxRecDepth 1000000 in
set_option maxHeartbeats 800000 in
theorem digits_calls (s : ByteArray) (most : Nat) (hm : most ≤ 1000) (hs : s.size ≤ 9223372036854775807) (w : World) :
    Calls Tryd.prog 46 #[.string s, .int .i64 (most : Int)] w fun e w' => e = .returned (.bool (digL most s.data.toList)) ∧ Below w.heap.size w w' := by
  go_enter Tryd.func46, Tryd.ntmps46
  go_wp2
  go_loopw [6] (fun _ wr => ∃ pos : Nat, pos ≤ s.size ∧ (s.data.toList.take pos).all dgB = true ∧ wr = w.iter s pos) (fun _ wr => s.size - wr.iterPos w.heap.size)
  case atStart => exact ⟨0, Nat.zero_le _, rfl, rfl⟩
  case round =>
    obtain ⟨pos, hp, ha, rfl⟩ := hrel
    have HA := Aside0.mk ha
    clear ha
    by_cases hlt : pos < s.size
    · by_cases h128 : (s[pos]'hlt).toNat < 128
      · have hnx : ∀ ty, (Instr.next (.pointer (some ⟨w.heap.size, 0, none⟩)) true ty).run Tryd.prog (w.iter s pos) = _ := fun ty => run_next_ascii w s pos ty hlt h128
        have hdb : dgB s[pos] = decide (48 ≤ s[pos].toNat ∧ s[pos].toNat ≤ 57) := rfl
        have HD := Aside0.mk hdb
        clear hdb
        obtain ⟨c, hc⟩ : ∃ c, (s[pos]'hlt).toNat = c := ⟨_, rfl⟩
        rw [hc] at hnx HD
        clear hc h128
        by_cases h48 : c < 48
        · go_wp2
          go_ret
          exact ⟨by rw [dg_not s most pos hlt (by rw [HD.out]; exact decide_eq_false (by omega))]; rfl, iter_below _ _ _⟩
        · by_cases h57 : 57 < c
          · go_wp2
            go_ret
            exact ⟨by rw [dg_not s most pos hlt (by rw [HD.out]; exact decide_eq_false (by omega))]; rfl, iter_below _ _ _⟩
          · go_wp2
            go_roundw
            case rel => exact ⟨pos + 1, by omega, dg_take s pos hlt HA.out (by rw [HD.out]; exact decide_eq_true (by omega)), rfl⟩
            case measure => simp; omega
      · have hnx : ∀ ty, (Instr.next (.pointer (some ⟨w.heap.size, 0, none⟩)) true ty).run Tryd.prog (w.iter s pos) = _ := fun ty => run_next_any w s pos ty hlt
        have hdb : dgB s[pos] = false := by unfold dgB; exact decide_eq_false (by omega)
        have HD := Aside0.mk hdb
        have hge := (decode_high s pos hlt (by omega)).1
        clear hdb
        obtain ⟨c, hc⟩ : ∃ c, (Utf8.decode s pos).1 = c := ⟨_, rfl⟩
        rw [hc] at hnx hge
        obtain ⟨p', hp'⟩ : ∃ c, (Utf8.decode s pos).2 = c := ⟨_, rfl⟩
        rw [hp'] at hnx
        clear hc hp'
        go_wp2
        go_ret
        exact ⟨by rw [dg_not s most pos hlt HD.out]; rfl, iter_below _ _ _⟩
    · have hnx : ∀ ty, (Instr.next (.pointer (some ⟨w.heap.size, 0, none⟩)) true ty).run Tryd.prog (w.iter s pos) = _ := fun ty => run_next_end w s pos ty hlt
      obtain rfl : pos = s.size := by omega
      have hall : s.data.toList.all dgB = true := by have := HA.out; rwa [List.take_of_length_le (by simp)] at this
      have HE := Aside0.mk (dg_all s most hall)
      clear hall
      by_cases h0 : s.size = 0
      · have he : s.toList = [] := by rw [Lib.toList_data]; apply List.eq_nil_of_length_eq_zero; simpa using h0
        have he2 : s.toList.isEmpty = true := by rw [he]; rfl
        have HI := Aside0.mk he
        have H0 := Aside0.mk h0
        clear he h0
        go_wp2
        go_ret
        exact ⟨by rw [HE.out, H0.out]; rfl, iter_below _ _ _⟩
      · have he : s.toList.isEmpty = false := by rw [Lib.toList_data]; rw [List.isEmpty_eq_false_iff]; intro e; exact h0 (by have := congrArg List.length e; simpa using this)
        go_wp2
        go_ret
        exact ⟨by rw [HE.out, decide_eq_true (show 1 ≤ s.size by omega), Bool.true_and]; simp, iter_below _ _ _⟩
end Go.Proofs.YtiddemgeehcjpaaDoor.H
