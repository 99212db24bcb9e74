/- The laws of Fix: the document's examples; FixTexts, FixReads, FixAdds: each walks to 'true'. -/
import Derived.Test.YtiddemgeehcjpaaDoorFxE
import Derived.Outline
namespace Go.Proofs.YtiddemgeehcjpaaDoor.H
open Go.RowKit Go.Shelf Go.Proofs.YtiddemgeehcjpaaDoor.PA Go.Proofs.YtiddemgeehcjpaaDoorW.PrintWords Go.Proofs.YtiddemgeehcjpaaDoorW.PrintLast Go.Proofs.YtiddemgeehcjpaaDoorW.PrintMore
set_option linter.unusedVariables false

theorem ex_text1 : fixL 1500000 = [49, 46, 53] := by
  have e1 : Lib.decDigits 1 = [49] := dec_small (by decide)
  have e2 : trim0 (lastD 6 500000) = [53] := by decide
  unfold fixL fixM
  rw [if_neg (by decide), show (1500000 : Int).natAbs / 1000000 = 1 from rfl, show (1500000 : Int).natAbs % 1000000 = 500000 from rfl, e1, if_neg (by decide), e2]
  rfl
theorem ex_text2 : fixL (-1) = [45, 48, 46, 48, 48, 48, 48, 48, 49] := by
  have e1 : Lib.decDigits 0 = [48] := dec_small (by decide)
  have e2 : trim0 (lastD 6 1) = [48, 48, 48, 48, 48, 49] := by decide
  unfold fixL fixM
  rw [if_pos (by decide), show (-1 : Int).natAbs / 1000000 = 0 from rfl, show (-1 : Int).natAbs % 1000000 = 1 from rfl, e1, if_neg (by decide), e2]
  rfl
theorem ex_read : readL [48, 49, 46, 53, 48] = (1500000, 0) := by decide
set_option maxRecDepth 100000 in
set_option maxHeartbeats 1000000 in
theorem awake_calls (w : World) (htab : Tab w) : Calls Tryd.prog 12 #[] w fun e w' => e = .returned (.bool true) ∧ Below w.heap.size w w' := by
  have h1 := fun W => read_calls ⟨#[48, 49, 46, 53, 48]⟩ (by decide) W
  rw [show (ByteArray.mk #[48, 49, 46, 53, 48]).data.toList = [48, 49, 46, 53, 48] from rfl, ex_read] at h1
  have h2 := fun W (hW : Tab W) => text_calls 1500000 (by decide) (by decide) W hW
  have h3 := fun W (hW : Tab W) => text_calls (-1) (by decide) (by decide) W hW
  rw [ex_text1] at h2
  rw [ex_text2] at h3
  have HT := Lib.hid htab
  clear htab
  go_enter Tryd.func12, Tryd.ntmps12
  go_wp2_with fail
  go_at_call 14
  refine (h1 _).mono ?_
  rintro e w1 ⟨rfl, hb⟩
  have HB1 := Aside0.mk hb
  clear hb
  go_wp2_with fail
  go_at_call 13
  refine (h2 _ (tab_below HT.out HB1.out)).mono ?_
  rintro e w2 ⟨rfl, hb⟩
  have HB2 := Aside0.mk (HB1.out.trans (hb.mono HB1.out.size))
  clear hb
  go_wp2_with fail
  go_at_call 13
  refine (h3 _ (tab_below HT.out HB2.out)).mono ?_
  rintro e w3 ⟨rfl, hb⟩
  have HB3 := Aside0.mk (HB2.out.trans (hb.mono HB2.out.size))
  clear hb
  go_wp2
  go_ret
  exact ⟨rfl, HB3.out⟩

set_option maxRecDepth 100000 in
set_option maxHeartbeats 2000000 in
theorem fixAdds_calls (a b : Int) (ha : i64 a) (hb' : i64 b) (w : World) (htab : Tab w) : Calls Tryd.prog 5 #[.int .i64 a, .int .i64 b] w fun e w' => e = .returned (.bool true) ∧ Below w.heap.size w w' := by
  have h1 := awake_calls w htab
  obtain ⟨n, o, e1, hr⟩ : ∃ n o, satA a b = (n, o) ∧ (o = true → n = 9223372036854775807 ∨ n = -9223372036854775808) ∧ (o = false → n = a + b) := by
    refine ⟨(satA a b).1, (satA a b).2, rfl, ?_⟩
    unfold satA
    split
    · simp
    · split <;> simp
  have hn : i64 n := by have := satA_i64 a b; rw [e1] at this; exact this
  have e2 : satA b a = (n, o) := by rw [satA_comm]; exact e1
  have h2 := fun W => (fix_Add.calls 1 a b n o W (by rw [fixAdd_eq 0 a b ha hb', e1])).mono fun e w' (h : e = _ ∧ Drawn0 W w') => (⟨h.1, drawn_below h.2⟩ : e = _ ∧ Below W.heap.size W w')
  have h3 := fun W => (fix_Add.calls 1 b a n o W (by rw [fixAdd_eq 0 b a hb' ha, e2])).mono fun e w' (h : e = _ ∧ Drawn0 W w') => (⟨h.1, drawn_below h.2⟩ : e = _ ∧ Below W.heap.size W w')
  have h4 := fun W => (tidemillref01_Add.calls a b n o W (by rw [refAdd_eq a b ha hb', e1])).mono fun e w' (h : e = _ ∧ Drawn0 W w') => (⟨h.1, drawn_below h.2⟩ : e = _ ∧ Below W.heap.size W w')
  have hbk : b ≠ -9223372036854775808 → o = false → ∀ W, Calls Tryd.prog 19 #[.int .i64 n, .int .i64 b] W fun e w' => e = .returned (.int .i64 a) ∧ Below W.heap.size W w' := by
    intro hb0 ho W
    have hi : i64 (-b) := by unfold i64 at hb' ⊢; omega
    have hs : satA n (-b) = (a, false) := by
      unfold satA
      unfold i64 at ha
      rw [hr.2 ho, if_neg (by omega), if_neg (by omega)]
      congr 1
      omega
    refine (tidemilllaw01_back.calls 1 n b a W ?_).mono fun e w' (h : e = _ ∧ Drawn0 W w') => ⟨h.1, drawn_below h.2⟩
    unfold tidemilllaw01_back.f
    unfold i64 at hi
    rw [wrap_in hi.1 hi.2, fixAdd_eq 0 n (-b) hn hi, hs]
    rfl
  have HR := Aside0.mk hr
  clear htab hr e1 e2
  unfold i64 at ha hb' hn
  go_enter Tryd.func5, Tryd.ntmps5
  go_wp2_with fail
  go_at_call 12
  refine h1.mono ?_
  rintro e w1 ⟨rfl, hb⟩
  have HB1 := Aside0.mk hb
  clear hb
  go_wp2_with fail
  go_at_call 17
  refine (h2 _).mono ?_
  rintro e w2 ⟨rfl, hb⟩
  have HB2 := Aside0.mk (HB1.out.trans (hb.mono HB1.out.size))
  clear hb
  go_wp2_with fail
  go_at_call 18
  refine (h4 _).mono ?_
  rintro e w3 ⟨rfl, hb⟩
  have HB3 := Aside0.mk (HB2.out.trans (hb.mono HB2.out.size))
  clear hb
  go_wp2_with fail
  go_at_call 17
  refine (h3 _).mono ?_
  rintro e w4 ⟨rfl, hb⟩
  have HB4 := Aside0.mk (HB3.out.trans (hb.mono HB3.out.size))
  clear hb h1 h2 h3 h4
  cases o with
  | true =>
    clear hbk
    rcases HR.out.1 rfl with rfl | rfl
    · go_wp2
      go_ret
      exact ⟨rfl, HB4.out⟩
    · go_wp2
      go_ret
      exact ⟨rfl, HB4.out⟩
  | false =>
    by_cases hbl : b = -9223372036854775808
    · subst hbl
      clear hbk
      go_wp2
      go_ret
      exact ⟨rfl, HB4.out⟩
    · replace hbk := hbk hbl rfl
      have hnab := HR.out.2 rfl
      clear HR
      by_cases hn0 : n = 0
      · by_cases ha0 : a = 0
        · obtain rfl : b = 0 := by omega
          subst hn0 ha0
          clear hbk hbl hnab
          go_wp2
          go_ret
          exact ⟨rfl, HB4.out⟩
        · subst hn0
          clear hnab
          go_wp2_with fail
          go_at_call 19
          refine (hbk _).mono ?_
          rintro e w5 ⟨rfl, hb⟩
          have HB5 := Aside0.mk (HB4.out.trans (hb.mono HB4.out.size))
          clear hb
          go_wp2
          go_ret
          exact ⟨rfl, HB5.out⟩
      · clear hnab
        go_wp2_with fail
        go_at_call 19
        refine (hbk _).mono ?_
        rintro e w5 ⟨rfl, hb⟩
        have HB5 := Aside0.mk (HB4.out.trans (hb.mono HB4.out.size))
        clear hb
        go_wp2
        go_ret
        exact ⟨rfl, HB5.out⟩

end Go.Proofs.YtiddemgeehcjpaaDoor.H
