/- fix.Read at every text. -/
import Derived.Test.YtiddemgeehcjpaaDoorFxD
import Derived.Test.YtiddemgeehcjpaaDoorFxZ
import Derived.Test.YtiddemgeehcjpaaDoorCutL
import Derived.Lib.AtoiErrMem
namespace Go.Proofs.YtiddemgeehcjpaaDoor.H
open Go.RowKit Go.Shelf Go.Proofs.YtiddemgeehcjpaaDoor.PA Go.Proofs.YtiddemgeehcjpaaDoorW.PrintWords Go.Proofs.YtiddemgeehcjpaaDoorW.PrintLast Go.Proofs.YtiddemgeehcjpaaDoorW.PrintMore
set_option linter.unusedVariables false

/-- What fix.Read comes to, once its text is cut. -/
def readR (mb : Bool) (W P : List UInt8) (dot : Bool) : Int × Int :=
  if digL 12 W && (!dot || digL 6 P) then ((if mb then -(valF 0 (W ++ P ++ List.replicate (6 - P.length) 48) : Int) else (valF 0 (W ++ P ++ List.replicate (6 - P.length) 48) : Int)), 0) else (0, 8)
theorem digL_le {m : Nat} {l : List UInt8} (h : digL m l = true) : l.all dgB = true ∧ 1 ≤ l.length ∧ l.length ≤ m := by
  unfold digL at h
  simp only [Bool.and_eq_true, decide_eq_true_eq] at h
  exact ⟨h.1.1, h.1.2, h.2⟩
theorem rep_dg (k : Nat) : (List.replicate k (48 : UInt8)).all dgB = true := by
  rw [List.all_eq_true]
  intro b hb
  rw [List.eq_of_mem_replicate hb]
  rfl
theorem bytes_below (w : World) (t : ByteArray) (e : TypeId) : Below w.heap.size w (Lib.bytesWorld w e t) := Lib.bytesWorld_below w e t

set_option maxRecDepth 1000000 in
set_option maxHeartbeats 4000000 in
theorem read_core (s t : ByteArray) (W P : List UInt8) (mb dot : Bool) (hd : dot = false → P = [])
    (hcp : ∀ w, Calls Tryd.prog 44 #[.string s, .string ⟨#[45]⟩] w fun e w' => e = .returned (.tuple #[.string t, .bool mb]) ∧ Below w.heap.size w w')
    (hcut : ∀ w, Calls Tryd.prog 45 #[.string t, .string ⟨#[46]⟩] w fun e w' => e = .returned (.tuple #[.string (ba W), .string (ba P), .bool dot]) ∧ Below w.heap.size w w')
    (hW : W.length ≤ 9223372036854775807) (hP : P.length ≤ 9223372036854775807) (w : World) :
    Calls Tryd.prog 14 #[.string s] w fun e w' => e = .returned (.tuple #[.int .i64 (readR mb W P dot).1, .int .i64 (readR mb W P dot).2]) ∧ Below w.heap.size w w' := by
  have hdW := fun w => digits_calls (ba W) 12 (by decide) (by rw [ba_size]; exact hW) w
  have hdP := fun w => digits_calls (ba P) 6 (by decide) (by rw [ba_size]; exact hP) w
  rw [ba_data] at hdW hdP
  cases h1 : digL 12 W with
  | false =>
    have hr : readR mb W P dot = (0, 8) := by unfold readR; rw [h1]; rfl
    rw [hr]
    rw [h1] at hdW
    clear hr h1 hdP hd
    go_enter Tryd.func14, Tryd.ntmps14
    go_wp2_with fail
    go_at_call 44
    refine (hcp _).mono ?_
    rintro e w1 ⟨rfl, hb⟩
    have HB1 := Aside0.mk (hb)
    clear hb
    go_wp2_with fail
    go_at_call 45
    refine (hcut _).mono ?_
    rintro e w2 ⟨rfl, hb⟩
    have HB2 := Aside0.mk (HB1.out.trans (hb.mono HB1.out.size))
    clear hb
    go_wp2_with fail
    go_at_call 46
    refine (hdW _).mono ?_
    rintro e w3 ⟨rfl, hb⟩
    have HB3 := Aside0.mk (HB2.out.trans (hb.mono HB2.out.size))
    clear hb
    go_wp2
    go_ret2
    exact ⟨rfl, HB3.out⟩
  | true =>
    cases h2 : (!dot || digL 6 P) with
    | false =>
      have hr : readR mb W P dot = (0, 8) := by unfold readR; rw [h2, Bool.and_false]; rfl
      rw [hr]
      rw [h1] at hdW
      obtain rfl : dot = true := by cases dot with
        | false => cases h2
        | true => rfl
      have h3 : digL 6 P = false := by simpa using h2
      rw [h3] at hdP
      clear hr h1 h2 h3 hd
      go_enter Tryd.func14, Tryd.ntmps14
      go_wp2_with fail
      go_at_call 44
      refine (hcp _).mono ?_
      rintro e w1 ⟨rfl, hb⟩
      have HB1 := Aside0.mk (hb)
      clear hb
      go_wp2_with fail
      go_at_call 45
      refine (hcut _).mono ?_
      rintro e w2 ⟨rfl, hb⟩
      have HB2 := Aside0.mk (HB1.out.trans (hb.mono HB1.out.size))
      clear hb
      go_wp2_with fail
      go_at_call 46
      refine (hdW _).mono ?_
      rintro e w3 ⟨rfl, hb⟩
      have HB3 := Aside0.mk (HB2.out.trans (hb.mono HB2.out.size))
      clear hb
      go_wp2_with fail
      go_at_call 46
      refine (hdP _).mono ?_
      rintro e w4 ⟨rfl, hb⟩
      have HB4 := Aside0.mk (HB3.out.trans (hb.mono HB3.out.size))
      clear hb
      go_wp2
      go_ret2
      exact ⟨rfl, HB4.out⟩
    | true =>
      have hw := digL_le h1
      have hp6 : P.all dgB = true ∧ P.length ≤ 6 := by
        cases hdot : dot with
        | false => rw [hd hdot]; exact ⟨rfl, by decide⟩
        | true => rw [hdot] at h2; have := digL_le (by simpa using h2); exact ⟨this.1, this.2.2⟩
      have hall : (W ++ P ++ List.replicate (6 - P.length) 48).all dgB = true := by rw [List.all_append, List.all_append, hw.1, hp6.1, rep_dg]; rfl
      have hlen : (W ++ P ++ List.replicate (6 - P.length) 48).length ≤ 18 := by simp; omega
      have hval := valF_lt _ 0 hall
      rw [Nat.zero_add, Nat.one_mul] at hval
      have hvb : valF 0 (W ++ P ++ List.replicate (6 - P.length) 48) ≤ 1000000000000000000 := by
        have h10 : (10 : Nat) ^ (W ++ P ++ List.replicate (6 - P.length) 48).length ≤ 10 ^ 18 := Nat.pow_le_pow_right (by decide) hlen
        exact Nat.le_trans (Nat.le_of_lt hval) (Nat.le_trans h10 (by decide))
      have hat := fun w => Tryd.strconv_Atoi (ba W ++ ba P ++ zs (6 - P.length)) (valF 0 (W ++ P ++ List.replicate (6 - P.length) 48) : Int)
        (by have : (ba W ++ ba P ++ zs (6 - P.length)) = ba (W ++ P ++ List.replicate (6 - P.length) 48) := by unfold zs ba; rw [str_app, str_app]
            rw [this, ba_size]; exact hlen)
        (by have : (ba W ++ ba P ++ zs (6 - P.length)) = ba (W ++ P ++ List.replicate (6 - P.length) 48) := by unfold zs ba; rw [str_app, str_app]
            rw [this, ba_data]; exact atoi_digits _ (by intro e; have h8 := congrArg List.length e; rw [List.length_append, List.length_append, List.length_nil] at h8; have h9 := hw.2.1; omega) hall) w
      replace hat := fun w => (hat w).mono fun e w' (h : e = _ ∧ ∃ t, w' = _) => (⟨h.1, by obtain ⟨t, ht⟩ := h.2; rw [ht]; exact bytes_below w t _⟩ : e = _ ∧ Below w.heap.size w w')
      have hrep := fun w => repeat0_calls (6 - P.length) (by omega) w
      rw [show ((6 - P.length : Nat) : Int) = 6 - ((ba P).size : Int) by rw [ba_size]; omega] at hrep
      have hr : readR mb W P dot = ((if mb then -(valF 0 (W ++ P ++ List.replicate (6 - P.length) 48) : Int) else (valF 0 (W ++ P ++ List.replicate (6 - P.length) 48) : Int)), 0) := by unfold readR; rw [h1, h2]; rfl
      rw [hr]
      rw [h1] at hdW
      have hz6 : (zs (6 - P.length)).size ≤ 6 := by unfold zs; rw [Lib.size_mk]; simp
      have hw12 : (ba W).size ≤ 12 := by rw [ba_size]; exact hw.2.2
      have hpl : (ba P).size ≤ 6 := by rw [ba_size]; exact hp6.2
      have hd0 : dot = true → digL 6 P = true := fun e => by rw [e] at h2; simpa using h2
      clear hr h1 h2 hd hw hp6 hall hlen hval
      generalize valF 0 (W ++ P ++ List.replicate (6 - P.length) 48) = v at hat hvb ⊢
      generalize zs (6 - P.length) = sZ at hat hrep hz6
      obtain ⟨sW, eW⟩ : ∃ x, ba W = x := ⟨_, rfl⟩
      obtain ⟨sP, eP⟩ : ∃ x, ba P = x := ⟨_, rfl⟩
      rw [eW] at hdW hat hw12
      rw [eP] at hdP hat hrep hpl
      rw [eW, eP] at hcut
      clear eW eP hW hP
      cases dot with
      | false =>
        clear hdP hd0
        cases mb with
        | false =>
          go_enter Tryd.func14, Tryd.ntmps14
          go_wp2_with fail
          go_at_call 44
          refine (hcp _).mono ?_
          rintro e w1 ⟨rfl, hb⟩
          have HB1 := Aside0.mk (hb)
          clear hb
          go_wp2_with fail
          go_at_call 45
          refine (hcut _).mono ?_
          rintro e w2 ⟨rfl, hb⟩
          have HB2 := Aside0.mk (HB1.out.trans (hb.mono HB1.out.size))
          clear hb
          go_wp2_with fail
          go_at_call 46
          refine (hdW _).mono ?_
          rintro e w3 ⟨rfl, hb⟩
          have HB3 := Aside0.mk (HB2.out.trans (hb.mono HB2.out.size))
          clear hb
          go_wp2_with fail
          go_at_call 48
          refine (hrep _).mono ?_
          rintro e w4 ⟨rfl, hb⟩
          have HB4 := Aside0.mk (HB3.out.trans (hb.mono HB3.out.size))
          clear hb
          go_wp2_with fail
          go_at_call 47
          refine (hat _).mono ?_
          rintro e w5 ⟨rfl, hb⟩
          have HB5 := Aside0.mk (HB4.out.trans (hb.mono HB4.out.size))
          clear hb
          go_wp2
          go_ret2
          exact ⟨rfl, HB5.out⟩
        | true =>
          go_enter Tryd.func14, Tryd.ntmps14
          go_wp2_with fail
          go_at_call 44
          refine (hcp _).mono ?_
          rintro e w1 ⟨rfl, hb⟩
          have HB1 := Aside0.mk (hb)
          clear hb
          go_wp2_with fail
          go_at_call 45
          refine (hcut _).mono ?_
          rintro e w2 ⟨rfl, hb⟩
          have HB2 := Aside0.mk (HB1.out.trans (hb.mono HB1.out.size))
          clear hb
          go_wp2_with fail
          go_at_call 46
          refine (hdW _).mono ?_
          rintro e w3 ⟨rfl, hb⟩
          have HB3 := Aside0.mk (HB2.out.trans (hb.mono HB2.out.size))
          clear hb
          go_wp2_with fail
          go_at_call 48
          refine (hrep _).mono ?_
          rintro e w4 ⟨rfl, hb⟩
          have HB4 := Aside0.mk (HB3.out.trans (hb.mono HB3.out.size))
          clear hb
          go_wp2_with fail
          go_at_call 47
          refine (hat _).mono ?_
          rintro e w5 ⟨rfl, hb⟩
          have HB5 := Aside0.mk (HB4.out.trans (hb.mono HB4.out.size))
          clear hb
          go_wp2
          go_ret2
          exact ⟨rfl, HB5.out⟩
      | true =>
        rw [hd0 rfl] at hdP
        clear hd0
        cases mb with
        | false =>
          go_enter Tryd.func14, Tryd.ntmps14
          go_wp2_with fail
          go_at_call 44
          refine (hcp _).mono ?_
          rintro e w1 ⟨rfl, hb⟩
          have HB1 := Aside0.mk (hb)
          clear hb
          go_wp2_with fail
          go_at_call 45
          refine (hcut _).mono ?_
          rintro e w2 ⟨rfl, hb⟩
          have HB2 := Aside0.mk (HB1.out.trans (hb.mono HB1.out.size))
          clear hb
          go_wp2_with fail
          go_at_call 46
          refine (hdW _).mono ?_
          rintro e w3 ⟨rfl, hb⟩
          have HB3 := Aside0.mk (HB2.out.trans (hb.mono HB2.out.size))
          clear hb
          go_wp2_with fail
          go_at_call 46
          refine (hdP _).mono ?_
          rintro e w4 ⟨rfl, hb⟩
          have HB4 := Aside0.mk (HB3.out.trans (hb.mono HB3.out.size))
          clear hb
          go_wp2_with fail
          go_at_call 48
          refine (hrep _).mono ?_
          rintro e w5 ⟨rfl, hb⟩
          have HB5 := Aside0.mk (HB4.out.trans (hb.mono HB4.out.size))
          clear hb
          go_wp2_with fail
          go_at_call 47
          refine (hat _).mono ?_
          rintro e w6 ⟨rfl, hb⟩
          have HB6 := Aside0.mk (HB5.out.trans (hb.mono HB5.out.size))
          clear hb
          go_wp2
          go_ret2
          exact ⟨rfl, HB6.out⟩
        | true =>
          go_enter Tryd.func14, Tryd.ntmps14
          go_wp2_with fail
          go_at_call 44
          refine (hcp _).mono ?_
          rintro e w1 ⟨rfl, hb⟩
          have HB1 := Aside0.mk (hb)
          clear hb
          go_wp2_with fail
          go_at_call 45
          refine (hcut _).mono ?_
          rintro e w2 ⟨rfl, hb⟩
          have HB2 := Aside0.mk (HB1.out.trans (hb.mono HB1.out.size))
          clear hb
          go_wp2_with fail
          go_at_call 46
          refine (hdW _).mono ?_
          rintro e w3 ⟨rfl, hb⟩
          have HB3 := Aside0.mk (HB2.out.trans (hb.mono HB2.out.size))
          clear hb
          go_wp2_with fail
          go_at_call 46
          refine (hdP _).mono ?_
          rintro e w4 ⟨rfl, hb⟩
          have HB4 := Aside0.mk (HB3.out.trans (hb.mono HB3.out.size))
          clear hb
          go_wp2_with fail
          go_at_call 48
          refine (hrep _).mono ?_
          rintro e w5 ⟨rfl, hb⟩
          have HB5 := Aside0.mk (HB4.out.trans (hb.mono HB4.out.size))
          clear hb
          go_wp2_with fail
          go_at_call 47
          refine (hat _).mono ?_
          rintro e w6 ⟨rfl, hb⟩
          have HB6 := Aside0.mk (HB5.out.trans (hb.mono HB5.out.size))
          clear hb
          go_wp2
          go_ret2
          exact ⟨rfl, HB6.out⟩

theorem hasPrefix1 (s : ByteArray) : stringslite_HasPrefix.f s ⟨#[45]⟩ = some (decide (s.data.toList.head? = some 45)) := by
  unfold stringslite_HasPrefix.f
  rw [show ((⟨#[45]⟩ : ByteArray).size : Int) = 1 from rfl]
  by_cases h0 : s.size = 0
  · have : s.data.toList = [] := List.eq_nil_of_length_eq_zero (by simpa using h0)
    rw [if_neg (by omega), this]
    rfl
  · rw [if_pos (by omega), if_pos (by decide), if_pos (by omega)]
    cases hl : s.data.toList with
    | nil => have h8 := congrArg List.length hl; rw [len_of] at h8; simp only [List.length_nil] at h8; omega
    | cons b r =>
      rw [show ((1 : Int).toNat) = 1 from rfl, Lib.toList_data, Lib.extract_upto, hl, Lib.toList_data]
      simp only [List.take_succ_cons, List.take_zero, List.head?_cons, Option.some.injEq]
      congr 1
      by_cases hb : b = 45
      · subst hb; rfl
      · rw [decide_eq_false hb]
        simp [hb]
theorem cutPrefix1 (s : ByteArray) (hs : s.size ≤ 140737488351232) : strings_CutPrefix.f s ⟨#[45]⟩ = some (if s.data.toList.head? = some 45 then (ba s.data.toList.tail, true) else (s, false)) := by
  unfold strings_CutPrefix.f stringslite_CutPrefix.f
  rw [hasPrefix1]
  simp only [Option.bind_some]
  by_cases h : s.data.toList.head? = some 45
  · rw [decide_eq_true h, if_pos rfl, if_pos h]
    have h0 : s.size ≠ 0 := by
      intro e
      have : s.data.toList = [] := List.eq_nil_of_length_eq_zero (by simpa using e)
      rw [this] at h
      cases h
    rw [show ((⟨#[45]⟩ : ByteArray).size : Int) = 1 from rfl, if_pos (by decide), if_pos (by omega)]
    simp only [Option.bind_some]
    rw [show ((1 : Int).toNat) = 1 from rfl, ex_right, List.drop_one]
  · rw [decide_eq_false h, if_neg (by decide), if_neg h]
    rfl
theorem cutL_len (l : List UInt8) (c : UInt8) : (cutL l c).1.length ≤ l.length ∧ (cutL l c).2.1.length ≤ l.length ∧ ((cutL l c).2.2 = false → (cutL l c).2.1 = []) := by
  by_cases h : c ∈ l
  · obtain ⟨a, b, ha, rfl⟩ := first_of h
    rw [cutL_at ha]
    simp
    omega
  · rw [cutL_no h]
    simp
theorem read_calls (s : ByteArray) (hs : s.size ≤ 140737488351232) (w : World) :
    Calls Tryd.prog 14 #[.string s] w fun e w' => e = .returned (.tuple #[.int .i64 (readL s.data.toList).1, .int .i64 (readL s.data.toList).2]) ∧ Below w.heap.size w w' := by
  have hc := cutPrefix1 s hs
  have hl : s.data.toList.length = s.size := by simp
  have key : ∀ (t : ByteArray) (mb : Bool), t.size ≤ 140737488351232 → strings_CutPrefix.f s ⟨#[45]⟩ = some (t, mb) → ∀ w, Calls Tryd.prog 14 #[.string s] w fun e w' => e = .returned (.tuple #[.int .i64 (readM mb t.data.toList).1, .int .i64 (readM mb t.data.toList).2]) ∧ Below w.heap.size w w' := by
    intro t mb ht h w
    have hlt : t.data.toList.length = t.size := by simp
    have hcl := cutL_len t.data.toList 46
    refine read_core s t (cutL t.data.toList 46).1 (cutL t.data.toList 46).2.1 mb (cutL t.data.toList 46).2.2 hcl.2.2 (fun W => (strings_CutPrefix.calls s _ t mb W h).mono fun e w' ⟨he, hw⟩ => ⟨he, drawn_below hw⟩) (fun W => ?_) (by omega) (by omega) w
    have h2 := cutB_L t 46
    have h3 : strings_Cut.f t ⟨#[46]⟩ = some (ba (cutL t.data.toList 46).1, ba (cutL t.data.toList 46).2.1, (cutL t.data.toList 46).2.2) := by
      show (if t.size ≤ 9223372036854775806 then some (cutB t 46) else none) = _
      rw [if_pos (by omega), h2]
    exact (strings_Cut.calls t _ _ _ _ W h3).mono fun e w' ⟨he, hw⟩ => ⟨he, drawn_below hw⟩
  unfold readL
  by_cases h : s.data.toList.head? = some 45
  · rw [if_pos h] at hc ⊢
    have := key _ _ (by rw [ba_size, List.length_tail]; omega) hc w
    rwa [ba_data] at this
  · rw [if_neg h] at hc ⊢
    exact key _ _ hs hc w
end Go.Proofs.YtiddemgeehcjpaaDoor.H
