/- The law TapePrints: its walk. -/
import Derived.Test.YtdgdpkemboeaeaaDoorTpF
import Derived.Test.YtdgdpkemboeaeaaDoorTpSm
import Derived.Test.YtdgdpkemboeaeaaDoorTpPa
namespace Go.Proofs.YtdgdpkemboeaeaaDoor.H
open Go.RowKit Go.Shelf Go.Proofs.YtdgdpkemboeaeaaDoor.PT Go.Proofs.YtdgdpkemboeaeaaDoor.PR Go.Proofs.YtdgdpkemboeaeaaDoorW.PrintWords Go.Proofs.YtdgdpkemboeaeaaDoorW.PrintLast Go.Proofs.YtdgdpkemboeaeaaDoorW.PrintMore
set_option linter.unusedVariables false
set_option linter.unusedSimpArgs false
theorem in_f (n : Int) : tidemillref26_in.f n = some (decide (0 ≤ n) && decide (n ≤ 1000000000)) := by
  unfold tidemillref26_in.f
  by_cases h : n ≥ 0
  · rw [if_pos h, decide_eq_true (show 0 ≤ n from h), Bool.true_and]
  · rw [if_neg h, decide_eq_false (show ¬ 0 ≤ n from h), Bool.false_and]
theorem word_out {k : Int} (h : k < 1 ∨ 10 < k) : tidemillref26_word.f k = some ⟨#[]⟩ := by
  unfold tidemillref26_word.f wordOf
  rw [if_pos h]
theorem good_j1 (k : Nat) (b : Bool) (a : PAct) : tidemillref26_Good.j1 (k + 1) b a.k a.i a.n a.t a.keep = some (!b && (decide (1 ≤ a.k) && decide (a.k ≤ 10) && (numB a.i (shI a.k) && numB a.n (shN a.k)))) := by
  rw [tidemillref26_Good.j1]
  cases b with
  | true => rfl
  | false =>
    rw [if_neg (by decide)]
    by_cases h : a.k < 1 ∨ 10 < a.k
    · rw [word_out h, Option.bind_some, if_pos (show (⟨#[]⟩ : ByteArray).toList = [] by rw [Lib.toList_data])]
      rcases h with h | h
      · rw [decide_eq_false (show ¬ 1 ≤ a.k by omega)]
        rfl
      · rw [decide_eq_false (show ¬ a.k ≤ 10 by omega), Bool.and_false]
        rfl
    · have h1 : 1 ≤ a.k := by omega
      have h2 : a.k ≤ 10 := by omega
      have hne : (ba (shW a.k)).toList ≠ [] := by
        rw [ba_tl]
        intro h3
        have := (shW_len h1 h2).1
        rw [h3] at this
        simp at this
      rw [word_sh h1 h2, Option.bind_some, if_neg hne, in_f, Option.bind_some, in_f, Option.bind_some, tellsI_f h1 h2, Option.bind_some, tellsN_f h1 h2, Option.bind_some, decide_eq_true h1, decide_eq_true h2]
      unfold numB
      cases hi : (decide (0 ≤ a.i) && decide (a.i ≤ 1000000000)) <;> cases hn : (decide (0 ≤ a.n) && decide (a.n ≤ 1000000000)) <;> cases shI a.k <;> cases shN a.k <;> by_cases hz : a.i = 0 <;> simp [hz] <;> rfl
theorem good_f (a : PAct) (hl : a.keep.length ≤ 1000000) (k : Nat) (hk : a.keep.length + 3 < k) : tidemillref26_Good.f k a.k a.i a.n a.t a.keep = some (goodP a) := by
  unfold tidemillref26_Good.f
  have loop : ∀ (d k i : Nat), i + d = a.keep.length → d + 2 < k → (∀ x ∈ a.keep.take i, badN x = false) → tidemillref26_Good.l0 k (a.keep.length : Int) (i : Int) a.k a.i a.n a.t a.keep = some (goodP a) := by
    intro d
    induction d with
    | zero =>
      intro k i hi hk hpre
      obtain ⟨k, rfl⟩ : ∃ m, k = m + 1 + 1 := ⟨k - 2, by omega⟩
      rw [List.take_of_length_le (by omega)] at hpre
      have hany : a.keep.any badN = false := List.any_eq_false.2 (fun x hx => by rw [hpre x hx]; decide)
      have htt : (a.t.toList != ([] : List UInt8)) = !decide (a.t.size = 0) := by
        rw [Lib.toList_data]
        cases hd : a.t.data.toList with
        | nil => rw [decide_eq_true (show a.t.size = 0 by rw [← len_of, hd]; rfl)]; rfl
        | cons x y => rw [decide_eq_false (show ¬ a.t.size = 0 by rw [← len_of, hd]; simp)]; rfl
      rw [tidemillref26_Good.l0, if_neg (by omega), htt]
      simp only [good_j1]
      unfold goodP
      rw [hany]
      by_cases hr : 1 ≤ a.k ∧ a.k ≤ 10
      · have hT := shT_f hr.1 hr.2
        have hK := shK_f hr.1 hr.2
        rw [hT, hK, decide_eq_true hr.1, decide_eq_true hr.2]
        by_cases h16 : (a.keep.length : Int) > 16
        · rw [if_pos h16, decide_eq_false (show ¬ a.keep.length = 0 by omega), decide_eq_false (show ¬ a.keep.length ≤ 16 by omega)]
          simp
        · rw [if_neg h16, decide_eq_true (show a.keep.length ≤ 16 by omega)]
          by_cases h8 : a.k = 8
          · rw [if_pos h8, if_neg (by omega), decide_eq_true h8, decide_eq_false (show ¬ a.k = 1 by omega)]
            cases decide (a.t.size = 0) <;> cases decide (a.keep.length = 0) <;> cases numB a.i (shI a.k) <;> cases numB a.n (shN a.k) <;> rfl
          · rw [if_neg h8, decide_eq_false h8]
            by_cases h0 : (a.keep.length : Int) > 0
            · rw [if_pos h0, decide_eq_false (show ¬ a.keep.length = 0 by omega)]
              simp
            · rw [if_neg h0, decide_eq_true (show a.keep.length = 0 by omega)]
              by_cases h1 : a.k = 1
              · rw [if_pos h1, decide_eq_true h1]
                cases decide (a.t.size = 0) <;> cases numB a.i (shI a.k) <;> cases numB a.n (shN a.k) <;> rfl
              · rw [if_neg h1, decide_eq_false h1]
                cases decide (a.t.size = 0) <;> cases numB a.i (shI a.k) <;> cases numB a.n (shN a.k) <;> rfl
      · have hf : (decide (1 ≤ a.k) && decide (a.k ≤ 10)) = false := by
          by_cases h1 : 1 ≤ a.k
          · rw [decide_eq_false (show ¬ a.k ≤ 10 from fun h2 => hr ⟨h1, h2⟩), Bool.and_false]
          · rw [decide_eq_false h1, Bool.false_and]
        rw [hf]
        simp
    | succ d ih =>
      intro k i hi hk hpre
      obtain ⟨k, rfl⟩ : ∃ m, k = m + 1 := ⟨k - 1, by omega⟩
      have hlt : i < a.keep.length := by omega
      have hrd : rd a.keep (i : Int) = a.keep[i] := by unfold rd; rw [Int.toNat_natCast, List.getD_eq_getElem?_getD, List.getElem?_eq_getElem hlt]; rfl
      rw [tidemillref26_Good.l0, if_pos (by omega), if_pos (by omega), if_pos (by omega), hrd, in_f, Option.bind_some]
      have hb : badN a.keep[i] = !(decide (0 ≤ a.keep[i]) && decide (a.keep[i] ≤ 1000000000)) := by unfold badN numB; rw [Bool.true_or, Bool.and_true]
      cases hv : (decide (0 ≤ a.keep[i]) && decide (a.keep[i] ≤ 1000000000)) with
      | true =>
        rw [if_pos rfl, w1 i (by omega)]
        refine ih k (i + 1) (by omega) (by omega) (fun x hx => ?_)
        rw [List.take_succ_eq_append_getElem hlt] at hx
        rcases List.mem_append.1 hx with hx | hx
        · exact hpre x hx
        · rw [List.mem_singleton.1 hx, hb, hv]
          rfl
      | false =>
        rw [if_neg (by decide)]
        have hany : a.keep.any badN = true := List.any_eq_true.2 ⟨_, List.getElem_mem hlt, by rw [hb, hv]; rfl⟩
        unfold goodP
        rw [hany, decide_eq_false (show ¬ a.keep.length = 0 by omega)]
        simp
  exact loop a.keep.length k 0 (by omega) (by omega) (by simp)
theorem join_cons (c : UInt8) : ∀ (ys : List (List UInt8)) (x : List UInt8), joinC c (x :: ys) = x ++ ys.flatMap (fun y => c :: y)
  | [], x => by simp [joinC]
  | y :: r, x => by rw [joinC, join_cons c r y, List.flatMap_cons]; simp
theorem dec_f {n : Int} (h0 : 0 ≤ n) (h1 : n ≤ 1000000000) (k : Nat) (hk : 20 < k) : tidemillref01_Decimal.f k n = some (ba (Lib.itoa n)) ∧ (Lib.itoa n).length ≤ 10 := by
  obtain ⟨u, rfl⟩ := Int.eq_ofNat_of_zero_le h0
  rw [decimal_eq _ (by unfold i64; omega) k hk, if_neg (by omega), Lib.itoa_nonneg]
  refine ⟨rfl, dec_len 9 u (by omega)⟩
theorem sp_app (acc x : List UInt8) : ba acc ++ (⟨#[32]⟩ : ByteArray) ++ ba x = ba (acc ++ 32 :: x) := by
  rw [show (⟨#[32]⟩ : ByteArray) = ba [32] from rfl, ba_app, ba_app, List.append_assoc]
  rfl
theorem sp_size (acc x : List UInt8) (h : acc.length + x.length ≤ 100000) : (ba acc).size + 1 ≤ 9223372036854775807 ∧ (ba acc ++ (⟨#[32]⟩ : ByteArray)).size + (ba x).size ≤ 9223372036854775807 := by
  rw [show (⟨#[32]⟩ : ByteArray) = ba [32] from rfl, ba_app, ba_size, ba_size, ba_size, List.length_append, List.length_singleton]
  omega
theorem line_loop (a : PAct) (ha : ∀ x ∈ a.keep, 0 ≤ x ∧ x ≤ 1000000000) (hk16 : a.keep.length ≤ 16) : ∀ (d k i : Nat) (acc : List UInt8), i + d = a.keep.length → d + 22 < k → acc.length + 20 * d ≤ 10000 →
    tidemillref26_Line.l0 k (ba acc) (a.keep.length : Int) (i : Int) a.k a.i a.n a.t a.keep = some (ba (acc ++ ((a.keep.drop i).map Lib.itoa).flatMap (fun y => 32 :: y))) := by
  intro d
  induction d with
  | zero =>
    intro k i acc hi hk hl
    obtain ⟨k, rfl⟩ : ∃ m, k = m + 1 := ⟨k - 1, by omega⟩
    rw [tidemillref26_Line.l0, if_neg (by omega), List.drop_of_length_le (by omega)]
    simp
  | succ d ih =>
    intro k i acc hi hk hl
    obtain ⟨k, rfl⟩ : ∃ m, k = m + 1 := ⟨k - 1, by omega⟩
    have hlt : i < a.keep.length := by omega
    have hrd : rd a.keep (i : Int) = a.keep[i] := by unfold rd; rw [Int.toNat_natCast, List.getD_eq_getElem?_getD, List.getElem?_eq_getElem hlt]; rfl
    have q1 : 0 ≤ (i : Int) := by omega
    have q2 : (i : Int) < (a.keep.length : Int) := by omega
    have q3 : i + 1 + d = a.keep.length := by omega
    have q4 : d + 22 < k := by omega
    have hw : wrap64 ((i : Int) + 1) = ((i + 1 : Nat) : Int) := w1 i (by omega)
    have hx := ha _ (List.getElem_mem hlt)
    obtain ⟨hd, hlen⟩ := dec_f hx.1 hx.2 k (by omega)
    have q5 : (acc ++ 32 :: Lib.itoa a.keep[i]).length + 20 * d ≤ 10000 := by rw [List.length_append, List.length_cons]; omega
    obtain ⟨z1, z2⟩ := sp_size acc (Lib.itoa a.keep[i]) (by omega)
    rw [tidemillref26_Line.l0, if_pos q2, if_pos z1, if_pos q1, if_pos q2, hrd, hd, Option.bind_some, if_pos z2, sp_app, hw, ih k (i + 1) _ q3 q4 q5, List.drop_eq_getElem_cons hlt, List.map_cons, List.flatMap_cons, List.append_assoc]
theorem line_j2 (a : PAct) (ha : ∀ x ∈ a.keep, 0 ≤ x ∧ x ≤ 1000000000) (hk16 : a.keep.length ≤ 16) (k : Nat) (hk : 1000 < k) (acc : List UInt8) (hl : acc.length ≤ 5000) :
    tidemillref26_Line.j2 k (ba acc) a.k a.i a.n a.t a.keep = some (ba (acc ++ (a.keep.map Lib.itoa).flatMap (fun y => 32 :: y))) := by
  obtain ⟨k, rfl⟩ : ∃ m, k = m + 1 := ⟨k - 1, by omega⟩
  rw [tidemillref26_Line.j2]
  exact line_loop a ha hk16 a.keep.length k 0 acc (by omega) (by omega) (by omega)
theorem line_j1 (a : PAct) (ha : ∀ x ∈ a.keep, 0 ≤ x ∧ x ≤ 1000000000) (hk16 : a.keep.length ≤ 16) (ht : a.t.size ≤ 1000) (k : Nat) (hk : 5000 < k) (acc : List UInt8) (hl : acc.length ≤ 1000) :
    tidemillref26_Line.j1 k (ba acc) a.k a.i a.n a.t a.keep = some (ba (acc ++ (restT a).flatMap (fun y => 32 :: y))) := by
  obtain ⟨k, rfl⟩ : ∃ m, k = m + 1 := ⟨k - 1, by omega⟩
  rw [tidemillref26_Line.j1, Lib.toList_data]
  unfold restT
  by_cases hz : a.t.size = 0
  · have : a.t.data.toList = [] := List.eq_nil_of_length_eq_zero (by rw [len_of]; exact hz)
    rw [if_pos this, if_pos hz, line_j2 a ha hk16 k (by omega) acc (by omega), List.nil_append]
  · have : ¬ a.t.data.toList = [] := fun h => hz (by rw [← len_of, h]; rfl)
    have hsl := showL_len a.t.data.toList
    rw [len_of] at hsl
    have hs := refShow_f a.t.data.toList (by rw [len_of]; omega) k (by rw [len_of]; omega)
    rw [ba_of] at hs
    obtain ⟨z1, z2⟩ := sp_size acc (showL a.t.data.toList) (by omega)
    rw [if_neg this, if_neg hz, if_pos z1, hs, Option.bind_some, if_pos z2, sp_app, line_j2 a ha hk16 k (by omega) _ (by rw [List.length_append, List.length_cons]; omega)]
    simp
theorem line_j0 (a : PAct) (ha : GoodP a) (ht : a.t.size ≤ 1000) (k : Nat) (hk : 5001 < k) (acc : List UInt8) (hl : acc.length ≤ 500) :
    tidemillref26_Line.j0 k (ba acc) a.k a.i a.n a.t a.keep = some (ba (acc ++ (restN a).flatMap (fun y => 32 :: y))) := by
  obtain ⟨k, rfl⟩ : ∃ m, k = m + 1 := ⟨k - 1, by omega⟩
  rw [tidemillref26_Line.j0, tellsN_f ha.k1 ha.k2, Option.bind_some]
  unfold restN
  cases shN a.k with
  | true =>
    obtain ⟨hd, hlen⟩ := dec_f ha.n0 ha.n1 k (by omega)
    obtain ⟨z1, z2⟩ := sp_size acc (Lib.itoa a.n) (by omega)
    rw [if_pos rfl, if_pos rfl, if_pos z1, hd, Option.bind_some, if_pos z2, sp_app, line_j1 a ha.ka ha.kl ht k (by omega) _ (by rw [List.length_append, List.length_cons]; omega)]
    simp
  | false =>
    rw [if_neg (by decide), if_neg (by decide), line_j1 a ha.ka ha.kl ht k (by omega) acc (by omega)]
    rfl
theorem line_f (a : PAct) (hg : goodP a = true) (ht : a.t.size ≤ 1000) (k : Nat) (hk : 5001 < k) : tidemillref26_Line.f k a.k a.i a.n a.t a.keep = some (ba (lineP a)) := by
  have ha := goodP_iff.1 hg
  unfold tidemillref26_Line.f
  rw [word_sh ha.k1 ha.k2, Option.bind_some, tellsI_f ha.k1 ha.k2, Option.bind_some]
  unfold lineP
  rw [parts_rest, join_cons]
  unfold restI
  have hw := (shW_len ha.k1 ha.k2).2
  cases shI a.k with
  | true =>
    obtain ⟨hd, hlen⟩ := dec_f ha.i0 ha.i1 k (by omega)
    obtain ⟨z1, z2⟩ := sp_size (shW a.k) (Lib.itoa a.i) (by omega)
    rw [if_pos rfl, if_pos rfl, if_pos z1, hd, Option.bind_some, if_pos z2, sp_app, line_j0 a ha ht k hk _ (by rw [List.length_append, List.length_cons]; omega)]
    simp
  | false =>
    rw [if_neg (by decide), if_neg (by decide), line_j0 a ha ht k hk _ (by omega)]
    rfl
theorem few_f (l : List S45) (hm : l.length ≤ 9223372036854775807) : ∃ b, tidemilllaw26_few.f (l.length + 2) l = some b ∧ (b = true → l.length ≤ 60 ∧ ∀ x ∈ l, x.f3.size ≤ 500 ∧ x.f4.length ≤ 40) := by
  have loop : ∀ (d k i : Nat), i + d = l.length → d < k → (∀ x ∈ l.take i, x.f3.size ≤ 500 ∧ x.f4.length ≤ 40) → ∃ b, tidemilllaw26_few.l0 k l l (l.length : Int) (i : Int) = some b ∧ (b = true → l.length ≤ 60 ∧ ∀ x ∈ l, x.f3.size ≤ 500 ∧ x.f4.length ≤ 40) := by
    intro d
    induction d with
    | zero =>
      intro k i hi hk hpre
      obtain ⟨k, rfl⟩ : ∃ m, k = m + 1 := ⟨k - 1, by omega⟩
      rw [List.take_of_length_le (by omega)] at hpre
      refine ⟨_, by rw [tidemilllaw26_few.l0, if_neg (by omega)], fun h => ⟨?_, hpre⟩⟩
      have := of_decide_eq_true h
      omega
    | succ d ih =>
      intro k i hi hk hpre
      obtain ⟨k, rfl⟩ : ∃ m, k = m + 1 := ⟨k - 1, by omega⟩
      have hlt : i < l.length := by omega
      have hrd : rd_T45 l (i : Int) = l[i] := by unfold rd_T45; rw [Int.toNat_natCast, List.getD_eq_getElem?_getD, List.getElem?_eq_getElem hlt]; rfl
      rw [tidemilllaw26_few.l0, if_pos (by omega), if_pos (by omega), if_pos (by omega), hrd]
      by_cases h5 : (l[i].f3.size : Int) > 500
      · exact ⟨false, by rw [if_pos h5], fun h => by cases h⟩
      · rw [if_neg h5]
        by_cases h4 : (l[i].f4.length : Int) > 40
        · exact ⟨false, by rw [if_pos h4], fun h => by cases h⟩
        · rw [if_neg h4, wrap_succ (n := l.length) (by omega) (by omega) hm, show (i : Int) + 1 = ((i + 1 : Nat) : Int) by omega]
          refine ih k (i + 1) (by omega) (by omega) (fun x hx => ?_)
          rw [List.take_succ_eq_append_getElem hlt] at hx
          rcases List.mem_append.1 hx with hx | hx
          · exact hpre x hx
          · rw [List.mem_singleton.1 hx]
            omega
  exact loop l.length (l.length + 2) 0 (by omega) (by omega) (by simp)
end Go.Proofs.YtdgdpkemboeaeaaDoor.H
namespace Go.Proofs.YtdgdpkemboeaeaaDoor.H
open Go.RowKit Go.Shelf Go.Proofs.YtdgdpkemboeaeaaDoor.PT Go.Proofs.YtdgdpkemboeaeaaDoorW.PrintWords Go.Proofs.YtdgdpkemboeaeaaDoorW.PrintLast Go.Proofs.YtdgdpkemboeaeaaDoorW.PrintMore
set_option linter.unusedVariables false
set_option linter.unusedSimpArgs false
abbrev RawS := Option Addr × Nat × Nat
def rawV (q : RawS) : Value := .slice q.1 q.2.1 q.2.2
theorem raw_one (q : RawS) : (rawV q).oneCell' = true := rfl
/-- The reference's act, its slice as it stands. -/
structure R46 where
  f0 : Int
  f1 : Int
  f2 : Int
  f3 : ByteArray
  f4 : RawS
def k46r : Kd R46 := Kd.iso (Kd.pair (Kd.int .i64) (Kd.pair (Kd.int .i64) (Kd.pair (Kd.int .i64) (Kd.pair Kd.string (Kd.scalar rawV raw_one))))) (fun x : R46 => (x.f0, x.f1, x.f2, x.f3, x.f4))
theorem k46r_open {w : World} {x : R46} {cs : List Value} (h : k46r.K w x cs) : cs = [.int .i64 x.f0, .int .i64 x.f1, .int .i64 x.f2, .string x.f3, rawV x.f4] := by
  obtain ⟨_, _, rfl, rfl, ⟨_, _, rfl, rfl, ⟨_, _, rfl, rfl, ⟨_, _, rfl, rfl, rfl⟩⟩⟩⟩ := h
  rfl
theorem k46r_mkM (w : World) (base : Nat) (ok : Nat → Prop) (x : R46) : k46r.M w base ok x [.int .i64 x.f0, .int .i64 x.f1, .int .i64 x.f2, .string x.f3, rawV x.f4] :=
  ⟨[.int .i64 x.f0], [.int .i64 x.f1, .int .i64 x.f2, .string x.f3, rawV x.f4], rfl, rfl, ⟨[.int .i64 x.f1], [.int .i64 x.f2, .string x.f3, rawV x.f4], rfl, rfl, ⟨[.int .i64 x.f2], [.string x.f3, rawV x.f4], rfl, rfl, ⟨[.string x.f3], [rawV x.f4], rfl, rfl, rfl⟩⟩⟩⟩
def c46 (x : S45) : S46 := ⟨x.f0, x.f1, x.f2, x.f3, x.f4⟩
theorem map_c46 (l : List S45) : (l.map c46).map p46 = l.map p45 := by rw [List.map_map]; rfl
def RelR (w : World) (x : S45) (r : R46) : Prop := r.f0 = x.f0 ∧ r.f1 = x.f1 ∧ r.f2 = x.f2 ∧ r.f3 = x.f3 ∧ r.f4.2.1 = x.f4.length ∧ x.f4.length ≤ r.f4.2.2 ∧ Kd.C (Kd.int .i64) w r.f4.1 x.f4.length x.f4
def Raws (w : World) (l : List S45) (rs : List R46) : Prop := ∀ (i : Nat) (r : R46), rs[i]? = some r → ∃ x : S45, l[i]? = some x ∧ RelR w x r
theorem Raws.snoc {w : World} {l : List S45} {rs : List R46} {r : R46} {x : S45} (h : Raws w l rs) (hx : l[rs.length]? = some x) (hr : RelR w x r) : Raws w l (rs ++ [r]) := by
  intro i q hq
  by_cases hi : i < rs.length
  · rw [List.getElem?_append_left hi] at hq
    exact h i q hq
  · rw [List.getElem?_append_right (by omega)] at hq
    have h0 : i - rs.length = 0 := by
      cases hc : i - rs.length with
      | zero => rfl
      | succ n => rw [hc] at hq; simp at hq
    rw [h0] at hq
    obtain rfl : r = q := by simpa using hq
    obtain rfl : i = rs.length := by omega
    exact ⟨x, hx, hr⟩
theorem C_conv {w w' : World} {A : Option Addr} {l : List S45} {rs : List R46} (hC : Kd.C k46r w' A rs.length rs) (hr : Raws w l rs) (hl : rs.length = l.length) (hb : Below w.heap.size w w') : Kd.C k46 w' A (l.map c46).length (l.map c46) := by
  obtain ⟨h1, h2, h3⟩ := hC
  refine ⟨rfl, by rw [List.length_map, ← hl]; exact h2, fun hp => ?_⟩
  obtain ⟨ad, e, hc⟩ := h3 (by rw [hl]; simpa using hp)
  refine ⟨ad, e, fun j p hj => ?_⟩
  obtain ⟨x, hx, rfl⟩ : ∃ x, l[j]? = some x ∧ c46 x = p := by
    rw [List.getElem?_map, Option.map_eq_some_iff] at hj
    exact hj
  have hjl := (List.getElem?_eq_some_iff.1 hx).1
  obtain ⟨r, hrj⟩ : ∃ r, rs[j]? = some r := ⟨_, List.getElem?_eq_getElem (by omega)⟩
  obtain ⟨x', hx', q0, q1, q2, q3, q4, q5, q6⟩ := hr j r hrj
  rw [hx] at hx'
  obtain rfl := Option.some.inj hx'
  obtain ⟨cs, hlen, hk, hu⟩ := hc j r hrj
  have hcs := k46r_open hk
  refine ⟨cs, hlen, ?_, hu⟩
  rw [hcs, q0, q1, q2, q3]
  have : rawV r.f4 = .slice r.f4.1 (c46 x).f4.length r.f4.2.2 := by unfold rawV; rw [q4]; rfl
  rw [this]
  exact k46_mk w' (c46 x) q5 (Kd.C_below q6 hb)
theorem infoR : (Tryd.prog.info? 46).map (fun i => (i.zero, i.size, i.bytes)) = some (some (.agg #[.int .i64 0, .int .i64 0, .int .i64 0, .string ⟨#[]⟩, .slice none 0 0]), 5, 64) := by kernel_rfl
theorem Ref_append {P : Program} {ops : Array Oper} {rest : List Oper} {o : Oper} {a : Act} {Q : Exit → Act → World → Prop} {w W : World} {v : Value} {rs : List R46} (r : R46) (hP : P = Tryd.prog) (hgd : o.guard = none) (s x : Operand)
    (ho : o.op = .call { callee := .builtin .append, args := #[s, x], argTypes := #[51, 51] }) (hs : a.eval s = v) (hx : a.eval x = .slice (some ⟨W.heap.size, 0, none⟩) 1 1)
    (hR : Kd.R k46r 46 W w.heap.size (fun _ => True) v rs) (hB : Below w.heap.size w W) (hl : rs.length ≤ 1000000)
    (h : ∀ v1 w1, Kd.R k46r 46 w1 w.heap.size (fun _ => True) v1 (rs ++ [r]) → Below w.heap.size w w1 → wpList P ops Q rest (a.put o.dst v1) w1) :
    wpList P ops Q (o :: rest) a (W.alloc (.cells #[.int .i64 r.f0, .int .i64 r.f1, .int .i64 r.f2, .string r.f3, .slice r.f4.1 r.f4.2.1 r.f4.2.2] 46)) := by
  subst hP
  refine Kd.R_append k46r (w0 := w) w.heap.size hgd s x 51 46 (.agg #[(.int .i64 0), (.int .i64 0), (.int .i64 0), (.string ⟨#[]⟩), (.slice none 0 0)]) 64 ho Tryd.underlying51 infoR rfl (by decide) (by omega) v rs r [.int .i64 r.f0, .int .i64 r.f1, .int .i64 r.f2, .string r.f3, rawV r.f4] (fun _ => True) (fun _ => False) hs hx (k46r_mkM _ _ _ r) (fun _ hk => hk.elim) (fun _ _ => trivial) hR hB hB.size (by omega) ?_
  intro v1 w1 hr hb hg hat
  exact h v1 w1 hr hb
set_option maxRecDepth 100000 in
set_option maxHeartbeats 8000000 in
theorem ref_calls (A : Option Addr) (c : Nat) (l : List S45) (hll : l.length ≤ 1000000) (w : World) (hC : Kd.C k45 w A l.length l) :
    Calls Tryd.prog 35 #[.slice A l.length c] w fun e w' => (∃ B d, e = .returned (.slice B (l.map c46).length d) ∧ (l.map c46).length ≤ d ∧ Kd.C k46 w' B (l.map c46).length (l.map c46)) ∧ Below w.heap.size w w' := by
  have HC := Aside0.mk hC
  have hmx := hC.2.1
  have hu45 := Tryd.underlying45
  have hu46 := Tryd.underlying46
  have hu51 := Tryd.underlying51
  clear hC
  go_enter Tryd.func35, Tryd.ntmps35
  go_wp2
  go_loopw [3, 8] (fun v3 v8 wr => ∃ (j : Nat) (rs : List R46), j ≤ l.length ∧ v8 = .int .i64 j ∧ rs.length = j ∧ Kd.R k46r 46 wr w.heap.size (fun _ => True) v3 rs ∧ Raws w l rs ∧ Below w.heap.size w wr) (fun _ v8 _ => l.length - (intOf v8).toNat)
  case atStart => exact ⟨0, [], Nat.zero_le _, rfl, rfl, Kd.R_nil _ _ _ _ _, fun i r h => by simp at h, Below.refl _ _⟩
  case round =>
    obtain ⟨j, rs, hj, rfl, hrl, hR, hrw, hbe⟩ := hrel
    have HR := Aside0.mk hR
    have HRW := Aside0.mk hrw
    have HBE := Aside0.mk hbe
    have HRL := Aside0.mk hrl
    clear hR hrw hbe hrl
    by_cases hlt : j < l.length
    · obtain ⟨ad, A4, c4, rfl, k0, k1, k2, k3, k4, hc4, hC4⟩ := at_T45 HC.out (j : Int) (by omega) (by omega)
      have hrd : rd_T45 l (j : Int) = l[j] := by unfold rd_T45; rw [Int.toNat_natCast, List.getD_eq_getElem?_getD, List.getElem?_eq_getElem hlt]; rfl
      rw [hrd] at k0 k1 k2 k3 k4 hc4 hC4
      simp only [Int.toNat_natCast] at k0 k1 k2 k3 k4
      have HX := Aside0.mk (show l[rs.length]? = some l[j] by rw [HRL.out]; exact List.getElem?_eq_getElem hlt)
      clear hrd
      generalize l[j] = x at k0 k1 k2 k3 k4 hc4 hC4 HX
      have HREL := Aside0.mk (show RelR w x ⟨x.f0, x.f1, x.f2, x.f3, (A4, x.f4.length, c4)⟩ from ⟨rfl, rfl, rfl, rfl, rfl, hc4, hC4⟩)
      replace k0 := (HBE.out.cell (World.block_lt_of_cell? _ _ k0)).trans k0
      replace k1 := (HBE.out.cell (World.block_lt_of_cell? _ _ k1)).trans k1
      replace k2 := (HBE.out.cell (World.block_lt_of_cell? _ _ k2)).trans k2
      replace k3 := (HBE.out.cell (World.block_lt_of_cell? _ _ k3)).trans k3
      replace k4 := (HBE.out.cell (World.block_lt_of_cell? _ _ k4)).trans k4
      have q3 : (0 : Int) ≤ (j : Int) := by omega
      have q4 : (j : Int) < (l.length : Int) := by omega
      clear hC4 hc4
      have hlr := HRL.out
      go_upto_region 5 with (fail)
      generalize hW2 : wr.alloc (.cells #[.int .i64 x.f0, .int .i64 x.f1, .int .i64 x.f2, .string x.f3, .slice A4 x.f4.length c4] 45) = W2
      have hb2 : Below wr.heap.size wr W2 := by rw [← hW2]; exact (Below.refl _ _).alloc (Nat.le_refl _) _
      have hbk : W2.heap[wr.heap.size]? = some (.cells #[.int .i64 x.f0, .int .i64 x.f1, .int .i64 x.f2, .string x.f3, .slice A4 x.f4.length c4] 45 (0, 0)) := by rw [← hW2]; exact blk_new _ _
      have HR2 := Aside0.mk (Kd.R_below HR.out hb2)
      have HB2 := Aside0.mk (HBE.out.trans (hb2.mono HBE.out.size))
      have b0 := blk_cell hbk 0
      have b1 := blk_cell hbk 1
      have b2 := blk_cell hbk 2
      have b3 := blk_cell hbk 3
      have b4 := blk_cell hbk 4
      clear hW2 hb2 hbk k0 k1 k2 k3 k4
      go_wp2_with (((with_reducible refine gate_builtin (b := .append) (xs := #[.tmp 12, .tmp 14]) rfl ?_); at_builtin; refine Ref_append ⟨x.f0, x.f1, x.f2, x.f3, (A4, x.f4.length, c4)⟩ rfl rfl (.tmp 12) (.tmp 14) rfl rfl rfl HR2.out HB2.out (by omega) ?_; intro v1 w1 hr hb; have HR1 := Aside0.mk hr; have HB1 := Aside0.mk hb; clear hr hb b0 b1 b2 b3 b4))
      go_roundw
      case rel => exact ⟨j + 1, _, by omega, by simp, by rw [List.length_append, List.length_singleton, HRL.out], HR1.out, HRW.out.snoc HX.out HREL.out, HB1.out⟩
      case measure => simp [intOf]; omega
    · obtain rfl : j = l.length := by omega
      obtain ⟨B, d, rfl, hd, hD⟩ := Kd.R_reads HR.out
      have HD := Aside0.mk (C_conv hD HRW.out HRL.out HBE.out)
      have e1 : rs.length = (l.map c46).length := by rw [HRL.out, List.length_map]
      rw [e1] at hd ⊢
      clear hD e1
      go_wp2
      exact bodyPost_ret (v := .slice B (l.map c46).length d) (by simp [results, Tryd.results35, go_sem]) rfl ⟨⟨B, d, rfl, hd, HD.out⟩, HBE.out⟩
end Go.Proofs.YtdgdpkemboeaeaaDoor.H
namespace Go.Proofs.YtdgdpkemboeaeaaDoor.H
open Go.RowKit Go.Shelf Go.Proofs.YtdgdpkemboeaeaaDoor.PT Go.Proofs.YtdgdpkemboeaeaaDoor.PR Go.Proofs.YtdgdpkemboeaeaaDoorW.PrintWords Go.Proofs.YtdgdpkemboeaeaaDoorW.PrintLast Go.Proofs.YtdgdpkemboeaeaaDoorW.PrintMore
set_option linter.unusedVariables false
set_option linter.unusedSimpArgs false
theorem line_lenT {a : PAct} (hg : goodP a = true) : (lineP a).length ≤ 3 * a.t.size + 1000 := by
  obtain ⟨h1, h2, hi0, hi1, _, hn0, hn1, _, _, hkl, hka, _⟩ := goodP_iff.1 hg
  have hw := shW_len h1 h2
  have hi : ∀ z : Int, 0 ≤ z → z ≤ 1000000000 → (Lib.itoa z).length ≤ 21 := fun z a b => Lib.itoa_length_le z (by omega) (by omega)
  have hs := showL_len a.t.data.toList
  rw [len_of] at hs
  have hk : ∀ l : List Int, (∀ x ∈ l, 0 ≤ x ∧ x ≤ 1000000000) → ((l.map Lib.itoa).map (fun x => x.length + 1)).sum ≤ 22 * l.length := by
    intro l
    induction l with
    | nil => intro _; simp
    | cons x l ih =>
      intro h
      have h3 := ih (fun y hy => h y (by simp [hy]))
      have h4 := hi x (h x (by simp)).1 (h x (by simp)).2
      rw [List.map_cons, List.map_cons, List.sum_cons, List.length_cons]
      omega
  have hkk := hk a.keep hka
  have h5 := hi a.i hi0 hi1
  have h6 := hi a.n hn0 hn1
  refine Nat.le_trans (joinC_len 32 _) ?_
  unfold partsP
  simp only [List.map_cons, List.map_append, List.sum_cons, List.sum_append]
  have e1 : ((if shI a.k = true then [Lib.itoa a.i] else []).map (fun x => x.length + 1)).sum ≤ 22 := by split <;> simp <;> omega
  have e2 : ((if shN a.k = true then [Lib.itoa a.n] else []).map (fun x => x.length + 1)).sum ≤ 22 := by split <;> simp <;> omega
  have e3 : ((if a.t.size = 0 then [] else [showL a.t.data.toList]).map (fun x => x.length + 1)).sum ≤ 3 * a.t.size + 1 := by split <;> simp <;> omega
  omega
/-- The law's loop: what is wanted so far, the first that isn't good. -/
def LoopP (L : List PAct) (j : Nat) (want : ByteArray) (bad : Int) : Prop :=
  want.size ≤ 3000 * j ∧ ((bad = -1 ∧ (∀ a ∈ L.take j, goodP a = true) ∧ want = ba (printL (L.take j))) ∨ (0 ≤ bad ∧ bad = (badAt L : Int) ∧ badAt L < L.length))
theorem LoopP.start (L : List PAct) : LoopP L 0 ⟨#[]⟩ (-1) := ⟨(show (0 : Nat) ≤ _ from Nat.zero_le _), .inl ⟨rfl, by simp, rfl⟩⟩
theorem LoopP.good {L : List PAct} {j : Nat} {want : ByteArray} {bad : Int} {a : PAct} (h : LoopP L j want bad) (ha : L[j]? = some a) (hg : goodP a = true) (ht : a.t.size ≤ 500) : LoopP L (j + 1) (want ++ (ba (lineP a) ++ ⟨#[10]⟩)) bad := by
  have hl := line_lenT hg
  refine ⟨?_, ?_⟩
  · have := h.1
    rw [ByteArray.size_append, ByteArray.size_append, ba_size, show (⟨#[10]⟩ : ByteArray).size = 1 from rfl]
    omega
  · rcases h.2 with ⟨h1, h2, h3⟩ | h1
    · refine .inl ⟨h1, fun x hx => ?_, ?_⟩
      · rw [List.take_add_one, ha] at hx
        rcases List.mem_append.1 hx with hx | hx
        · exact h2 x hx
        · simp at hx
          rw [hx]
          exact hg
      · rw [List.take_add_one, ha, h3]
        show _ = ba (printL (L.take j ++ [a]))
        rw [printL_snoc, show (⟨#[10]⟩ : ByteArray) = ba [10] from rfl, ba_app, ba_app]
    · exact .inr h1
theorem LoopP.first {L : List PAct} {j : Nat} {want : ByteArray} {bad : Int} {a : PAct} (h : LoopP L j want bad) (ha : L[j]? = some a) (hg : goodP a = false) (hb : bad < 0) : LoopP L (j + 1) want (j : Int) := by
  rcases h.2 with ⟨h1, h2, h3⟩ | h1
  · obtain ⟨hj, hja⟩ := List.getElem?_eq_some_iff.1 ha
    have := badAt_at hj h2 (by rw [hja]; exact hg)
    exact ⟨by have := h.1; omega, .inr ⟨by omega, by rw [this], by omega⟩⟩
  · omega
theorem LoopP.skip {L : List PAct} {j : Nat} {want : ByteArray} {bad : Int} (h : LoopP L j want bad) (hb : ¬ bad < 0) : LoopP L (j + 1) want bad := by
  rcases h.2 with ⟨h1, h2, h3⟩ | h1
  · omega
  · exact ⟨by have := h.1; omega, .inr h1⟩
set_option maxRecDepth 100000 in
set_option maxHeartbeats 16000000 in
theorem prints_calls (A : Option Addr) (c : Nat) (l : List S45) (hcl : l.length ≤ c) (w : World) (hE : Env w) (hC : Kd.C k45 w A l.length l) :
    Calls Tryd.prog 10 #[.slice A l.length c] w fun e w' => e = .returned (.bool true) ∧ Below w.heap.size w w' := by
  have hw := fun W (hW : Env W) => awake_calls W hW
  have HE := Aside0.mk hE
  have HC := Aside0.mk hC
  obtain ⟨b, hfew, hfb⟩ := few_f l hC.2.1
  have HF := Aside0.mk hfew
  clear hE hC hfew
  cases b with
  | false =>
    clear hfb
    go_enter Tryd.func10, Tryd.ntmps10
    go_upto_region 2 with (first
      | (go_at_call 25; refine (hw _ HE.out).mono ?_; rintro e w1 ⟨rfl, hb⟩; have HB1 := Aside0.mk hb; clear hb)
      | (go_at_call 34; refine (tidemilllaw26_few.calls _ _ _ _ _ _ (Kd.C_below HC.out HB1.out) hcl HF.out).mono ?_; rintro e w2 ⟨rfl, hb⟩; have HB2 := Aside0.mk (HB1.out.trans (hb.mono HB1.out.size)); clear hb))
    go_wp2_with (go_at_call 25; refine (hw _ (HE.out.below HB2.out)).mono ?_; rintro e w3 ⟨rfl, hb⟩; have HB3 := Aside0.mk (HB2.out.trans (hb.mono HB2.out.size)); clear hb)
    refine bodyPost_ret (v := .bool true) (by simp [results, Tryd.results10, go_sem]) rfl ⟨rfl, HB3.out⟩
  | true =>
    obtain ⟨hl60, hsz⟩ := hfb rfl
    have HS := Aside0.mk hsz
    have H60 := Aside0.mk hl60
    have hrf := fun W hC => ref_calls A c l (by omega) W hC
    have HRF := Aside0.mk hrf
    clear hfb hsz hrf
    go_enter Tryd.func10, Tryd.ntmps10
    go_upto_region 4 with (first
      | (go_at_call 25; refine (hw _ HE.out).mono ?_; rintro e w1 ⟨rfl, hb⟩; have HB1 := Aside0.mk hb; clear hb)
      | (go_at_call 34; refine (tidemilllaw26_few.calls _ _ _ _ _ _ (Kd.C_below HC.out HB1.out) hcl HF.out).mono ?_; rintro e w2 ⟨rfl, hb⟩; have HB2 := Aside0.mk (HB1.out.trans (hb.mono HB1.out.size)); clear hb))
    go_wp2_with (go_at_call 35; refine (HRF.out _ (Kd.C_below HC.out HB2.out)).mono ?_; rintro e w3 ⟨⟨B, d, rfl, hd, hD⟩, hb⟩; have HD := Aside0.mk hD; have HB3 := Aside0.mk (HB2.out.trans (hb.mono HB2.out.size)); clear hb hD)
    have hlm : (l.map c46).length = l.length := List.length_map _
    rw [hlm] at hd
    go_loopw [3, 4, 5, 25] (fun v3 v4 _ v25 wr => ∃ (j : Nat) (want : ByteArray) (bad : Int), j ≤ l.length ∧ v3 = .string want ∧ v4 = .int .i64 bad ∧ v25 = .int .i64 j ∧ LoopP (l.map p45) j want bad ∧ Below w3.heap.size w3 wr) (fun _ _ _ v _ => l.length - (intOf v).toNat)
    case atStart => exact ⟨0, _, _, Nat.zero_le _, rfl, rfl, rfl, LoopP.start _, Below.refl _ _⟩
    case round =>
      obtain ⟨j, want, bad, hj, rfl, rfl, rfl, hlp, hbe⟩ := hrel
      have HLP := Aside0.mk hlp
      have HBE := Aside0.mk hbe
      clear hlp hbe
      by_cases hlt : j < l.length
      · have hj2 : j < (l.map c46).length := by rw [List.length_map]; exact hlt
        obtain ⟨ad, A4, c4, rfl, k0, k1, k2, k3, k4, hc4, hC4⟩ := at_T45 (Kd.C_below HC.out (HB3.out.trans (HBE.out.mono HB3.out.size))) (j : Int) (by omega) (by omega)
        obtain ⟨bd, B4, d4, rfl, r0, r1, r2, r3, r4, hd4, hD4⟩ := at_T46 (Kd.C_below HD.out HBE.out) (j : Int) (by omega) (by omega)
        have hrd : rd_T45 l (j : Int) = l[j] := by unfold rd_T45; rw [Int.toNat_natCast, List.getD_eq_getElem?_getD, List.getElem?_eq_getElem hlt]; rfl
        have hrd2 : rd_T46 (l.map c46) (j : Int) = c46 l[j] := by unfold rd_T46; rw [Int.toNat_natCast, List.getD_eq_getElem?_getD, List.getElem?_map, List.getElem?_eq_getElem hlt]; rfl
        rw [hrd] at k0 k1 k2 k3 k4 hc4 hC4
        rw [hrd2] at r0 r1 r2 r3 r4 hd4 hD4
        simp only [Int.toNat_natCast] at k0 k1 k2 k3 k4 r0 r1 r2 r3 r4
        have HX := Aside0.mk (show (l.map p45)[j]? = some (p45 l[j]) by rw [List.getElem?_map, List.getElem?_eq_getElem hlt]; rfl)
        have HT := Aside0.mk (HS.out l[j] (List.getElem_mem hlt))
        clear hrd hrd2 hj2
        generalize l[j] = x at k0 k1 k2 k3 k4 hc4 hC4 r0 r1 r2 r3 r4 hd4 hD4 HX HT
        simp only [c46] at r0 r1 r2 r3 r4 hd4 hD4
        have HC4 := Aside0.mk hC4
        have HD4 := Aside0.mk hD4
        have q3 : (0 : Int) ≤ (j : Int) := by omega
        have q4 : (j : Int) < (l.length : Int) := by omega
        have hu45 := Tryd.underlying45
        have hu46 := Tryd.underlying46
        have HGF := Aside0.mk (good_f (p45 x) (by show x.f4.length ≤ 1000000; have := HT.out.2; omega) (x.f4.length + 4) (by show x.f4.length + 3 < _; omega))
        have hg := fun W hW hC => good_calls (p45 x) A4 c4 W hW hC
        have HG := Aside0.mk hg
        have HSZ := Aside0.mk HLP.out.1
        clear hC4 hD4 hg
        go_upto_region 7 with (fail)
        generalize hW3 : wr.alloc (.cells #[.int .i64 x.f0, .int .i64 x.f1, .int .i64 x.f2, .string x.f3, .slice B4 x.f4.length d4] 46) = W3
        have hb3 : Below wr.heap.size wr W3 := by rw [← hW3]; exact (Below.refl _ _).alloc (Nat.le_refl _) _
        have HBX := Aside0.mk (show W3.heap[wr.heap.size]? = some (.cells #[.int .i64 x.f0, .int .i64 x.f1, .int .i64 x.f2, .string x.f3, .slice B4 x.f4.length d4] 46 (0, 0)) by rw [← hW3]; exact blk_new _ _)
        have HBB3 := Aside0.mk hb3
        replace k0 := (hb3.cell (World.block_lt_of_cell? _ _ k0)).trans k0
        replace k1 := (hb3.cell (World.block_lt_of_cell? _ _ k1)).trans k1
        replace k2 := (hb3.cell (World.block_lt_of_cell? _ _ k2)).trans k2
        replace k3 := (hb3.cell (World.block_lt_of_cell? _ _ k3)).trans k3
        replace k4 := (hb3.cell (World.block_lt_of_cell? _ _ k4)).trans k4
        clear r0 r1 r2 r3 r4 hW3 hb3
        have b0 := blk_cell HBX.out 0
        have b1 := blk_cell HBX.out 1
        have b2 := blk_cell HBX.out 2
        have b3 := blk_cell HBX.out 3
        have b4 := blk_cell HBX.out 4
        go_upto_region 8 with (go_at_call 36; refine (tidemillref26_Good.calls _ _ _ _ _ _ _ _ _ _ (Kd.C_below HD4.out HBB3.out) hd4 HGF.out).mono ?_; rintro e w4 ⟨rfl, hb⟩; have HB4 := Aside0.mk (HBB3.out.trans (hb.mono HBB3.out.size)); have HBX4 := Aside0.mk (blk_below HBX.out hb); replace k0 := (hb.cell (World.block_lt_of_cell? _ _ k0)).trans k0; replace k1 := (hb.cell (World.block_lt_of_cell? _ _ k1)).trans k1; replace k2 := (hb.cell (World.block_lt_of_cell? _ _ k2)).trans k2; replace k3 := (hb.cell (World.block_lt_of_cell? _ _ k3)).trans k3; replace k4 := (hb.cell (World.block_lt_of_cell? _ _ k4)).trans k4; clear hb b0 b1 b2 b3 b4)
        go_upto_region 10 with (go_at_call 37; refine (show Calls _ _ _ _ _ from HG.out w4 (HE.out.below (HB3.out.trans ((HBE.out.trans (HB4.out.mono HBE.out.size)).mono HB3.out.size))) (Kd.C_below HC4.out HB4.out)).mono ?_; rintro e w5 ⟨rfl, hb⟩; have HB5 := Aside0.mk (HB4.out.trans (hb.mono HB4.out.size)); have HBX5 := Aside0.mk (blk_below HBX4.out hb); clear hb k0 k1 k2 k3 k4)
        obtain ⟨g, hg⟩ : ∃ g, goodP (p45 x) = g := ⟨_, rfl⟩
        rw [hg]
        have HBN := Aside0.mk (HBE.out.trans (HB5.out.mono HBE.out.size))
        cases g with
        | true =>
          have hln := line_f (p45 x) hg (by show x.f3.size ≤ 1000; have := HT.out.1; omega) 6000 (by omega)
          have hll := line_lenT hg
          have hlp := HLP.out.good HX.out hg (by show x.f3.size ≤ 500; exact HT.out.1)
          have hz : (ba (lineP (p45 x))).size ≤ 2500 := by rw [ba_size]; have := HT.out.1; have : (p45 x).t.size = x.f3.size := rfl; omega
          have HLN := Aside0.mk hln
          have HLP2 := Aside0.mk hlp
          clear hln hll hlp hg
          generalize ba (lineP (p45 x)) = LB at hz HLN HLP2
          have z1 : (LB ++ (⟨#[10]⟩ : ByteArray)).size ≤ 2501 := by rw [ByteArray.size_append, show (⟨#[10]⟩ : ByteArray).size = 1 from rfl]; omega
          have z2 : (want ++ (LB ++ (⟨#[10]⟩ : ByteArray))).size ≤ 200000 := by rw [ByteArray.size_append]; have := HSZ.out; have := H60.out; omega
          have z3 : want.size + (LB ++ (⟨#[10]⟩ : ByteArray)).size ≤ 200000 := by rw [← ByteArray.size_append]; exact z2
          have z4 : want.size + (LB.size + 1) ≤ 200000 := by have := HSZ.out; have := H60.out; omega
          have z5 : ¬ 9223372036854775807 < want.size + (LB.size + 1) := by omega
          have z6 : ¬ 9223372036854775807 < want.size + (LB ++ (⟨#[10]⟩ : ByteArray)).size := by omega
          have b0 := blk_cell HBX5.out 0
          have b1 := blk_cell HBX5.out 1
          have b2 := blk_cell HBX5.out 2
          have b3 := blk_cell HBX5.out 3
          have b4 := blk_cell HBX5.out 4
          go_wp2_with (go_at_call 38; refine (tidemillref26_Line.calls _ _ _ _ _ _ _ _ _ _ (Kd.C_below HD4.out HB5.out) hd4 HLN.out).mono ?_; rintro e w6 ⟨rfl, hb⟩; have HB6 := Aside0.mk (HBN.out.trans (hb.mono HBN.out.size)); clear hb b0 b1 b2 b3 b4)
          go_roundw
          case rel => exact ⟨j + 1, _, _, by omega, rfl, rfl, by simp, HLP2.out, HB6.out⟩
          case measure => simp [intOf]; omega
        | false =>
          by_cases hbad : bad < 0
          · have hlp := Aside0.mk (HLP.out.first HX.out hg hbad)
            clear hg
            go_wp2
            go_roundw
            case rel => exact ⟨j + 1, _, _, by omega, rfl, rfl, by simp, hlp.out, HBN.out⟩
            case measure => simp [intOf]; omega
          · have hlp := Aside0.mk (HLP.out.skip hbad)
            have hbd : decide (bad < 0) = false := decide_eq_false hbad
            clear hg hbad
            go_wp2
            exact ⟨⟨j + 1, want, bad, by omega, rfl, rfl, by simp, hlp.out, HBN.out⟩, by simp [intOf]; omega⟩
      · obtain rfl : j = l.length := by omega
        have hpc := fun W (hW : Env W) hC => print_calls A c l (by omega) (fun x hx => by have := (HS.out x hx).1; omega) W hW hC
        have HBW := Aside0.mk (HB3.out.trans (HBE.out.mono HB3.out.size))
        rcases HLP.out.2 with ⟨rfl, hgd, hwant⟩ | ⟨hb0, hbb, hbl⟩
        · rw [List.take_of_length_le (by rw [List.length_map]; omega)] at hgd hwant
          rw [printR_good hgd, ← hwant] at hpc
          have hws : want.size ≤ 1000000 := by have := HLP.out.1; have := H60.out; omega
          have hpp := fun W (hW : Env W) => parse_calls want hws W hW
          have hR : parseR want.data.toList = (l.map p45, 0, 0) := by
            rw [hwant, ba_data]
            unfold parseR
            rw [parse_print _ hgd]
            rfl
          rw [hR] at hpp
          have hsm := fun B B' e e' W hA hB => same_calls B B' e e' ((l.map p45).map s45) (l.map c46) (by rw [map_ps, map_c46]) W hA hB
          simp only [hlm] at hsm
          have bb := beq_bb want
          have HPC := Aside0.mk hpc
          have HPP := Aside0.mk hpp
          have HSM := Aside0.mk hsm
          clear hpc hpp hsm hR hwant hgd hws
          simp only at HPP
          generalize hbk : (l.map p45).map s45 = back at HPP HSM
          clear hbk
          go_upto_region 18 with (go_at_call 39; refine (HPC.out _ (HE.out.below HBW.out) (Kd.C_below HC.out HBW.out)).mono ?_; rintro e w6 ⟨rfl, hb⟩; have HB6 := Aside0.mk (HBW.out.trans (hb.mono HBW.out.size)); clear hb)
          go_upto_region 19 with (go_at_call 40; refine (HPP.out _ (HE.out.below HB6.out)).mono ?_; rintro e w7 ⟨v, rfl, hr, hb⟩; obtain ⟨A7, c7, rfl, hl7, hC7⟩ := Kd.R_reads hr; have HC7 := Aside0.mk hC7; have HB7 := Aside0.mk (HB6.out.trans (hb.mono HB6.out.size)); clear hr hC7 hb)
          go_wp2_with (first
            | (go_at_call 35; refine (HRF.out _ (Kd.C_below HC.out HB7.out)).mono ?_; rintro e w8 ⟨⟨B8, d8, rfl, hd8, hD8⟩, hb⟩; rw [hlm] at hD8; have HD8 := Aside0.mk hD8; have HC8 := Aside0.mk (Kd.C_below HC7.out hb); have HB8 := Aside0.mk (HB7.out.trans (hb.mono HB7.out.size)); clear hb hD8)
            | (go_at_call 29; refine (show Calls _ _ _ _ _ from HSM.out _ _ _ _ _ HC8.out HD8.out).mono ?_; rintro e w9 ⟨rfl, hb⟩; have HB9 := Aside0.mk (HB8.out.trans (hb.mono HB8.out.size)); clear hb))
          refine bodyPost_ret (v := .bool true) (by simp [results, Tryd.results10, go_sem]) rfl ⟨rfl, HB9.out⟩
        · have hpr : printR (l.map p45) = (⟨#[]⟩, bad, 2) := by
            unfold printR
            rw [if_neg (by omega), ← hbb]
          rw [hpr] at hpc
          have HPC := Aside0.mk hpc
          clear hpc hpr hbb hbl
          go_wp2_with (go_at_call 39; refine (HPC.out _ (HE.out.below HBW.out) (Kd.C_below HC.out HBW.out)).mono ?_; rintro e w6 ⟨rfl, hb⟩; have HB6 := Aside0.mk (HBW.out.trans (hb.mono HBW.out.size)); clear hb)
          refine bodyPost_ret (v := .bool true) (by simp [results, Tryd.results10, go_sem]) rfl ⟨rfl, HB6.out⟩
end Go.Proofs.YtdgdpkemboeaeaaDoor.H


