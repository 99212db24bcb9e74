/- The law FixSums: the sum of any numbers is the reference's; of numbers of one sign it doesn't hang on their order. -/
import Derived.Test.YtiddemgeehcjpaaDoorFxM
import Derived.Test.YtiddemgeehcjpaaDoorFxT
import Derived.ChangeSlices
import Derived.WideShapes
namespace Go.Proofs.YtiddemgeehcjpaaDoor.H
open Go.ChangeShapes Go.WideShapes Go.RowKit Go.Shelf Go.Proofs.YtiddemgeehcjpaaDoor.PA Go.Proofs.YtiddemgeehcjpaaDoorW.PrintWords Go.Proofs.YtiddemgeehcjpaaDoorW.PrintLast Go.Proofs.YtiddemgeehcjpaaDoorW.PrintMore
attribute [local go_sem] Oper.semAt_some
set_option linter.unusedVariables false

/-- The sum of numbers of one sign. -/
theorem sgn_up : ∀ m : List Int, (∀ y ∈ m, 0 ≤ y) → 0 ≤ m.sum := by
  intro m
  induction m with
  | nil => intro _; exact Int.le_refl _
  | cons y m ih => intro hm; rw [List.sum_cons]; have := ih (fun z hz => hm z (by simp [hz])); have := hm y (by simp); omega
theorem sgn_down : ∀ m : List Int, (∀ y ∈ m, y ≤ 0) → m.sum ≤ 0 := by
  intro m
  induction m with
  | nil => intro _; exact Int.le_refl _
  | cons y m ih => intro hm; rw [List.sum_cons]; have := ih (fun z hz => hm z (by simp [hz])); have := hm y (by simp); omega
theorem sum_up : ∀ (l : List Int) (p : Int × Bool), (∀ x ∈ l, 0 ≤ x) → 0 ≤ p.1 → p.1 ≤ 9223372036854775807 → l.foldl stepA p = (if p.1 + l.sum > 9223372036854775807 then 9223372036854775807 else p.1 + l.sum, p.2 || decide (p.1 + l.sum > 9223372036854775807))
  | [], p, _, h0, h1 => by
    obtain ⟨s, o⟩ := p
    simp only [List.foldl_nil, List.sum_nil, Int.add_zero]
    rw [if_neg (by simp only at h1; omega), decide_eq_false (by simp only at h1; omega), Bool.or_false]
  | x :: l, p, h, h0, h1 => by
    have hx := h x (by simp)
    have hl := sgn_up l (fun y hy => h y (by simp [hy]))
    have e1 : (stepA p x).1 = if p.1 + x > 9223372036854775807 then 9223372036854775807 else p.1 + x := by
      unfold stepA satA
      by_cases h2 : p.1 + x > 9223372036854775807
      · rw [if_pos h2, if_pos h2]
      · rw [if_neg h2, if_neg (by omega), if_neg h2]
    have e2 : (stepA p x).2 = (p.2 || decide (p.1 + x > 9223372036854775807)) := by
      unfold stepA satA
      by_cases h2 : p.1 + x > 9223372036854775807
      · rw [if_pos h2, decide_eq_true h2]
      · rw [if_neg h2, if_neg (by omega), decide_eq_false h2]
    have h3 : 0 ≤ (stepA p x).1 ∧ (stepA p x).1 ≤ 9223372036854775807 := by rw [e1]; split <;> omega
    rw [List.foldl_cons, sum_up l (stepA p x) (fun y hy => h y (by simp [hy])) h3.1 h3.2, e1, e2, List.sum_cons]
    by_cases h2 : p.1 + x > 9223372036854775807
    · rw [if_pos h2, decide_eq_true h2, if_pos (show p.1 + (x + l.sum) > 9223372036854775807 by omega), decide_eq_true (show p.1 + (x + l.sum) > 9223372036854775807 by omega)]
      refine Prod.ext ?_ (by simp)
      simp only
      by_cases h4 : l.sum = 0
      · rw [h4]; rfl
      · exact if_pos (by omega)
    · rw [if_neg h2, decide_eq_false h2, Bool.or_false, show p.1 + x + l.sum = p.1 + (x + l.sum) by omega]
theorem sum_down : ∀ (l : List Int) (p : Int × Bool), (∀ x ∈ l, x ≤ 0) → p.1 ≤ 0 → -9223372036854775808 ≤ p.1 → l.foldl stepA p = (if p.1 + l.sum < -9223372036854775808 then -9223372036854775808 else p.1 + l.sum, p.2 || decide (p.1 + l.sum < -9223372036854775808))
  | [], p, _, h0, h1 => by
    obtain ⟨s, o⟩ := p
    simp only [List.foldl_nil, List.sum_nil, Int.add_zero]
    rw [if_neg (by simp only at h1; omega), decide_eq_false (by simp only at h1; omega), Bool.or_false]
  | x :: l, p, h, h0, h1 => by
    have hx := h x (by simp)
    have hl := sgn_down l (fun y hy => h y (by simp [hy]))
    have e1 : (stepA p x).1 = if p.1 + x < -9223372036854775808 then -9223372036854775808 else p.1 + x := by
      unfold stepA satA
      by_cases h2 : p.1 + x < -9223372036854775808
      · rw [if_neg (by omega), if_pos h2, if_pos h2]
      · rw [if_neg (by omega), if_neg h2, if_neg h2]
    have e2 : (stepA p x).2 = (p.2 || decide (p.1 + x < -9223372036854775808)) := by
      unfold stepA satA
      by_cases h2 : p.1 + x < -9223372036854775808
      · rw [if_neg (by omega), if_pos h2, decide_eq_true h2]
      · rw [if_neg (by omega), if_neg h2, decide_eq_false h2]
    have h3 : (stepA p x).1 ≤ 0 ∧ -9223372036854775808 ≤ (stepA p x).1 := by rw [e1]; split <;> omega
    rw [List.foldl_cons, sum_down l (stepA p x) (fun y hy => h y (by simp [hy])) h3.1 h3.2, e1, e2, List.sum_cons]
    by_cases h2 : p.1 + x < -9223372036854775808
    · rw [if_pos h2, decide_eq_true h2, if_pos (show p.1 + (x + l.sum) < -9223372036854775808 by omega), decide_eq_true (show p.1 + (x + l.sum) < -9223372036854775808 by omega)]
      refine Prod.ext ?_ (by simp)
      simp only
      by_cases h4 : l.sum = 0
      · rw [h4]; rfl
      · exact if_pos (by omega)
    · rw [if_neg h2, decide_eq_false h2, Bool.or_false, show p.1 + x + l.sum = p.1 + (x + l.sum) by omega]
theorem sum_rev (l : List Int) : l.reverse.sum = l.sum := by
  induction l with
  | nil => rfl
  | cons x l ih => rw [List.reverse_cons, List.sum_append, ih, List.sum_cons, List.sum_cons, List.sum_nil]; omega
theorem sumA_rev (l : List Int) (h : (∀ x ∈ l, 0 ≤ x) ∨ (∀ x ∈ l, x ≤ 0)) : sumA l.reverse = sumA l := by
  unfold sumA
  rcases h with h | h
  · rw [sum_up l _ h (by decide) (by decide), sum_up l.reverse _ (fun x hx => h x (by simpa using hx)) (by decide) (by decide), sum_rev]
  · rw [sum_down l _ h (by decide) (by decide), sum_down l.reverse _ (fun x hx => h x (by simpa using hx)) (by decide) (by decide), sum_rev]
def minA (l : List Int) : Int := l.foldl min 0
def maxA (l : List Int) : Int := l.foldl max 0
theorem minA_snoc (l : List Int) (x : Int) : minA (l ++ [x]) = min (minA l) x := by unfold minA; rw [List.foldl_append]; rfl
theorem maxA_snoc (l : List Int) (x : Int) : maxA (l ++ [x]) = max (maxA l) x := by unfold maxA; rw [List.foldl_append]; rfl
theorem minA_le (l : List Int) : ∀ a : Int, l.foldl min a ≤ a ∧ ∀ x ∈ l, l.foldl min a ≤ x := by
  induction l with
  | nil => intro a; simp
  | cons y l ih =>
    intro a
    rw [List.foldl_cons]
    have h1 := (ih (min a y)).1
    have h2 := (ih (min a y)).2
    refine ⟨by omega, fun x hx => ?_⟩
    rcases List.mem_cons.1 hx with rfl | hx
    · omega
    · exact h2 x hx
theorem maxA_ge (l : List Int) : ∀ a : Int, a ≤ l.foldl max a ∧ ∀ x ∈ l, x ≤ l.foldl max a := by
  induction l with
  | nil => intro a; simp
  | cons y l ih =>
    intro a
    rw [List.foldl_cons]
    have h1 := (ih (max a y)).1
    have h2 := (ih (max a y)).2
    refine ⟨by omega, fun x hx => ?_⟩
    rcases List.mem_cons.1 hx with rfl | hx
    · omega
    · exact h2 x hx
theorem one_sign (l : List Int) (h : ¬ (minA l < 0 ∧ 0 < maxA l)) : (∀ x ∈ l, 0 ≤ x) ∨ (∀ x ∈ l, x ≤ 0) := by
  have h1 := (minA_le l 0).2
  have h2 := (maxA_ge l 0).2
  by_cases h3 : minA l < 0
  · refine .inr fun x hx => ?_
    have := h2 x hx
    unfold maxA at h
    omega
  · refine .inl fun x hx => ?_
    have := h1 x hx
    unfold minA at h3
    omega
theorem mm_i64 (l : List Int) (h : ∀ x ∈ l, i64 x) : i64 (minA l) ∧ i64 (maxA l) := by
  have key : ∀ (l : List Int) (a b : Int), i64 a → i64 b → (∀ x ∈ l, i64 x) → i64 (l.foldl min a) ∧ i64 (l.foldl max b) := by
    intro l
    induction l with
    | nil => intro a b ha hb _; exact ⟨ha, hb⟩
    | cons y l ih =>
      intro a b ha hb hl
      rw [List.foldl_cons, List.foldl_cons]
      have hy := hl y (by simp)
      refine ih _ _ ?_ ?_ (fun x hx => hl x (by simp [hx]))
      · unfold i64 at *; omega
      · unfold i64 at *; omega
  exact key l 0 0 (by unfold i64; decide) (by unfold i64; decide) h
theorem turned_loop (l : List Int) (hl : l.length ≤ 1000000) : ∀ (j K : Nat) (acc : List Int), j ≤ l.length → acc = (l.drop j).reverse → j < K →
    tidemilllaw01_turned.l0 K l acc ((j : Int) - 1) = some l.reverse := by
  intro j
  induction j with
  | zero =>
    intro K acc hj hacc hK
    obtain ⟨K, rfl⟩ : ∃ q, K = q + 1 := ⟨K - 1, by omega⟩
    simp only [tidemilllaw01_turned.l0]
    rw [if_neg (by omega), hacc, List.drop_zero]
  | succ j ih =>
    intro K acc hj hacc hK
    obtain ⟨K, rfl⟩ : ∃ q, K = q + 1 := ⟨K - 1, by omega⟩
    simp only [tidemilllaw01_turned.l0]
    rw [show ((j + 1 : Nat) : Int) - 1 = (j : Int) by omega, if_pos (by omega), if_pos (by omega), if_pos (by omega), if_pos (by rw [hacc, List.length_reverse, List.length_drop]; omega), wrap_in (n := (j : Int) - 1) (by omega) (by omega)]
    refine ih K _ (by omega) ?_ (by omega)
    have hd : l.drop j = l[j] :: l.drop (j + 1) := List.drop_eq_getElem_cons (by omega)
    rw [hd, List.reverse_cons, hacc]
    congr 2
    unfold rd
    rw [Int.toNat_natCast, List.getD_eq_getElem?_getD, List.getElem?_eq_getElem (by omega)]
    rfl
theorem turned_eq (l : List Int) (hl : l.length ≤ 1000000) : tidemilllaw01_turned.f 2000000 l = some l.reverse := by
  unfold tidemilllaw01_turned.f
  rw [wrap_in (by omega) (by omega)]
  exact turned_loop l hl l.length 2000000 [] (Nat.le_refl _) (by simp) (by omega)

/-- slices.Values at whole numbers. -/
theorem rd_map (l : List I64) (k : Nat) (h : k < l.length) : rd (l.map (·.1)) (k : Int) = l[k].1 := by
  unfold rd
  rw [Int.toNat_natCast, List.getD_eq_getElem?_getD, List.getElem?_map, List.getElem?_eq_getElem h]
  rfl
theorem ad_blk (a : Addr) (j : Nat) : (a.add j).block = a.block := by unfold Addr.add; split <;> rfl
set_option maxRecDepth 100000 in
set_option maxHeartbeats 2000000 in
theorem valuesI_in (F : Fence) (n : Nat) (hF : F.fn 52) (hro : F.round = none) (hn : 1 ≤ n) (lp Bs n₀ : Nat) (A : Option Addr) (c : Nat) (l : List I64) (J Jx : List I64 → World → Prop)
    (hY : ∀ pre y W, J pre W → pre.length < l.length → YieldAt F (n - 1) Tryd.prog lp #[.int .i64 y.1] W fun e W' =>
      (e = .returned (.bool true) ∧ J (pre ++ [y]) W' ∧ Below n₀ W W') ∨ (e = .returned (.bool false) ∧ Jx (pre ++ [y]) W'))
    (W : World) (hB1 : W.cell? ⟨Bs, 0, none⟩ = some (.slice A l.length c)) (hC : Kd.C (Kd.int .i64) W A l.length (l.map (·.1))) (hblk : ∀ ad, A = some ad → 0 < l.length → ad.block < n₀) (h0 : J [] W) :
    CallsIn F n Tryd.prog 52 #[.func (.yield lp) #[] #[], .pointer (some ⟨Bs, 0, none⟩)] W fun e W' => (∃ v, e = .returned v) ∧
      (J l W' ∨ ∃ pre, pre <+: l ∧ Jx pre W') := by
  have hmax : l.length ≤ 9223372036854775807 := hC.2.1
  refine callsIn_of_wp Tryd.func52 rfl hF ?_ hro
  simp only [Tryd.ntmps52, List.size_toArray, List.length_cons, List.length_nil, Nat.reduceAdd, Nat.reduceSub, Array.replicate_succ, Array.replicate_zero, List.push_toArray, List.append_toArray, List.nil_append, List.cons_append]
  have HC := Aside0.mk hC
  clear hC
  gi_wp2
  gi_loopw [4, 7, 8, 9, 10, 11, 12, 13, 14, 15] (fun _ i _ _ _ _ _ _ _ _ wr => ∃ k : Nat, k ≤ l.length ∧ i = .int .i64 k ∧ J (l.take k) wr ∧ Below n₀ W wr)
    (fun _ i _ _ _ _ _ _ _ _ _ => l.length - (intOf i).toNat)
  case atStart => exact ⟨0, Nat.zero_le _, rfl, by simpa using h0, Below.refl _ _⟩
  case round =>
    obtain ⟨k, hk, rfl, hJs, hnx⟩ := hrel
    by_cases hlt : k < l.length
    · obtain ⟨ad, rfl, hc0⟩ := Kd.at_int HC.out (k : Int) (by omega) (by omega)
      have hbk := hblk ad rfl (by omega)
      have hb1 : (ad.add ((k : Int).toNat)).block < n₀ := by rw [ad_blk]; exact hbk
      replace hc0 := (hnx.cell hb1).trans hc0
      rw [rd_map l k hlt] at hc0
      simp only [Int.toNat_natCast] at hc0
      have htk : l.take k ++ [l[k]] = l.take (k + 1) := (List.take_succ_eq_append_getElem hlt).symm
      have HTK := Aside0.mk htk
      clear htk
      obtain ⟨x, hx⟩ : ∃ x, l[k] = x := ⟨_, rfl⟩
      rw [hx] at HTK hc0
      clear hx
      obtain ⟨fn, tmps, assign, body, hy, hR⟩ := hY _ x _ hJs (by rw [List.length_take]; omega)
      gi_wp2
      refine hR.mono ?_
      rintro e W3 (⟨rfl, hJ3, hk3⟩ | ⟨rfl, hJx3⟩)
      · gi_wp2
        go_roundw
        case rel => exact ⟨k + 1, by omega, by simp, by rw [← HTK.out]; exact hJ3, hnx.trans hk3⟩
        case measure => simp [intOf]; omega
      · gi_wp2
        refine bodyPost_ret (results_none rfl _ _ _) rfl ?_
        exact ⟨⟨_, rfl⟩, .inr ⟨_, by rw [HTK.out]; exact List.take_prefix _ _, hJx3⟩⟩
    · obtain rfl : k = l.length := by omega
      gi_wp2
      go_end0
      exact ⟨⟨_, rfl⟩, .inl (by rw [List.take_length] at hJs; exact hJs)⟩
theorem valuesI_stops (F : Fence) (n : Nat) (hF : F.fn 52) (hro : F.round = none) (hn : 1 ≤ n) (Bs n₀ : Nat) (A : Option Addr) (c : Nat) (l : List I64) (w : World) (hBs : Bs < w.heap.size)
    (hB1 : w.cell? ⟨Bs, 0, none⟩ = some (.slice A l.length c)) (hC : Kd.C (Kd.int .i64) w A l.length (l.map (·.1))) (hblk : ∀ ad, A = some ad → 0 < l.length → ad.block < n₀) :
    SeqStopsK F n Tryd.prog 52 #[.pointer (some ⟨Bs, 0, none⟩)] (fun y : I64 => #[Value.int .i64 y.1]) (Below n₀) (fun ys => ys = l) (fun pre => pre <+: l) l.length w := fun lp J Jx W hW hJ _ hY h0 => by
  refine (valuesI_in F n hF hro hn lp Bs n₀ A c l J Jx hY W ((hW.cell (p := ⟨Bs, 0, none⟩) hBs).trans hB1) (Kd.C_below hC hW) hblk h0).mono ?_
  rintro e W' ⟨he, hj | ⟨pre, hp, hj⟩⟩
  · exact ⟨he, .inl ⟨_, rfl, hj⟩⟩
  · exact ⟨he, .inr ⟨_, hp, hj⟩⟩
/-- fix.Sum over slices.Values: the box that Values lays is the world's last. -/
theorem sumValues_calls (A : Option Addr) (c : Nat) (l : List Int) (hl : ∀ x ∈ l, i64 x) (w : World) (hC : Kd.C (Kd.int .i64) w A l.length l) :
    Calls Tryd.prog 20 #[.func (.func 52) #[] #[.pointer (some ⟨w.heap.size, 0, none⟩)]] (w.alloc (.cells #[.slice A l.length c] 34)) fun e w' => e = .returned (.tuple #[.int .i64 (sumA l).1, .bool (sumA l).2]) ∧ Below w.heap.size w w' := by
  obtain ⟨l', hl'⟩ : ∃ l' : List I64, l'.map (·.1) = l := ⟨l.attach.map (fun x => ⟨x.1, hl x.1 x.2⟩), by simp⟩
  subst hl'
  have hln : (l'.map (·.1)).length = l'.length := by simp
  rw [hln] at hC ⊢
  have hb1 : Below w.heap.size w (w.alloc (.cells #[.slice A l'.length c] 34)) := (Below.refl _ w).alloc (Nat.le_refl _) _
  have hbox : (w.alloc (.cells #[.slice A l'.length c] 34)).cell? ⟨w.heap.size, 0, none⟩ = some (.slice A l'.length c) := by
    rw [Lib.cell_of_heap (World.alloc_heap_new w _)]; rfl
  have hblk : ∀ ad, A = some ad → 0 < l'.length → ad.block < w.heap.size := by
    rintro ad rfl h0
    obtain ⟨ad', e, hc⟩ := Kd.at_int hC 0 (by decide) (by omega)
    cases e
    have := World.block_lt_of_cell? w _ hc
    rwa [ad_blk] at this
  have hs := sum_calls 52 #[.pointer (some ⟨w.heap.size, 0, none⟩)] (enters_of Tryd.func52 (by kernel_rfl) rfl) l' (w.alloc (.cells #[.slice A l'.length c] 34))
    (fun w1 hw1 => valuesI_stops Fence.wide (6 - 1) trivial rfl (by omega) w.heap.size _ A c l' w1 (by have := hw1.size; simp at this; omega) ((hw1.cell (p := ⟨w.heap.size, 0, none⟩) (by simp)).trans hbox)
      (Kd.C_below (Kd.C_below hC hb1) hw1) (fun ad h1 h2 => by have := hblk ad h1 h2; simp; omega))
  exact hs.mono fun e w' ⟨he, hb⟩ => ⟨he, hb1.trans (hb.mono (by simp))⟩
end Go.Proofs.YtiddemgeehcjpaaDoor.H
