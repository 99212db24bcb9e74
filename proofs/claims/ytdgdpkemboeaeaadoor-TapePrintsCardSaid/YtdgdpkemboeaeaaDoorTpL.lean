/- tape.line: a good act's line. -/
import Derived.Test.YtdgdpkemboeaeaaDoorTpD
import Derived.Deep.CutRange
import Derived.Deep.DeepCutAuto
import Derived.Lib.AppendIntMem
import Derived.Lib.ItoaLen
import Derived.BigCall
import Derived.BigGuard
import Derived.Deep.LoopGhost
namespace Go.Proofs.YtdgdpkemboeaeaaDoor.H
open Go.RowKit Go.Shelf Go.Proofs.YtdgdpkemboeaeaaDoor.PT Go.Proofs.YtdgdpkemboeaeaaDoorW.PrintWords Go.Proofs.YtdgdpkemboeaeaaDoorW.PrintLast Go.Proofs.YtdgdpkemboeaeaaDoorW.PrintMore
set_option linter.unusedVariables false
set_option linter.unusedSimpArgs false
/-- An act as a value; v: its numbers' slice. -/
def actV (a : PAct) (v : Value) : Value := .agg #[.int .i64 a.k, .int .i64 a.i, .int .i64 a.n, .string a.t, v]
def shB (k : Int) : ByteArray := (shapeAt k.toNat).1
theorem shB_L (k : Int) : (shB k).data.toList = shW k := rfl
theorem sh_cells {w : World} (h : Env w) {k : Int} (h1 : 1 ≤ k) (h2 : k ≤ 10) :
    w.cell? ⟨0, k.toNat * 5, none⟩ = some (.string (shB k)) ∧ w.cell? ⟨0, k.toNat * 5 + 1, none⟩ = some (.bool (shI k)) ∧ w.cell? ⟨0, k.toNat * 5 + 2, none⟩ = some (.bool (shN k)) ∧
    w.cell? ⟨0, k.toNat * 5 + 3, none⟩ = some (.bool (shT k)) ∧ w.cell? ⟨0, k.toNat * 5 + 4, none⟩ = some (.bool (shK k)) := by
  rcases kinds_of h1 h2 with rfl | rfl | rfl | rfl | rfl | rfl | rfl | rfl | rfl | rfl
  all_goals exact ⟨h.sh _ (by decide), h.sh _ (by decide), h.sh _ (by decide), h.sh _ (by decide), h.sh _ (by decide)⟩
set_option maxRecDepth 100000 in
set_option maxHeartbeats 4000000 in
theorem good_calls (a : PAct) (A : Option Addr) (c : Nat) (w : World) (hE : Env w) (hC : Kd.C (Kd.int .i64) w A a.keep.length a.keep) :
    Calls Tryd.prog 37 #[actV a (.slice A a.keep.length c)] w fun e w' => e = .returned (.bool (goodP a)) ∧ Below w.heap.size w w' := by
  obtain ⟨k, i, n, t, keep⟩ := a
  simp only at hC
  unfold actV
  simp only
  by_cases h1 : 1 ≤ k
  · by_cases h2 : k ≤ 10
    · have hg : goodP ⟨k, i, n, t, keep⟩ = (numB i (shI k) && numB n (shN k) && (decide (keep.length = 0) || shK k && decide (keep.length ≤ 16) && !keep.any badN) && (decide (t.size = 0) || shT k)) := by
        unfold goodP
        rw [decide_eq_true h1, decide_eq_true h2]
        rfl
      rw [hg]
      clear hg
      have hcs := fun o : Obj => sh_cells (hE.below ((Below.refl _ w).alloc (Nat.le_refl _) o)) h1 h2
      have c0 := fun o => (hcs o).1
      have c1 := fun o => (hcs o).2.1
      have c2 := fun o => (hcs o).2.2.1
      have c3 := fun o => (hcs o).2.2.2.1
      have c4 := fun o => (hcs o).2.2.2.2
      clear hE hcs
      have e0 : decide (k < 1) = false := decide_eq_false (by omega)
      have e1 : decide (10 < k) = false := decide_eq_false (by omega)
      have hcon := fun W (hb : Below w.heap.size w W) => containsInt_calls A c keep W (Kd.C_below hC hb)
      have hmx := hC.2.1
      clear hC
      generalize shB k = gw at c0
      generalize shI k = gi at c1 ⊢
      generalize shN k = gn at c2 ⊢
      generalize shT k = gt at c3 ⊢
      generalize shK k = gk at c4 ⊢
      obtain ⟨bi, hbi⟩ : ∃ b, numB i gi = b := ⟨_, rfl⟩
      obtain ⟨bn, hbn⟩ : ∃ b, numB n gn = b := ⟨_, rfl⟩
      rw [hbi, hbn]
      have HBI := Aside0.mk hbi
      have HBN := Aside0.mk hbn
      clear hbi hbn
      generalize keep.any badN = bb at hcon ⊢
      obtain ⟨kb, hkb⟩ : ∃ kb, kb = (decide (keep.length = 0) || gk && decide (keep.length ≤ 16) && !bb) := ⟨_, rfl⟩
      rw [← hkb]
      have HKB := Aside0.mk hkb
      clear hkb
      go_enter Tryd.func37, Tryd.ntmps37
      go_upto_region 4 with fail
      have hb2 := ((Below.refl _ w).alloc (Nat.le_refl _) (.cells #[.int .i64 k, .int .i64 i, .int .i64 n, .string t, .slice A keep.length c] 45)).alloc (by simp) (.cells #[.string gw, .bool gi, .bool gn, .bool gt, .bool gk] 102)
      have HB := Aside0.mk hb2
      have HC := fun W hb => Aside0.mk (hcon W hb)
      clear hb2 hcon
      go_cut [4] (fun s4 wx => s4 = .bool kb ∧ wx = (w.alloc (.cells #[.int .i64 k, .int .i64 i, .int .i64 n, .string t, .slice A keep.length c] 45)).alloc (.cells #[.string gw, .bool gi, .bool gn, .bool gt, .bool gk] 102))
      case first =>
        by_cases hz : keep.length = 0
        · have hz2 := List.eq_nil_of_length_eq_zero hz
          subst hz2
          clear HC HB hz
          go_wp2_with fail
          go_meet
          exact ⟨congrArg Value.bool HKB.out.symm, by first | rfl | trivial⟩
        · have z1 : decide (keep.length = 0) = false := decide_eq_false hz
          have z3 : decide ((keep.length : Int) = 0) = false := decide_eq_false (by omega)
          have z2 : ((keep.length : Int) == 0) = false := by rw [beq_eq_false_iff_ne]; omega
          have z6 : ¬ keep = [] := fun h => hz (by rw [h]; rfl)
          clear hz
          cases gk with
          | false =>
            clear HC HB
            go_wp2_with fail
            go_meet
            exact ⟨congrArg Value.bool (by rw [HKB.out, z1]; first | rfl | (rw [z2]; rfl)), by first | rfl | trivial⟩
          | true =>
            by_cases hl : keep.length ≤ 16
            · have z4 : decide (keep.length ≤ 16) = true := decide_eq_true hl
              have z5 : decide ((keep.length : Int) ≤ 16) = true := decide_eq_true (by omega)
              clear hl
              cases bb with
              | true =>
                go_wp2_with (go_at_call 69; refine (HC _ HB.out).out.mono ?_; rintro e w' ⟨rfl, rfl⟩)
                go_meet
                exact ⟨congrArg Value.bool (by rw [HKB.out, z1, z4]; first | rfl | (rw [z2]; rfl)), by first | rfl | trivial⟩
              | false =>
                go_wp2_with (go_at_call 69; refine (HC _ HB.out).out.mono ?_; rintro e w' ⟨rfl, rfl⟩)
                go_meet
                exact ⟨congrArg Value.bool (by rw [HKB.out, z1, z4]; first | rfl | (rw [z2]; rfl)), by first | rfl | trivial⟩
            · have z4 : decide (keep.length ≤ 16) = false := decide_eq_false hl
              have z5 : decide ((keep.length : Int) ≤ 16) = false := decide_eq_false (by omega)
              clear hl HC HB
              go_wp2_with fail
              go_meet
              exact ⟨congrArg Value.bool (by rw [HKB.out, z1, z4]; first | rfl | (rw [z2]; rfl)), by first | rfl | trivial⟩
      case rest =>
        obtain ⟨rfl, rfl⟩ := hcut
        clear HC HKB
        have hbi := HBI.out
        have hbn := HBN.out
        clear HBI HBN
        cases bi with
        | false =>
          go_wp2_with (go_at_call 71; refine (number_calls _ _ _).mono ?_; rintro e w' ⟨rfl, rfl⟩)
          refine bodyPost_ret (v := .bool false) (by simp [results, Tryd.results37, go_sem]) rfl ⟨?_, HB.out⟩
          simp
        | true =>
          cases bn with
          | false =>
            go_wp2_with (go_at_call 71; refine (number_calls _ _ _).mono ?_; rintro e w' ⟨rfl, rfl⟩)
            refine bodyPost_ret (v := .bool false) (by simp [results, Tryd.results37, go_sem]) rfl ⟨?_, HB.out⟩
            simp
          | true =>
            cases kb with
            | false =>
              go_wp2_with (go_at_call 71; refine (number_calls _ _ _).mono ?_; rintro e w' ⟨rfl, rfl⟩)
              refine bodyPost_ret (v := .bool false) (by simp [results, Tryd.results37, go_sem]) rfl ⟨?_, HB.out⟩
              simp
            | true =>
              by_cases ht : t.size = 0
              · have t1 : t.toList.isEmpty = true := by rw [Lib.toList_data, ba_nil_of ht]; rfl
                have t2 : decide (t.size = 0) = true := decide_eq_true ht
                clear ht
                go_wp2_with (go_at_call 71; refine (number_calls _ _ _).mono ?_; rintro e w' ⟨rfl, rfl⟩)
                refine bodyPost_ret (v := .bool true) (by simp [results, Tryd.results37, go_sem]) rfl ⟨?_, HB.out⟩
                rw [t2]; simp
              · have t1 : t.toList.isEmpty = false := by
                  rw [← decide_eq_emptyBytes]
                  exact decide_eq_false (fun h => ht (by rw [h]; rfl))
                have t2 : decide (t.size = 0) = false := decide_eq_false ht
                clear ht
                cases gt with
                | true =>
                  go_wp2_with (go_at_call 71; refine (number_calls _ _ _).mono ?_; rintro e w' ⟨rfl, rfl⟩)
                  refine bodyPost_ret (v := .bool true) (by simp [results, Tryd.results37, go_sem]) rfl ⟨?_, HB.out⟩
                  rw [t2]; simp
                | false =>
                  go_wp2_with (go_at_call 71; refine (number_calls _ _ _).mono ?_; rintro e w' ⟨rfl, rfl⟩)
                  refine bodyPost_ret (v := .bool false) (by simp [results, Tryd.results37, go_sem]) rfl ⟨?_, HB.out⟩
                  rw [t2]; simp
    · have hg : goodP ⟨k, i, n, t, keep⟩ = false := by
        unfold goodP
        rw [decide_eq_false h2]
        simp
      rw [hg]
      clear hg hC
      go_enter Tryd.func37, Tryd.ntmps37
      go_wp2
      go_ret
      exact ⟨rfl, (Below.refl _ w).alloc (Nat.le_refl _) _⟩
  · have hg : goodP ⟨k, i, n, t, keep⟩ = false := by
      unfold goodP
      rw [decide_eq_false h1]
      simp
    rw [hg]
    clear hg hC
    go_enter Tryd.func37, Tryd.ntmps37
    go_wp2
    go_ret
    exact ⟨rfl, (Below.refl _ w).alloc (Nat.le_refl _) _⟩
end Go.Proofs.YtdgdpkemboeaeaaDoor.H
namespace Go.Proofs.YtdgdpkemboeaeaaDoor.H
open Go.RowKit Go.Shelf Go.Proofs.YtdgdpkemboeaeaaDoor.PT Go.Proofs.YtdgdpkemboeaeaaDoorW.PrintWords Go.Proofs.YtdgdpkemboeaeaaDoorW.PrintLast Go.Proofs.YtdgdpkemboeaeaaDoorW.PrintMore
set_option linter.unusedVariables false
set_option linter.unusedSimpArgs false
theorem itoa_calls (n : Int) (h0 : 0 ≤ n) (h1 : n ≤ 1000000000) (w : World) (hT : Tab w) :
    Calls Tryd.prog 96 #[.int .i64 n] w fun e w' => e = .returned (.string (ba (Lib.itoa n))) ∧ Below w.heap.size w w' := by
  refine (Tryd.strconv_Itoa n (by omega) (by omega) w hT).mono ?_
  rintro e w' ⟨rfl, k, os, rfl⟩
  exact ⟨rfl, Lib.below_grow _ w (Nat.le_refl _) k os⟩
theorem joinC_len (c : UInt8) : ∀ (xs : List (List UInt8)), (joinC c xs).length ≤ (xs.map (fun x => x.length + 1)).sum
  | [] => by simp [joinC]
  | [x] => by simp [joinC]
  | x :: y :: r => by
    have := joinC_len c (y :: r)
    rw [joinC, List.length_append, List.length_cons, List.map_cons, List.sum_cons]
    omega
theorem line_len {a : PAct} (hg : goodP a = true) (ht : a.t.size ≤ 40000000000000) : (lineP a).length ≤ 140737488355328 := by
  obtain ⟨h1, h2, hi0, hi1, _, hn0, hn1, _, _, hkl, hka, _⟩ := goodP_iff.1 hg
  have hw := shW_len h1 h2
  have hi : ∀ z : Int, 0 ≤ z → z ≤ 1000000000 → (Lib.itoa z).length ≤ 21 := fun z a b => Lib.itoa_length_le z (by omega) (by omega)
  have hs := showL_len a.t.data.toList
  rw [len_of] at hs
  have hk : ∀ l : List Int, (∀ x ∈ l, 0 ≤ x ∧ x ≤ 1000000000) → ((l.map Lib.itoa).map (fun x => x.length + 1)).sum ≤ 22 * l.length := by
    intro l
    induction l with
    | nil => intro _; simp
    | cons x l ih =>
      intro h
      have h3 := ih (fun y hy => h y (by simp [hy]))
      have h4 := hi x (h x (by simp)).1 (h x (by simp)).2
      rw [List.map_cons, List.map_cons, List.sum_cons, List.length_cons]
      omega
  have hkk := hk a.keep hka
  have h5 := hi a.i hi0 hi1
  have h6 := hi a.n hn0 hn1
  refine Nat.le_trans (joinC_len 32 _) ?_
  unfold partsP
  simp only [List.map_cons, List.map_append, List.sum_cons, List.sum_append]
  have e1 : ((if shI a.k = true then [Lib.itoa a.i] else []).map (fun x => x.length + 1)).sum ≤ 22 := by split <;> simp <;> omega
  have e2 : ((if shN a.k = true then [Lib.itoa a.n] else []).map (fun x => x.length + 1)).sum ≤ 22 := by split <;> simp <;> omega
  have e3 : ((if a.t.size = 0 then [] else [showL a.t.data.toList]).map (fun x => x.length + 1)).sum ≤ 120000000000001 := by split <;> simp <;> omega
  omega
/-- Where a line is being made: the act's box, the shape's, the words so far. -/
structure LineSt (w W : World) (cs ss : Array Value) (v : Value) (xs : List ByteArray) : Prop where
  hb : Below w.heap.size w W
  bx : W.heap[w.heap.size]? = some (.cells cs 45 (0, 0))
  sx : W.heap[w.heap.size + 1]? = some (.cells ss 102 (0, 0))
  ro : Kd.R Kd.string 9 W w.heap.size (fun _ => True) v xs
theorem LineSt.below {w W W' : World} {cs ss : Array Value} {v : Value} {xs : List ByteArray} (h : LineSt w W cs ss v xs) (hb : Below W.heap.size W W') : LineSt w W' cs ss v xs :=
  ⟨h.hb.trans (hb.mono h.hb.size), (hb.block _ (blk_lt h.bx)).trans h.bx, (hb.block _ (blk_lt h.sx)).trans h.sx, Kd.R_below h.ro hb⟩
theorem LineSt.append {P : Program} {ops : Array Oper} {rest : List Oper} {o : Oper} {a : Act} {Q : Exit → Act → World → Prop} {w W : World} {cs ss : Array Value} {v : Value} {xs : List ByteArray} (y : ByteArray) (hP : P = Tryd.prog) (hgd : o.guard = none) (s x : Operand)
    (ho : o.op = .call { callee := .builtin .append, args := #[s, x], argTypes := #[86, 86] }) (hs : a.eval s = v) (hx : a.eval x = .slice (some ⟨W.heap.size, 0, none⟩) 1 1) (hS : LineSt w W cs ss v xs) (hl : xs.length ≤ 100)
    (h : ∀ v1 w1, LineSt w w1 cs ss v1 (xs ++ [y]) → wpList P ops Q rest (a.put o.dst v1) w1) : wpList P ops Q (o :: rest) a (W.alloc (.cells #[.string y] 9)) := by
  subst hP
  refine Kd.R_append Kd.string (w0 := w) w.heap.size hgd s x 86 9 (.string ⟨#[]⟩) 16 ho Tryd.underlying86 info9 rfl (by decide) (by omega) v xs y [.string y] (fun _ => True) (fun _ => False) hs hx rfl (fun _ hk => hk.elim) (fun _ _ => trivial) hS.ro hS.hb hS.hb.size (by omega) ?_
  intro v1 w1 hr hb hg hat
  exact h v1 w1 ⟨hb, blk_grown hS.bx hg (Kd.R_ne hS.ro hS.bx (by decide)), blk_grown hS.sx hg (Kd.R_ne hS.ro hS.sx (by decide)), hr⟩
theorem LineSt.start (w : World) (cs ss : Array Value) (y : ByteArray) : LineSt w (((w.alloc (.cells cs 45)).alloc (.cells ss 102)).alloc (.cells #[.string y] 9)) cs ss (.slice (some ⟨w.heap.size + 1 + 1, 0, none⟩) 1 1) [y] := by
  have hb := (((Below.refl _ w).alloc (Nat.le_refl _) (.cells cs 45)).alloc (by simp) (.cells ss 102)).alloc (by simp; omega) (.cells #[.string y] 9)
  have e0 := heap_alloc_new w (.cells cs 45)
  have e1 := heap_alloc_new (w.alloc (.cells cs 45)) (.cells ss 102)
  have e2 := heap_alloc_new ((w.alloc (.cells cs 45)).alloc (.cells ss 102)) (.cells #[.string y] 9)
  have n1 : (w.alloc (.cells cs 45)).heap.size = w.heap.size + 1 := World.size_alloc _ _
  have n2 : ((w.alloc (.cells cs 45)).alloc (.cells ss 102)).heap.size = w.heap.size + 1 + 1 := by rw [World.size_alloc, n1]
  rw [n1] at e1
  rw [n2] at e2
  exact ⟨hb, (Below.heap_alloc _ _ _ (by omega)).trans ((Below.heap_alloc _ _ _ (by omega)).trans e0), (Below.heap_alloc _ _ _ (by omega)).trans e1, R_block Value.string (fun _ => rfl) 9 w.heap.size (w.heap.size + 1 + 1) _ [y] e2 (by omega) (by unfold maxLen; simp)⟩
theorem join_calls (v : Value) (xs : List ByteArray) (base : Nat) (W : World) (hR : Kd.R Kd.string 9 W base (fun _ => True) v xs) (hne : xs ≠ []) (hN : xs.length ≤ 1000) (hl : (joinC 32 (xs.map (fun p => p.data.toList))).length ≤ 140737488355328) :
    Calls Tryd.prog 97 #[v, .string ⟨#[32]⟩] W fun e w' => e = .returned (.string (ba (joinC 32 (xs.map (fun p => p.data.toList))))) ∧ Below W.heap.size W w' := by
  obtain ⟨A, c, rfl, hc, hC⟩ := Kd.R_reads hR
  have hlen : 0 < xs.length := List.length_pos_iff.2 hne
  obtain ⟨ad, rfl, hcell⟩ := hC.2.2 hlen
  obtain ⟨g, rfl⟩ := Kd.R_head hR
  have hcells : ∀ (j : Nat) x, xs[j]? = some x → W.cell? ⟨g, 0 + j, none⟩ = some (.string x) := by
    intro j x hj
    obtain ⟨cs, _, hk, hu⟩ := hcell j x hj
    have e : cs = [.string x] := hk
    have := hu 0 (.string x) (by rw [e]; rfl)
    rw [add_plain, Nat.add_zero] at this
    rw [Nat.zero_add]
    have h2 : j * Kd.string.sz = j := Nat.mul_one j
    rw [h2] at this
    exact this
  have hg : g < W.heap.size := by
    obtain ⟨x, hx⟩ : ∃ x, xs[0]? = some x := ⟨xs[0], List.getElem?_eq_getElem hlen⟩
    exact World.block_lt_of_cell? W _ (hcells 0 x hx)
  have := Tryd.strings_Join g 0 c xs ⟨#[32]⟩ W hcells hg (by omega) hc (by rw [show (ByteArray.mk #[32]).data.toList = [32] from rfl, join_C]; exact hl)
  rw [show (ByteArray.mk #[32]).data.toList = [32] from rfl, join_C] at this
  exact this
set_option maxRecDepth 100000 in
set_option maxHeartbeats 8000000 in
theorem line_calls (a : PAct) (A : Option Addr) (c : Nat) (w : World) (hE : Env w) (hC : Kd.C (Kd.int .i64) w A a.keep.length a.keep) (hg : goodP a = true) (ht : a.t.size ≤ 40000000000000) :
    Calls Tryd.prog 72 #[actV a (.slice A a.keep.length c)] w fun e w' => e = .returned (.string (ba (lineP a))) ∧ Below w.heap.size w w' := by
  obtain ⟨h1, h2, hi0, hi1, hi2, hn0, hn1, hn2, hkz, hkl, hka, htz⟩ := goodP_iff.1 hg
  obtain ⟨k, i, n, t, keep⟩ := a
  simp only at h1 h2 hi0 hi1 hi2 hn0 hn1 hn2 hkz hkl hka htz hC ht
  unfold actV
  simp only
  obtain ⟨L, hL⟩ : ∃ L, L = lineP ⟨k, i, n, t, keep⟩ := ⟨_, rfl⟩
  rw [← hL]
  have HL := Aside0.mk hL
  have HLEN := Aside0.mk (show L.length ≤ 140737488355328 by rw [hL]; exact line_len hg ht)
  have hcs := fun o : Obj => sh_cells (hE.below ((Below.refl _ w).alloc (Nat.le_refl _) o)) h1 h2
  have c0 := fun o => (hcs o).1
  have c1 := fun o => (hcs o).2.1
  have c2 := fun o => (hcs o).2.2.1
  have c3 := fun o => (hcs o).2.2.2.1
  have c4 := fun o => (hcs o).2.2.2.2
  have hlen := shW_len h1 h2
  have HE := Aside0.mk hE
  have HC := Aside0.mk hC
  have HKA := Aside0.mk hka
  have HI := Aside0.mk (And.intro hi0 hi1)
  have HN := Aside0.mk (And.intro hn0 hn1)
  clear hcs hE hC hka hi0 hi1 hn0 hn1 hi2 hn2 hkz htz hL hg
  unfold lineP partsP at HL
  simp only at HL
  rw [← shB_L] at HL hlen
  generalize shB k = gw at c0 HL hlen
  generalize shI k = gi at c1 HL
  generalize shN k = gn at c2 HL
  generalize shT k = gt at c3
  generalize shK k = gk at c4
  go_enter Tryd.func72, Tryd.ntmps72
  go_upto_if 15 with fail
  have hS := LineSt.start w #[.int .i64 k, .int .i64 i, .int .i64 n, .string t, .slice A keep.length c] #[.string gw, .bool gi, .bool gn, .bool gt, .bool gk] gw
  generalize ((w.alloc (.cells #[.int .i64 k, .int .i64 i, .int .i64 n, .string t, .slice A keep.length c] 45)).alloc (.cells #[.string gw, .bool gi, .bool gn, .bool gt, .bool gk] 102)).alloc (.cells #[.string gw] 9) = W at hS ⊢
  have HS := Aside0.mk hS
  clear hS c0 c1 c2 c3 c4
  go_cut [4] (fun s4 wx => LineSt w wx #[.int .i64 k, .int .i64 i, .int .i64 n, .string t, .slice A keep.length c] #[.string gw, .bool gi, .bool gn, .bool gt, .bool gk] s4 (gw :: if gi = true then [ba (Lib.itoa i)] else []))
  case first =>
    have b1 := blk_cell HS.out.bx 1
    cases gi with
    | false =>
      go_wp2_with fail
      go_meet
      exact HS.out
    | true =>
      go_wp2_with (first
        | (go_at_call 96; refine (itoa_calls i HI.out.1 HI.out.2 _ (tab_below HE.out.tab HS.out.hb)).mono ?_; rintro e w1 ⟨rfl, hb⟩; have HS1 := Aside0.mk (HS.out.below hb); clear hb)
        | ((with_reducible refine gate_builtin (b := .append) (xs := #[.tmp 16, .tmp 20]) rfl ?_); at_builtin; refine LineSt.append (ba (Lib.itoa i)) rfl rfl (.tmp 16) (.tmp 20) rfl rfl rfl HS1.out (by simp) ?_; intro v1 w1 hS; have HS2 := Aside0.mk hS; clear hS))
      go_meet
      exact HS2.out
  case rest =>
    have HS1 := Aside0.mk hcut
    have b2 := blk_cell hcut.sx 2
    clear hcut HS
    obtain ⟨P1, hP1⟩ : ∃ P1, (gw :: if gi = true then [ba (Lib.itoa i)] else []) = P1 := ⟨_, rfl⟩
    have hl1 : P1.length ≤ 2 := by rw [← hP1]; split <;> simp
    rw [hP1] at HS1
    go_upto_if 23 with fail
    go_cut [4] (fun s4 wx => LineSt w wx #[.int .i64 k, .int .i64 i, .int .i64 n, .string t, .slice A keep.length c] #[.string gw, .bool gi, .bool gn, .bool gt, .bool gk] s4 (P1 ++ if gn = true then [ba (Lib.itoa n)] else []))
    case first =>
      have b1 := blk_cell HS1.out.bx 2
      clear b2
      cases gn with
      | false =>
        go_wp2_with fail
        go_meet
        rw [if_neg (by decide), List.append_nil]
        exact HS1.out
      | true =>
        go_wp2_with (first
          | (go_at_call 96; refine (itoa_calls n HN.out.1 HN.out.2 _ (tab_below HE.out.tab HS1.out.hb)).mono ?_; rintro e w1 ⟨rfl, hb⟩; have HS2 := Aside0.mk (HS1.out.below hb); clear hb)
          | ((with_reducible refine gate_builtin (b := .append) (xs := #[.tmp 24, .tmp 28]) rfl ?_); at_builtin; refine LineSt.append (ba (Lib.itoa n)) rfl rfl (.tmp 24) (.tmp 28) rfl rfl rfl HS2.out (by omega) ?_; intro v1 w1 hS; have HS3 := Aside0.mk hS; clear hS))
        go_meet
        exact HS3.out
    case rest =>
      have HS2 := Aside0.mk hcut
      have b3 := blk_cell hcut.bx 3
      clear hcut HS1 b2
      obtain ⟨P2, hP2⟩ : ∃ P2, (P1 ++ if gn = true then [ba (Lib.itoa n)] else []) = P2 := ⟨_, rfl⟩
      have hl2 : P2.length ≤ 3 := by rw [← hP2]; split <;> simp <;> omega
      rw [hP2] at HS2
      obtain ⟨bz, hbz⟩ : ∃ bz, t.toList.isEmpty = bz := ⟨_, rfl⟩
      have HBZ := Aside0.mk (show bz = true ↔ t.size = 0 by rw [← hbz, ← decide_eq_emptyBytes, decide_eq_true_iff]; exact ⟨fun h => by rw [h]; rfl, ba_nil_of⟩)
      go_upto_if 32 with fail
      clear hbz
      go_cut [4] (fun s4 wx => LineSt w wx #[.int .i64 k, .int .i64 i, .int .i64 n, .string t, .slice A keep.length c] #[.string gw, .bool gi, .bool gn, .bool gt, .bool gk] s4 (P2 ++ if t.size = 0 then [] else [ba (showL t.data.toList)]))
      case first =>
        cases bz with
        | true =>
          have HZ := Aside0.mk (HBZ.out.1 rfl)
          clear HBZ
          go_wp2_with fail
          go_meet
          rw [if_pos HZ.out, List.append_nil]
          exact HS2.out
        | false =>
          have HZ := Aside0.mk (show ¬ t.size = 0 from fun h => by have := HBZ.out.2 h; cases this)
          clear HBZ
          go_wp2_with (first
            | (go_at_call 30; refine (show_calls t ht _).mono ?_; rintro e w1 ⟨rfl, hb⟩; have HS3 := Aside0.mk (HS2.out.below hb); clear hb)
            | ((with_reducible refine gate_builtin (b := .append) (xs := #[.tmp 33, .tmp 37]) rfl ?_); at_builtin; refine LineSt.append (ba (showL t.data.toList)) rfl rfl (.tmp 33) (.tmp 37) rfl rfl rfl HS3.out (by omega) ?_; intro v1 w1 hS; have HS4 := Aside0.mk hS; clear hS))
          go_meet
          rw [if_neg HZ.out]
          exact HS4.out
      case rest =>
        have HS3 := Aside0.mk hcut
        have b4 := blk_cell hcut.bx 4
        clear hcut HS2 b3
        obtain ⟨P3, hP3⟩ : ∃ P3, (P2 ++ if t.size = 0 then [] else [ba (showL t.data.toList)]) = P3 := ⟨_, rfl⟩
        have hl3 : P3.length ≤ 4 := by rw [← hP3]; split <;> simp <;> omega
        rw [hP3] at HS3
        have hmx := HC.out.2.1
        go_wp2_with fail
        go_loopw [4, 6, 42] (fun s4 _ s42 wr => ∃ j : Nat, j ≤ keep.length ∧ s42 = .int .i64 j ∧ LineSt w wr #[.int .i64 k, .int .i64 i, .int .i64 n, .string t, .slice A keep.length c] #[.string gw, .bool gi, .bool gn, .bool gt, .bool gk] s4 (P3 ++ (keep.take j).map (fun x => ba (Lib.itoa x)))) (fun _ _ s42 _ => keep.length - (intOf s42).toNat)
        case atStart => exact ⟨0, Nat.zero_le _, rfl, by rw [List.take_zero, List.map_nil, List.append_nil]; exact HS3.out⟩
        case round =>
          obtain ⟨j, hj, rfl, hS⟩ := hrel
          have HS := Aside0.mk hS
          clear hS HS3
          by_cases hlt : j < keep.length
          · obtain ⟨ad, rfl, hcell⟩ := Kd.at_int (Kd.C_below HC.out HS.out.hb) (j : Int) (by omega) (by omega)
            have e1 : rd keep (j : Int) = keep[j] := by unfold rd; rw [Int.toNat_natCast, List.getD_eq_getElem?_getD, List.getElem?_eq_getElem hlt]; rfl
            rw [e1] at hcell
            simp only [Int.toNat_natCast] at hcell
            have htk : keep.take (j + 1) = keep.take j ++ [keep[j]] := List.take_succ_eq_append_getElem hlt
            have HX := Aside0.mk (HKA.out keep[j] (List.getElem_mem hlt))
            have HTK := Aside0.mk htk
            clear htk e1
            generalize keep[j] = x at hcell HX HTK
            go_wp2_with (first
              | (go_at_call 96; refine (itoa_calls x HX.out.1 HX.out.2 _ (tab_below HE.out.tab HS.out.hb)).mono ?_; rintro e w1 ⟨rfl, hb⟩; have HS2 := Aside0.mk (HS.out.below hb); clear hb)
              | ((with_reducible refine gate_builtin (b := .append) (xs := #[.tmp 46, .tmp 49]) rfl ?_); at_builtin; refine LineSt.append (ba (Lib.itoa x)) rfl rfl (.tmp 46) (.tmp 49) rfl rfl rfl HS2.out (by rw [List.length_append, List.length_map, List.length_take]; omega) ?_; intro v1 w1 hS; have HS3 := Aside0.mk hS; clear hS))
            go_roundw
            case rel => exact ⟨j + 1, by omega, by simp, by rw [HTK.out, List.map_append, ← List.append_assoc]; exact HS3.out⟩
            case measure => simp [intOf]; omega
          · obtain rfl : j = keep.length := by omega
            rw [List.take_length] at HS
            have hP : (P3 ++ keep.map (fun x => ba (Lib.itoa x))).map (fun p => p.data.toList) = (gw.data.toList :: ((((if gi = true then [Lib.itoa i] else []) ++ if gn = true then [Lib.itoa n] else []) ++ if t.size = 0 then [] else [showL t.data.toList]) ++ keep.map Lib.itoa)) := by
              rw [← hP3, ← hP2, ← hP1]
              rw [show gw :: (if gi = true then [ba (Lib.itoa i)] else []) = [gw] ++ (if gi = true then [ba (Lib.itoa i)] else []) from rfl]
              simp only [List.map_append, List.map_map, List.cons_append, List.append_assoc, List.map_cons, List.map_nil, List.nil_append]
              congr 2
              · split <;> rfl
              · congr 1
                · split <;> rfl
                · congr 1
                  split <;> rfl
            have hLL : joinC 32 ((P3 ++ keep.map (fun x => ba (Lib.itoa x))).map (fun p => p.data.toList)) = L := by rw [hP]; exact HL.out.symm
            have hj2 := join_calls _ _ _ _ HS.out.ro (by rw [← hP3, ← hP2, ← hP1]; simp) (by rw [List.length_append, List.length_map]; omega) (by rw [hLL]; exact HLEN.out)
            rw [hLL] at hj2
            have HJ := Aside0.mk hj2
            clear hj2 hP hLL
            go_wp2_with (go_at_call 97; refine HJ.out.mono ?_; rintro e w1 ⟨rfl, hb⟩; have HB := Aside0.mk (HS.out.hb.trans (hb.mono HS.out.hb.size)); clear hb)
            exact bodyPost_ret (v := .string (ba L)) (by simp [results, Tryd.results72, go_sem]) rfl ⟨rfl, HB.out⟩
end Go.Proofs.YtdgdpkemboeaeaaDoor.H

