/- tag.Make itself. -/
import Derived.Test.YtiddemgeehcjpaaTagM
namespace Go.Proofs.Ytiddemgeehcjpaa.H
open Go.RowKit Go.Shelf Go.Proofs.Ytiddemgeehcjpaa.PA Go.Proofs.YtiddemgeehcjpaaW.PrintWords Go.Proofs.YtiddemgeehcjpaaW.PrintLast Go.Proofs.YtiddemgeehcjpaaW.PrintMore
set_option linter.unusedVariables false

def nameL (x : S32) : List UInt8 := x.f0.data.toList
/-- Are all names different. -/
def diffN (l : List S32) : Bool := decide (l.map nameL).Nodup
/-- By their names. -/
def sortN (l : List S32) : List S32 := l.mergeSort (fun x y => !ltName y x)

theorem lt_anti {a b : List UInt8} (h1 : Go.Sort.ltStr a b = false) (h2 : Go.Sort.ltStr b a = false) : a = b := by
  simp only [Go.Sort.ltStr, decide_eq_false_iff_not, List.not_lt] at h1 h2
  exact List.le_antisymm h2 h1

theorem name_inj {l : List S32} (h : (l.map nameL).Nodup) : ∀ a b, a ∈ l → b ∈ l → nameL a = nameL b → a = b := by
  induction l with
  | nil => intro a b ha; cases ha
  | cons x l ih =>
    simp only [List.map_cons, List.nodup_cons] at h
    intro a b ha hb e
    rcases List.mem_cons.1 ha with rfl | ha' <;> rcases List.mem_cons.1 hb with rfl | hb'
    · rfl
    · exact absurd (List.mem_map.2 ⟨b, hb', e.symm⟩) h.1
    · exact absurd (List.mem_map.2 ⟨a, ha', e⟩) h.1
    · exact ih h.2 a b ha' hb' e

theorem sorted_pair {s : List S32} (h : ∀ i j (hi : i < j) (hj : j < s.length), ltName s[j] s[i] = false) : s.Pairwise (fun a b => ltName b a = false) :=
  List.pairwise_iff_getElem.2 fun i j hi hj hij => h i j hij hj

theorem sortN_perm (l : List S32) : (sortN l).Perm l := List.mergeSort_perm _ _
theorem sortN_pair (l : List S32) : (sortN l).Pairwise (fun a b => ltName b a = false) := by
  have h := List.pairwise_mergeSort (le := fun x y => !ltName y x) (fun a b c h1 h2 => by simp only [Bool.not_eq_true'] at *; exact swo_name.ntrans _ _ _ h2 h1)
    (fun a b => by
      simp only [Bool.or_eq_true, Bool.not_eq_true']
      cases h1 : ltName b a with
      | false => exact .inl rfl
      | true =>
        refine .inr ?_
        cases h2 : ltName a b with
        | false => rfl
        | true => have := swo_name.trans _ _ _ h1 h2; rw [swo_name.irrefl] at this; cases this) l
  exact h.imp (fun h => by simpa using h)

theorem sorted_is {s l : List S32} (hp : s.Perm l) (h : ∀ i j (hi : i < j) (hj : j < s.length), ltName s[j] s[i] = false) (hd : (l.map nameL).Nodup) : s = sortN l := by
  refine List.Perm.eq_of_pairwise (le := fun a b => ltName b a = false) (fun a b ha hb h1 h2 => ?_) (sorted_pair h) (sortN_pair l) (hp.trans (sortN_perm l).symm)
  exact name_inj hd a b (hp.mem_iff.1 ha) ((sortN_perm l).mem_iff.1 hb) (lt_anti h2 h1)

/-- Two that stand side by side bear one name just if any two do. -/
theorem adj_iff {s : List S32} (h : ∀ i j (hi : i < j) (hj : j < s.length), ltName s[j] s[i] = false) (hn : ∀ i (hi : i + 1 < s.length), nameL s[i] ≠ nameL s[i + 1]) : (s.map nameL).Nodup := by
  rw [List.nodup_iff_pairwise_ne, List.pairwise_map, List.pairwise_iff_getElem]
  intro i j hi hj hij e
  have h1 : ltName s[i + 1] s[i] = false := h i (i + 1) (by omega) (by omega)
  by_cases hij' : i + 1 = j
  · subst hij'
    exact hn i hj e
  · have h2 : ltName s[j] s[i + 1] = false := h (i + 1) j (by omega) hj
    refine hn i (by omega) (lt_anti ?_ h1)
    have e2 : s[j].f0.data.toList = s[i].f0.data.toList := e.symm
    unfold ltName at h2
    rw [e2] at h2
    exact h2

theorem R_of_owns {w : World} {base : Nat} {v : Value} {l : List S32} (h : w.ownsRow base 32 2 v l.length (cellsL l)) : Kd.R k32 32 w base (fun _ => True) v l := by
  refine ⟨fun _ _ => trivial, cellsL l, h, cellsL_length l, fun j p hj => ?_⟩
  have hj' := (List.getElem?_eq_some_iff.1 hj).1
  have e : ((cellsL l).drop (j * 2)).take 2 = [.string p.f0, .string p.f1] := by
    apply List.ext_getElem?
    intro t
    have hp : l[j]! = p := by rw [getElem!_pos l j hj', (List.getElem?_eq_some_iff.1 hj).2]
    by_cases h2 : t < 2
    · rw [List.getElem?_take, if_pos h2, List.getElem?_drop, cellsL_get l _ (by omega), show (j * 2 + t) / 2 = j by omega, show (j * 2 + t) % 2 = t by omega, hp]
      have : t = 0 ∨ t = 1 := by omega
      rcases this with rfl | rfl <;> rfl
    · rw [List.getElem?_take, if_neg h2, List.getElem?_eq_none (by simp; omega)]
  show k32.M _ _ _ p (((cellsL l).drop (j * 2)).take 2)
  rw [e]
  exact k32_mkM _ _ _ p

theorem below_two {w W : World} {n g : Nat} {a b : Value} (hg : n ≤ g) (h : Below n w W) : Below n w ((W.setCell ⟨g, 0, none⟩ a).setCell ⟨g, 1, none⟩ b) :=
  (h.setCell (p := ⟨g, 0, none⟩) hg _).setCell (p := ⟨g, 1, none⟩) hg _
theorem res_cells {W : World} {g T : Nat} {a b : Value} (h : W.heap[g]? = some (.cells #[a, b] T (0, 0))) : W.cell? ⟨g, 0, none⟩ = some a ∧ W.cell? ⟨g, 1, none⟩ = some b ∧ W.frozen? ⟨g, 0, none⟩ = false ∧ W.frozen? ⟨g, 1, none⟩ = false :=
  ⟨by rw [Lib.cell_of_heap h]; rfl, by rw [Lib.cell_of_heap h]; rfl, Lib.frozen_of_heap h 0, Lib.frozen_of_heap h 1⟩
/-- Two cells of a result, written: what is read of them. -/
theorem res_two {W : World} {g T : Nat} {a b : Value} (h : W.heap[g]? = some (.cells #[a, b] T (0, 0))) (x y : Value) : (W.setCell ⟨g, 0, none⟩ x).cell? ⟨g, 0, none⟩ = some x ∧ ((W.setCell ⟨g, 0, none⟩ x).setCell ⟨g, 1, none⟩ y).cell? ⟨g, 1, none⟩ = some y := by
  obtain ⟨k0, k1, _, _⟩ := res_cells h
  refine ⟨World.cell?_setCell_same' _ _ _ (by rw [k0]; rfl), World.cell?_setCell_same' _ _ _ ?_⟩
  rw [World.cell?_setCell_other (w := W) (a := ⟨g, 0, none⟩) (b := ⟨g, 1, none⟩) (v := x) (by simp), k1]
  rfl
theorem R_two {α : Type} {d : Kd α} {e base g T : Nat} {W : World} {v a b x y : Value} {xs : List α} (h : W.heap[g]? = some (.cells #[a, b] T (0, 0))) (ht : ∀ q, q ∈ e :: d.E → q ≠ T) (hR : Kd.R d e W base (fun _ => True) v xs) :
    Kd.R d e ((W.setCell ⟨g, 0, none⟩ x).setCell ⟨g, 1, none⟩ y) base (fun _ => True) v xs := by
  have h1 := Kd.R_types hR h ht
  have h2 := Kd.R_far (p := ⟨g, 0, none⟩) h1 (fun _ hk => hk.2) x
  have h3 := Kd.R_far (p := ⟨g, 1, none⟩) h2 (fun _ hk => hk.2) y
  exact Kd.R_mono h3 (fun _ _ => trivial)
def sized (l : List S32) : Bool := l.all (fun x => decide (x.f0.size ≤ 140737488355328) && decide (x.f1.size ≤ 140737488355328))

def makeR (m : ByteArray) (l : List S32) : ByteArray × List S32 × Int :=
  if nameB m = false then (⟨#[]⟩, [], 7) else if l.all okS = false then (⟨#[]⟩, [], 10) else if diffN l = false then (⟨#[]⟩, [], 6) else if 6 < l.length then (⟨#[]⟩, [], 3) else (m, sortN l, 0)
-- EXT tidemill/tag.Make plain making
def tag_Make.f (a0 : ByteArray) (l1 : List S32) : Option (ByteArray × List S32 × Int) := if (decide (a0.size ≤ 140737488355328) && decide (l1.length ≤ 1000000) && sized l1) = true then some (makeR a0 l1) else none

set_option maxRecDepth 100000 in
set_option maxHeartbeats 4000000 in
theorem make_calls (m : ByteArray) (A : Option Addr) (c : Nat) (l : List S32) (w : World) (hC : Kd.C k32 w A l.length l) (hc0 : l.length ≤ c) (hm : m.size ≤ 140737488355328) (hl : l.length ≤ 1000000) (hs : sized l = true) :
    Calls Try.prog 6 #[.string m, .slice A l.length c] w fun e w' => ∃ v1_ : Value, e = .returned (.tuple #[.agg #[.string (makeR m l).1, v1_], .int .i64 (makeR m l).2.2]) ∧ Kd.R k32 32 w' w.heap.size (fun _ => True) v1_ (makeR m l).2.1 ∧ Below w.heap.size w w' := by
  have huL := Try.underlying32
  have huS := Try.underlying25
  have hn := fun W => tag_Name.calls (m.size + 2) m _ W (tagName_eq m hm _ (by omega))
  have hlab := fun W (hb : Below w.heap.size w W) => tag_labels.calls A c l _ W (Kd.C_below hC hb) hc0 (if_pos hs)
  cases h1 : nameB m with
  | false =>
    have hr : makeR m l = (⟨#[]⟩, [], 7) := by unfold makeR; rw [if_pos h1]
    rw [hr]
    rw [h1] at hn
    clear hlab hC hs h1 hr
    go_enter Try.func6, Try.ntmps6
    go_wp2_with (go_at_call 15; refine (hn _).mono ?_; rintro e w' ⟨rfl, ⟨nd, rfl⟩⟩)
    exact bodyPost_ret (v := .tuple #[.agg #[.string ⟨#[]⟩, .slice none 0 0], .int .i64 7]) (by simp [results, Try.results6, go_sem]) rfl ⟨_, rfl, Kd.R_nil _ _ _ _ _, below_two (Nat.le_refl _) (pw_below_drewN ((Below.refl _ w).alloc (Nat.le_refl _) _) _)⟩
  | true =>
    rw [h1] at hn
    have hlab2 := fun W hb => hlab W hb
    cases h2 : l.all okS with
    | false =>
      have hr : makeR m l = (⟨#[]⟩, [], 10) := by unfold makeR; rw [if_neg (by rw [h1]; decide), if_pos h2]
      rw [hr]
      rw [h2] at hlab
      clear hC hs h1 h2 hr hlab2
      go_enter Try.func6, Try.ntmps6
      go_wp2_with (go_at_call 15; refine (hn _).mono ?_; rintro e w' ⟨rfl, ⟨nd, rfl⟩⟩)
      go_at_call 16
      have hb1 : Below w.heap.size w ((w.alloc (.cells #[.string ⟨#[]⟩, .slice none 0 0] 25)).drewN nd) := pw_below_drewN ((Below.refl _ w).alloc (Nat.le_refl _) _) _
      have hres : ((w.alloc (.cells #[.string ⟨#[]⟩, .slice none 0 0] 25)).drewN nd).heap[w.heap.size]? = some (.cells #[.string ⟨#[]⟩, .slice none 0 0] 25 (0, 0)) := heap_alloc_new w _
      refine (hlab _ hb1).mono ?_
      rintro e w2 ⟨rfl, hb2⟩
      have hres2 := (hb2.block w.heap.size (by simp)).trans hres
      obtain ⟨k0, k1, k2, k3⟩ := res_cells hres2
      have HB := Aside0.mk (hb1.trans (hb2.mono hb1.size))
      have E := Aside0.mk (res_two hres2 (.string ⟨#[]⟩) (.slice none 0 0))
      clear hb2 hres2 hres hb1 hlab hn
      go_wp2
      exact bodyPost_ret (v := .tuple #[.agg #[.string ⟨#[]⟩, .slice none 0 0], .int .i64 10]) (by simp [results, Try.results6, go_sem, E.out.1, E.out.2]) rfl ⟨_, rfl, Kd.R_nil _ _ _ _ _, below_two (Nat.le_refl _) HB.out⟩
    | true =>
      have hs0 := hC
      rw [h2] at hlab
      go_enter Try.func6, Try.ntmps6
      go_wp2_with (go_at_call 15; refine (hn _).mono ?_; rintro e w' ⟨rfl, ⟨nd, rfl⟩⟩)
      go_at_call 16
      have hb1 : Below w.heap.size w ((w.alloc (.cells #[.string ⟨#[]⟩, .slice none 0 0] 25)).drewN nd) := pw_below_drewN ((Below.refl _ w).alloc (Nat.le_refl _) _) _
      have hres : ((w.alloc (.cells #[.string ⟨#[]⟩, .slice none 0 0] 25)).drewN nd).heap[w.heap.size]? = some (.cells #[.string ⟨#[]⟩, .slice none 0 0] 25 (0, 0)) := heap_alloc_new w _
      refine (hlab _ hb1).mono ?_
      rintro e w2 ⟨rfl, hb2⟩
      have hres2 := (hb2.block w.heap.size (by simp)).trans hres
      have hb12 := hb1.trans (hb2.mono hb1.size)
      have hz2 : w.heap.size < w2.heap.size := (Array.getElem?_eq_some_iff.1 hres2).1
      have HB := Aside0.mk hb12
      have HR := Aside0.mk hres2
      have HC2 := Aside0.mk (Kd.C_below hC hb12)
      clear hb2 hres2 hres hb1 hlab hlab2 hn hb12 hs0 hC
      go_wp2_with fail
      go_at_call 18
      refine (values_calls A l.length c w2).mono ?_
      rintro e w3 ⟨rfl, rfl⟩
      go_wp2_with fail
      go_at_call 17
      have hb3 : Below w2.heap.size w2 (w2.alloc (.cells #[.slice A l.length c] 22)) := (Below.refl _ _).alloc (Nat.le_refl _) _
      refine (sortedFunc_calls A c l (w2.alloc (.cells #[.slice A l.length c] 22)) w2.heap.size (by simp) (by rw [Lib.cell_of_heap (heap_alloc_new w2 _)]; rfl) (Kd.C_below HC2.out hb3) hl).mono ?_
      rintro e w4 ⟨v, rfl, s, hp, hso, ho, hb4⟩
      have hbz : w2.heap.size ≤ w4.heap.size := by have := hb4.size; simp at this; omega
      have hb24 : Below w2.heap.size w2 w4 := hb3.trans (hb4.mono (by simp))
      have hres4 := (hb24.block w.heap.size hz2).trans HR.out
      obtain ⟨k0, k1, k2, k3⟩ := res_cells hres4
      have HB4 := Aside0.mk (HB.out.trans (hb24.mono HB.out.size))
      have hRS := Kd.R_lower (R_of_owns ho) (show w.heap.size ≤ _ by simp; omega)
      obtain ⟨A', c', rfl, hlc, hC4⟩ := Kd.R_reads hRS
      have hlen : s.length = l.length := hp.length_eq
      have HRS := Aside0.mk hRS
      have HC4 := Aside0.mk hC4
      have HP := Aside0.mk hp
      have HSO := Aside0.mk hso
      have HR4 := Aside0.mk hres4
      have E6 := Aside0.mk (fun n => res_two (W := w4.drewN n) hres4 (.string ⟨#[]⟩) (.slice none 0 0))
      have E7 := Aside0.mk (fun n => res_two (W := w4.drewN n) hres4 (.string m) (.slice A' s.length c'))
      have HH := Aside0.mk h1
      have HH2 := Aside0.mk h2
      have hls : s.length ≤ 1000000 := by omega
      have HLN := Aside0.mk hlen
      clear hb3 hb4 hb24 hres4 hRS hC4 hp hso ho h1 h2 hlen hz2
      go_wp2
      go_loopw [7] (fun i wr => ∃ k : Nat, 1 ≤ k ∧ (k ≤ s.length ∨ k = 1) ∧ i = .int .i64 k ∧ (∀ j (hj : j + 1 < k) (hj' : j + 1 < s.length), nameL s[j] ≠ nameL s[j + 1]) ∧ ∃ q, wr = w4.drewN q) (fun i _ => 1000001 - (intOf i).toNat)
      case atStart => exact ⟨1, by omega, .inr rfl, rfl, fun j hj => by omega, 0, rfl⟩
      case round =>
        obtain ⟨k, hk1, hk2, rfl, hne, q, rfl⟩ := hrel
        have HNE := Aside0.mk hne
        clear hne
        by_cases hlt : k < s.length
        · obtain ⟨ad, rfl, hc0, _⟩ := at_T32 HC4.out (k : Int) (by omega) (by omega)
          obtain ⟨ad', e', hd0, _⟩ := at_T32 HC4.out ((k - 1 : Nat) : Int) (by omega) (by omega)
          cases e'
          rw [lab_at s k hlt] at hc0
          rw [lab_at s (k - 1) (by omega)] at hd0
          simp only [Int.toNat_natCast] at hc0 hd0
          have q1 : (0 : Int) ≤ (k : Int) - 1 := by omega
          have q2 : (k : Int) - 1 < (s.length : Int) := by omega
          have q3 : (0 : Int) ≤ (k : Int) := by omega
          have q4 : (k : Int) < (s.length : Int) := by omega
          by_cases heq : nameL s[k - 1] = nameL s[k]
          · have hteq : (s[k - 1].f0.toList == s[k].f0.toList) = true := by rw [Lib.toList_data, Lib.toList_data]; exact beq_iff_eq.2 heq
            have hr : makeR m l = (⟨#[]⟩, [], 6) := by
              have hd : diffN l = false := by
                refine decide_eq_false fun hnd => ?_
                have hnd' : (s.map nameL).Nodup := ((HP.out.map nameL).nodup_iff).2 hnd
                rw [List.nodup_iff_pairwise_ne, List.pairwise_map, List.pairwise_iff_getElem] at hnd'
                exact hnd' (k - 1) k (by omega) hlt (by omega) heq
              unfold makeR
              rw [if_neg (by rw [HH.out]; decide), if_neg (by rw [HH2.out]; decide), if_pos hd]
            have Hr := Aside0.mk hr
            clear heq hr
            go_wp2
            go_quiet (fail)
            go_wp2
            rw [Hr.out]
            exact bodyPost_ret (v := .tuple #[.agg #[.string ⟨#[]⟩, .slice none 0 0], .int .i64 6]) (by simp [results, Try.results6, go_sem, (E6.out _).1, (E6.out _).2]) rfl ⟨_, rfl, Kd.R_nil _ _ _ _ _, below_two (Nat.le_refl _) (pw_below_drewN HB4.out _)⟩
          · have hteq : (s[k - 1].f0.toList == s[k].f0.toList) = false := by rw [Lib.toList_data, Lib.toList_data]; exact beq_eq_false_iff_ne.2 heq
            have HEQ := Aside0.mk heq
            clear heq
            go_wp2
            go_quiet (fail)
            go_wp2
            go_roundw
            case rel =>
              refine ⟨k + 1, by omega, by omega, by simp, fun j hj hj' => ?_, _, rfl⟩
              by_cases h : j + 1 < k
              · exact HNE.out j h hj'
              · obtain rfl : k = j + 1 := by omega
                simpa using HEQ.out
            case measure => simp [intOf]; omega
        · have hnd : (s.map nameL).Nodup := adj_iff HSO.out (fun i hi => HNE.out i (by omega) hi)
          have hnd' : (l.map nameL).Nodup := ((HP.out.map nameL).nodup_iff).1 hnd
          have hd : diffN l = true := decide_eq_true hnd'
          have hsn : s = sortN l := sorted_is HP.out HSO.out hnd'
          by_cases h6 : 6 < s.length
          · have hr : makeR m l = (⟨#[]⟩, [], 3) := by
              unfold makeR
              rw [if_neg (by rw [HH.out]; decide), if_neg (by rw [HH2.out]; decide), if_neg (by rw [hd]; decide), if_pos (by have := HLN.out; omega)]
            have Hr := Aside0.mk hr
            clear hr hsn hd hnd hnd'
            go_wp2
            rw [Hr.out]
            exact bodyPost_ret (v := .tuple #[.agg #[.string ⟨#[]⟩, .slice none 0 0], .int .i64 3]) (by simp [results, Try.results6, go_sem, (E6.out _).1, (E6.out _).2]) rfl ⟨_, rfl, Kd.R_nil _ _ _ _ _, below_two (Nat.le_refl _) (pw_below_drewN HB4.out _)⟩
          · have hr : makeR m l = (m, s, 0) := by
              unfold makeR
              rw [if_neg (by rw [HH.out]; decide), if_neg (by rw [HH2.out]; decide), if_neg (by rw [hd]; decide), if_neg (by have := HLN.out; omega), hsn]
            have Hr := Aside0.mk hr
            clear hr hsn hd hnd hnd'
            go_wp2
            rw [Hr.out]
            exact bodyPost_ret (v := .tuple #[.agg #[.string m, .slice A' s.length c'], .int .i64 0]) (by simp [results, Try.results6, go_sem, (E7.out _).1, (E7.out _).2]) rfl ⟨_, rfl, R_two HR4.out (by decide) (Kd.R_below HRS.out (pw_below_drewN (Below.refl _ _) q)), below_two (Nat.le_refl _) (pw_below_drewN HB4.out _)⟩

theorem tag_Make.calls (a0 : ByteArray) (A1 : Option Addr) (c1 : Nat) (l1 : List S32) (r1 : ByteArray) (r2 : List S32) (r3 : Int) (w : World) (hr1 : Kd.C k32 w A1 l1.length l1) (hc1 : l1.length ≤ c1) (h : tag_Make.f a0 l1 = some (r1, r2, r3)) :
    Calls Try.prog 6 #[.string a0, .slice A1 l1.length c1] w fun e w' => ∃ v1_ : Value, e = .returned (.tuple #[.agg #[.string r1, v1_], .int .i64 r3]) ∧ Kd.R k32 32 w' w.heap.size (fun _ => True) v1_ r2 ∧ Below w.heap.size w w' := by
  unfold tag_Make.f at h
  split at h
  · rename_i hs
    simp only [Bool.and_eq_true, decide_eq_true_eq] at hs
    have e := Option.some.inj h
    have := make_calls a0 A1 c1 l1 w hr1 hc1 hs.1.1 hs.1.2 hs.2
    rw [e] at this
    exact this
  · cases h
end Go.Proofs.Ytiddemgeehcjpaa.H
