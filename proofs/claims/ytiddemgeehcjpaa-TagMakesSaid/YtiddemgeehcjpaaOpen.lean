/- What a row's reading tells of a series, and of labels, that are handed in: the cells that the walks want, and the sizes. -/
import Derived.Test.YtiddemgeehcjpaaPl
import Derived.Test.YtiddemgeehcjpaaPAx
import Derived.ChangeSame
import Derived.SizedLaws
import Derived.WideShapes
import Derived.DataElems
namespace Go.Proofs.Ytiddemgeehcjpaa.H
open Go.ChangeShapes Go.WideShapes Go.RowKit Go.Proofs.Ytiddemgeehcjpaa.PA Go.Proofs.YtiddemgeehcjpaaW.PrintWords Go.Proofs.YtiddemgeehcjpaaW.PrintLast Go.Proofs.YtiddemgeehcjpaaW.PrintMore
set_option linter.unusedVariables false
section
variable {H : Type} {enc : TypeId × Value → H} {W : World} {base : Nat} {sp : Nat → Bool} {held : Bool}

theorem cells_two {a : Addr} {cs : List Value} (h : W.cells? base a 2 = some cs) : ∃ u v, cs = [u, v] ∧ W.cell? a = some u ∧ W.cell? (a.add 1) = some v := by
  unfold World.cells? at h
  split at h
  · have e0 : a.add 0 = a := by simp [Addr.add]
    simp only [List.range_succ, List.range_zero, List.nil_append, List.cons_append, List.mapM_cons, List.mapM_nil, e0] at h
    cases h0 : W.cell? a with
    | none => simp [h0] at h
    | some u =>
      cases h1 : W.cell? (a.add 1) with
      | none => simp [h0, h1] at h
      | some v =>
        simp [h0, h1] at h
        exact ⟨u, v, h.symm, rfl, rfl⟩
  · cases h

theorem cells_str : Try.prog.cellsOf 9 = 1 := by kernel_rfl
theorem cells_lab : Try.prog.cellsOf 32 = 2 := by kernel_rfl
/-- A label's reading. -/
def labD (x : S32) : DataW H := .agg [.lit (.string x.f0.data.toList), .lit (.string x.f1.data.toList)]
set_option maxRecDepth 100000 in
theorem open_label {fuel : Nat} {cs : List Value} {y : DataW H × List MemPlace} (h : DataW.trod enc Try.prog W base sp held fuel 32 cs = some y) :
    ∃ x : S32, cs = [.string x.f0, .string x.f1] ∧ y.1 = labD x := by
  obtain ⟨y0, y1, n, rfl, hl, h0, h1⟩ := trod_struct2 Try.underlying32 h
  rw [cells_lab] at hl
  match cs, hl with
  | [u, v], _ =>
    have e0 : (([u, v].drop 0).take (Try.prog.cellsOf 9)) = [u] := by rw [cells_str]; rfl
    have e1 : (([u, v].drop 1).take (Try.prog.cellsOf 9)) = [v] := by rw [cells_str]; rfl
    change DataW.trod enc Try.prog W base sp held n 9 (([u, v].drop 0).take (Try.prog.cellsOf 9)) = _ at h0
    change DataW.trod enc Try.prog W base sp held n 9 (([u, v].drop 1).take (Try.prog.cellsOf 9)) = _ at h1
    rw [e0] at h0
    rw [e1] at h1
    obtain ⟨s0, hc0, rfl, _⟩ := DataW.trod_string Try.underlying9 h0
    obtain ⟨s1, hc1, rfl, _⟩ := DataW.trod_string Try.underlying9 h1
    exact ⟨⟨s0, s1⟩, by rw [(List.cons.inj hc0).1, (List.cons.inj hc1).1], rfl⟩
set_option maxRecDepth 100000 in
theorem weight_lab (x : S32) : DataW.weights Try.prog 32 (labD (H := H) x) = [x.f0.size, x.f1.size] := by
  unfold labD
  simp only [DataW.weights]
  rw [Try.underlying32]
  simp [DataW.weightsEach, DataW.weights]
set_option maxRecDepth 100000 in
theorem weights_all {l : List S32} (h : (DataW.weightsAll Try.prog 32 (l.map (labD (H := H)))).all (· ≤ reachBytes) = true) : ∀ x ∈ l, x.f0.size ≤ reachBytes ∧ x.f1.size ≤ reachBytes := by
  induction l with
  | nil => exact fun x hx => by cases hx
  | cons y r ih =>
    intro x hx
    simp only [List.map_cons, DataW.weightsAll, weight_lab, List.all_append, Bool.and_eq_true] at h
    rcases List.mem_cons.1 hx with rfl | hx
    · have := h.1
      simpa using this
    · exact ih h.2 x hx

set_option maxRecDepth 100000 in
/-- Labels that are handed in. -/
theorem open_labels {fuel : Nat} {cs : List Value} {y : DataW H × List MemPlace} (h : DataW.trod enc Try.prog W base sp held fuel 22 cs = some y) :
    ∃ (A : Option Addr) (c : Nat) (l : List S32), cs = [.slice A l.length c] ∧ Kd.C k32 W A l.length l ∧ l.length ≤ c ∧
      ((DataW.weights Try.prog 22 y.1).all (· ≤ reachBytes) = true → (∀ x ∈ l, x.f0.size ≤ reachBytes ∧ x.f1.size ≤ reachBytes) ∧ l.length ≤ reachBytes) := by
  rcases DataW.trod_slice Try.underlying22 h with ⟨rfl, rfl⟩ | ⟨a, len, cap, elems, rest, n, _, rfl, rfl, hb, hl, hm, hlen, hel, _, _⟩
  · exact ⟨none, 0, [], rfl, ⟨rfl, by decide, fun h => by simp at h⟩, Nat.le_refl _, fun _ => ⟨fun x hx => (by cases hx), Nat.zero_le _⟩⟩
  · rw [cells_lab] at hel
    have each : ∀ i y, elems[i]? = some y → ∃ x : S32, y.1 = labD x ∧ W.cell? (a.add (i * 2)) = some (.string x.f0) ∧ W.cell? ((a.add (i * 2)).add 1) = some (.string x.f1) := by
      intro i y hy
      have hi : i < len := by rw [← hlen]; exact (List.getElem?_eq_some_iff.1 hy).1
      have hE := hel i hi
      rw [hy, Option.bind_eq_some_iff] at hE
      obtain ⟨c1, hc1, hy1⟩ := hE
      obtain ⟨u, v, rfl, hu, hv⟩ := cells_two hc1
      obtain ⟨x, hx, hd⟩ := open_label hy1
      obtain ⟨rfl, h2⟩ := List.cons.inj hx
      obtain ⟨rfl, _⟩ := List.cons.inj h2
      exact ⟨x, hd, hu, hv⟩
    have build : ∀ (es : List (DataW H × List MemPlace)), (∀ y ∈ es, ∃ x : S32, y.1 = labD x) → ∃ l : List S32, es.map (·.1) = l.map labD := by
      intro es
      induction es with
      | nil => exact fun _ => ⟨[], rfl⟩
      | cons y r ih =>
        intro hh
        obtain ⟨x, hx⟩ := hh y (by simp)
        obtain ⟨l, hl⟩ := ih (fun z hz => hh z (by simp [hz]))
        exact ⟨x :: l, by simp [hx, hl]⟩
    obtain ⟨l, hll⟩ := build elems (fun y hy => by
      obtain ⟨i, hi⟩ := List.getElem?_of_mem hy
      obtain ⟨x, hx, _⟩ := each i y hi
      exact ⟨x, hx⟩)
    have hlen2 : l.length = len := by
      have := congrArg List.length hll
      simp at this
      omega
    have inj : ∀ x z : S32, labD (H := H) x = labD z → x = z := by
      intro x z hxz
      unfold labD at hxz
      simp only [DataW.agg.injEq, List.cons.injEq, DataW.lit.injEq, Lit.string.injEq, and_true] at hxz
      obtain ⟨h1, h2⟩ := hxz
      cases x with | mk a b => cases z with | mk c d =>
        cases a; cases b; cases c; cases d
        simp only at h1 h2
        simp_all
    refine ⟨some a, cap, l, by rw [hlen2], ⟨rfl, ?_, fun _ => ⟨a, rfl, fun j p hj => ?_⟩⟩, by omega, ?_⟩
    · have : maxLen = 9223372036854775807 := rfl
      omega
    · have hj' : j < elems.length := by
        have := (List.getElem?_eq_some_iff.1 hj).1
        omega
      obtain ⟨x, hx, h0, h1⟩ := each j _ (List.getElem?_eq_getElem hj')
      have e := congrArg (fun z => z[j]?) hll
      simp only [List.getElem?_map, List.getElem?_eq_getElem hj', hj, Option.map_some, Option.some.injEq] at e
      obtain rfl := inj _ _ (hx.symm.trans e)
      refine ⟨[.string x.f0, .string x.f1], rfl, ⟨[.string x.f0], [.string x.f1], rfl, rfl, rfl⟩, fun i u hu => ?_⟩
      match i, hu with
      | 0, hu =>
        obtain rfl := Option.some.inj hu
        exact h0
      | 1, hu =>
        obtain rfl := Option.some.inj hu
        have e2 : (a.add (j * 2)).add 1 = a.add (j * 2 + 1) := Addr.add_add _ _ _
        rw [e2] at h1
        exact h1
    · intro hw
      simp only [DataW.weights] at hw
      rw [Try.underlying22] at hw
      simp only [List.all_cons, List.all_append, Bool.and_eq_true, hll] at hw
      refine ⟨weights_all hw.2.1, ?_⟩
      have h32 : Try.prog.bytesOf 32 = 32 := by kernel_rfl
      have h1 := hw.1
      rw [h32] at h1
      have h2 := of_decide_eq_true h1
      simp only [List.length_map] at h2
      omega

end
end Go.Proofs.Ytiddemgeehcjpaa.H
