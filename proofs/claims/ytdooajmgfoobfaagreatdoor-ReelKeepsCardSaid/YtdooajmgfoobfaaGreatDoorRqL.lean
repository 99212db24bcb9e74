/- What the row of ReelKeeps hands to its walk. -/
import Derived.Test.YtdooajmgfoobfaaGreatDoorRqA
import Derived.Test.YtdooajmgfoobfaaGreatDoorRows
import Derived.Lib.LaidTab
import Derived.LaidMore
import Derived.MakeChecks
import Derived.Stop.LaidErr
import Derived.OpenShut
import Derived.ChangeSame
import Derived.ChangeAt
import Derived.ChangeAt2
import Derived.ShutString
import Derived.ChangeOld
import Derived.ChangeSlices
import Derived.Test.YtdooajmgfoobfaaGreatDoorRqF
import Derived.SizedLaws
import Derived.WideShapes
import Derived.DataElems
import Derived.Test.YtdooajmgfoobfaaGreatDoorRqK
namespace Go.Proofs.YtdooajmgfoobfaaGreatDoor.H
open Go.ChangeShapes Go.WideShapes Go.ChangeAt Go.RowKit Go.Shelf Go.Proofs.YtdooajmgfoobfaaGreatDoor.PA Go.Proofs.YtdooajmgfoobfaaGreatDoorW.PrintWords Go.Proofs.YtdooajmgfoobfaaGreatDoorW.PrintLast Go.Proofs.YtdooajmgfoobfaaGreatDoorW.PrintMore
set_option linter.unusedVariables false
set_option linter.unusedSimpArgs false
theorem starE : "*" ++ "errors.errorString" = "*errors.errorString" := by decide
theorem rowE (u : TypeId) (h : Tryz.prog.typeName? 3 u = some "*errors.errorString") : u = 168 :=
  typeName_ptr_named (nm := "errors.errorString") (by rw [starE]; kernel_rfl) (by kernel_rfl) (by decide) u (by rw [starE]; exact h)
theorem cell_of_sentinel {W : World} {n : String} {g : Nat} {v : Value} (hg : Tryz.prog.globalNamed n = some g) (h : W.var? Tryz.prog n = some #[v]) : W.cell? ⟨g, 0, none⟩ = some v := by
  have := World.var?_cell hg h 0
  simpa using this
theorem gNib : Tryz.prog.globalNamed "tidemill/link.nibbles" = some 1 := by kernel_rfl
theorem gNibType : (Tryz.prog.globals[1]?).map (·.type) = some 118 := by kernel_rfl
theorem nibD : (Rows.laid_tidemill_link_nibbles : DataW Unit) = Lib.tabData .u32 nibL := by kernel_rfl
theorem cell_lt {W : World} {g : Nat} {v : Value} (h : W.cell? ⟨g, 0, none⟩ = some v) : g < W.heap.size := World.block_lt_of_cell? _ _ h
/-- The rows' list of variables, met: what the walks read of them. -/
theorem ev_of {W : World} {a b c d : String × DataW Unit} (hp : ((a :: b :: c :: d :: ("strconv.ErrSyntax", Rows.laid_strconv_ErrSyntax) :: [("tidemill/link.nibbles", Rows.laid_tidemill_link_nibbles)]).all fun x => x.2.handleName?.isNone) = true)
    (hL : laidMetH Tryz.prog (a :: b :: c :: d :: ("strconv.ErrSyntax", Rows.laid_strconv_ErrSyntax) :: [("tidemill/link.nibbles", Rows.laid_tidemill_link_nibbles)]) W) : Ev W.heap.size W := by
  rw [MakeChecks.laidMetH_plain _ _ _ hp, nibD] at hL
  have h4 := laidMet.tail (laidMet.tail (laidMet.tail (laidMet.tail hL)))
  have h5 := laidMet.tail h4
  have htab := Lib.tabIs_of_head gNib gNibType Tryz.underlying118 Tryz.underlying95 (by kernel_rfl) (by kernel_rfl) h5
  obtain ⟨a1, s1, v1, _, _, _⟩ := laid_sentinel (g := 3) (ti := 132) (tp := 168) (te := 170) (ts := 9) h4 (by kernel_rfl) (by kernel_rfl) Tryz.underlying132 rowE Tryz.underlying168 Tryz.underlying170 rfl rfl Tryz.underlying9 (by kernel_rfl) (by kernel_rfl)
  have hsyn := cell_of_sentinel (g := 3) (by kernel_rfl) v1
  have hnib : Nib W := fun j hj => by
    unfold Lib.TabIs at htab
    rw [World.var?_cell gNib htab j]
    have hl : nibL.length = 16 := by decide
    rw [List.getElem?_toArray, List.getElem?_map, List.getElem?_eq_getElem (by omega), List.getD_eq_getElem?_getD, List.getElem?_eq_getElem (by omega)]
    rfl
  exact ⟨⟨⟨_, _, hsyn⟩, hnib⟩, cell_lt hsyn, cell_lt (hnib 0 (by decide)), Nat.le_refl _⟩
/-- A slice of bytes that is handed in: what its reading tells. -/
theorem open_rowI {H : Type} {enc : TypeId × Value → H} {W : World} {base : Nat} {sp : Nat → Bool} {held : Bool} {a : Option Addr} {len cap : Nat} {y : DataW H × List MemPlace} (h : ∃ fuel, DataW.trod enc Tryz.prog W base sp held fuel 22 (Value.slice a len cap).cells.toList = some y) :
    ∃ l : List Int, len = l.length ∧ l.length ≤ cap ∧ (Kd.int .u8).C W a l.length l ∧ ∀ n ∈ l, 0 ≤ n ∧ n ≤ 255 := by
  obtain ⟨fuel, hf⟩ := h
  rcases open_ints Tryz.underlying22 Tryz.underlying5 (by kernel_rfl) hf with ⟨hcs, _⟩ | ⟨x, n, c, zs, hcs, _, hl, hm, hz, _, hcell, hwz⟩
  · simp [Value.cells] at hcs
    obtain ⟨rfl, rfl, rfl⟩ := hcs
    exact ⟨[], rfl, Nat.le_refl _, Kd.C_of_reads (d := 0) ⟨rfl, by simp, fun h => by simp at h⟩, by simp⟩
  · simp [Value.cells] at hcs
    obtain ⟨rfl, rfl, rfl⟩ := hcs
    have hzl : len ≤ zs.length := by rw [hz]; split <;> omega
    have hlen : (zs.take len).length = len := by rw [List.length_take]; omega
    unfold maxLen at hm
    refine ⟨zs.take len, hlen.symm, by omega, Kd.C_of_reads (d := 0) ⟨rfl, by omega, fun h => ⟨x, rfl, fun j hj => ?_⟩⟩, fun n hn => ?_⟩
    · rw [hcell j (by omega), List.getD_eq_getElem?_getD, List.getD_eq_getElem?_getD, List.getElem?_take, if_pos (by omega)]
    · have := hwz n (List.mem_of_mem_take hn)
      simp only [Lit.wf, Bool.and_eq_true, decide_eq_true_eq] at this
      exact this
end Go.Proofs.YtdooajmgfoobfaaGreatDoor.H
namespace Go.Proofs.YtdooajmgfoobfaaGreatDoor.H
open Go.ChangeShapes Go.WideShapes Go.RowKit Go.Shelf Go.Proofs.YtdooajmgfoobfaaGreatDoor.PA Go.Proofs.YtdooajmgfoobfaaGreatDoorW.PrintWords Go.Proofs.YtdooajmgfoobfaaGreatDoorW.PrintLast Go.Proofs.YtdooajmgfoobfaaGreatDoorW.PrintMore
set_option linter.unusedVariables false
set_option linter.unusedSimpArgs false
section
variable {H : Type} {enc : TypeId × Value → H} {W : World} {base : Nat} {sp : Nat → Bool} {held : Bool} {P : Program}
theorem trod_struct4 {t : TypeId} {f0 f1 f2 f3 : Field} {fuel : Nat} {cs : List Value} {x : DataW H × List MemPlace} (ht : P.underlying t = some (.struct #[f0, f1, f2, f3])) (h : DataW.trod enc P W base sp held fuel t cs = some x) :
    ∃ y0 y1 y2 y3 n, cs.length = P.cellsOf t ∧ DataW.trod enc P W base sp held n f0.type ((cs.drop f0.offset).take (P.cellsOf f0.type)) = some y0 ∧
      DataW.trod enc P W base sp held n f1.type ((cs.drop f1.offset).take (P.cellsOf f1.type)) = some y1 ∧ DataW.trod enc P W base sp held n f2.type ((cs.drop f2.offset).take (P.cellsOf f2.type)) = some y2 ∧
      DataW.trod enc P W base sp held n f3.type ((cs.drop f3.offset).take (P.cellsOf f3.type)) = some y3 := by
  obtain ⟨xs, n, _, rfl, hl, hlen, hf⟩ := DataW.trod_struct ht h
  match xs, hlen with
  | [y0, y1, y2, y3], _ => exact ⟨y0, y1, y2, y3, n, hl, by simpa using hf 0 f0 rfl, by simpa using hf 1 f1 rfl, by simpa using hf 2 f2 rfl, by simpa using hf 3 f3 rfl⟩
theorem cells_four {a : Addr} {cs : List Value} (h : W.cells? base a 4 = some cs) : cs.length = 4 ∧ ∀ i u, cs[i]? = some u → W.cell? (a.add i) = some u := by
  unfold World.cells? at h
  split at h
  · simp only [List.range_succ, List.range_zero, List.nil_append, List.cons_append, List.mapM_cons, List.mapM_nil] at h
    cases h0 : W.cell? (a.add 0) with
    | none => simp [h0] at h
    | some u0 =>
      cases h1 : W.cell? (a.add 1) with
      | none => simp [h0, h1] at h
      | some u1 =>
        cases h2 : W.cell? (a.add 2) with
        | none => simp [h0, h1, h2] at h
        | some u2 =>
          cases h3 : W.cell? (a.add 3) with
          | none => simp [h0, h1, h2, h3] at h
          | some u3 =>
            simp [h0, h1, h2, h3] at h
            subst h
            refine ⟨rfl, fun i u hu => ?_⟩
            match i, hu with
            | 0, hu => rw [h0]; exact hu
            | 1, hu => rw [h1]; exact hu
            | 2, hu => rw [h2]; exact hu
            | 3, hu => rw [h3]; exact hu
  · cases h
theorem open_intsC {fuel : Nat} {a : Option Addr} {len cap : Nat} {y : DataW H × List MemPlace} (hf : DataW.trod enc Tryz.prog W base sp held fuel 41 [.slice a len cap] = some y) : ∃ l : List Int, len = l.length ∧ l.length ≤ cap ∧ (Kd.int .i64).C W a l.length l := by
  rcases open_ints Tryz.underlying41 Tryz.underlying3 (by kernel_rfl) hf with ⟨hcs, _⟩ | ⟨x, n, c, zs, hcs, _, hl, hm, hz, _, hcell, hwz⟩
  · simp at hcs
    obtain ⟨rfl, rfl, rfl⟩ := hcs
    exact ⟨[], rfl, Nat.le_refl _, Kd.C_of_reads (d := 0) ⟨rfl, by simp, fun h => by simp at h⟩⟩
  · simp at hcs
    obtain ⟨rfl, rfl, rfl⟩ := hcs
    have hzl : len ≤ zs.length := by rw [hz]; split <;> omega
    have hlen : (zs.take len).length = len := by rw [List.length_take]; omega
    unfold maxLen at hm
    refine ⟨zs.take len, hlen.symm, by omega, Kd.C_of_reads (d := 0) ⟨rfl, by omega, fun h => ⟨x, rfl, fun j hj => ?_⟩⟩⟩
    rw [hcell j (by omega), List.getD_eq_getElem?_getD, List.getD_eq_getElem?_getD, List.getElem?_take, if_pos (by omega)]
theorem cellsAct : Tryz.prog.cellsOf 43 = 4 := by kernel_rfl
theorem cellsInt : Tryz.prog.cellsOf 3 = 1 := by kernel_rfl
theorem cellsInts : Tryz.prog.cellsOf 41 = 1 := by kernel_rfl
theorem cellsBytes : Tryz.prog.cellsOf 22 = 1 := by kernel_rfl
set_option maxRecDepth 100000 in
theorem open_act {fuel : Nat} {cs : List Value} {y : DataW H × List MemPlace} (h : DataW.trod enc Tryz.prog W base sp held fuel 43 cs = some y) : ∃ x : SAct, kAct.K W x cs ∧ ∀ z ∈ x.f2, 0 ≤ z ∧ z ≤ 255 := by
  obtain ⟨y0, y1, y2, y3, n, hl, h0, h1, h2, h3⟩ := trod_struct4 Tryz.underlying43 h
  rw [cellsAct] at hl
  match cs, hl with
  | [c0, c1, c2, c3], _ =>
    change DataW.trod enc Tryz.prog W base sp held n 3 (([c0, c1, c2, c3].drop 0).take (Tryz.prog.cellsOf 3)) = _ at h0
    change DataW.trod enc Tryz.prog W base sp held n 3 (([c0, c1, c2, c3].drop 1).take (Tryz.prog.cellsOf 3)) = _ at h1
    change DataW.trod enc Tryz.prog W base sp held n 22 (([c0, c1, c2, c3].drop 2).take (Tryz.prog.cellsOf 22)) = _ at h2
    change DataW.trod enc Tryz.prog W base sp held n 41 (([c0, c1, c2, c3].drop 3).take (Tryz.prog.cellsOf 41)) = _ at h3
    rw [cellsInt] at h0 h1
    rw [cellsBytes] at h2
    rw [cellsInts] at h3
    change DataW.trod enc Tryz.prog W base sp held n 3 [c0] = _ at h0
    change DataW.trod enc Tryz.prog W base sp held n 3 [c1] = _ at h1
    change DataW.trod enc Tryz.prog W base sp held n 22 [c2] = _ at h2
    change DataW.trod enc Tryz.prog W base sp held n 41 [c3] = _ at h3
    obtain ⟨n0, e0, _⟩ := DataW.trod_int Tryz.underlying3 h0
    obtain ⟨n1, e1, _⟩ := DataW.trod_int Tryz.underlying3 h1
    have hs2 : ∃ a len cap, c2 = .slice a len cap := by
      rcases DataW.trod_slice Tryz.underlying22 h2 with ⟨hc, _⟩ | ⟨a, len, cap, _, _, _, _, hc, _⟩
      · exact ⟨_, _, _, (List.cons.inj hc).1⟩
      · exact ⟨_, _, _, (List.cons.inj hc).1⟩
    have hs3 : ∃ a len cap, c3 = .slice a len cap := by
      rcases DataW.trod_slice Tryz.underlying41 h3 with ⟨hc, _⟩ | ⟨a, len, cap, _, _, _, _, hc, _⟩
      · exact ⟨_, _, _, (List.cons.inj hc).1⟩
      · exact ⟨_, _, _, (List.cons.inj hc).1⟩
    obtain ⟨a2, len2, cap2, rfl⟩ := hs2
    obtain ⟨a3, len3, cap3, rfl⟩ := hs3
    obtain ⟨l2, rfl, hlc2, hC2, hu⟩ := open_rowI (cap := cap2) ⟨n, h2⟩
    obtain ⟨l3, rfl, hlc3, hC3⟩ := open_intsC h3
    obtain rfl := (List.cons.inj e0).1
    obtain rfl := (List.cons.inj e1).1
    exact ⟨⟨n0, n1, l2, l3⟩, k43_mk W ⟨n0, n1, l2, l3⟩ hlc2 hC2 hlc3 hC3, hu⟩
theorem choose_list {α : Type} (Pr : Nat → α → Prop) : ∀ n, (∀ i, i < n → ∃ x, Pr i x) → ∃ l : List α, l.length = n ∧ ∀ (i : Nat) (x : α), l[i]? = some x → Pr i x
  | 0, _ => ⟨[], rfl, fun i x h => by simp at h⟩
  | n + 1, h => by
    obtain ⟨l, hl, hp⟩ := choose_list Pr n (fun i hi => h i (by omega))
    obtain ⟨x, hx⟩ := h n (by omega)
    refine ⟨l ++ [x], by rw [List.length_append, hl]; rfl, fun i z hz => ?_⟩
    by_cases hi : i < l.length
    · rw [List.getElem?_append_left hi] at hz
      exact hp i z hz
    · have hi2 := (List.getElem?_eq_some_iff.1 hz).1
      rw [List.length_append, List.length_singleton] at hi2
      obtain rfl : i = l.length := by omega
      rw [List.getElem?_append_right (Nat.le_refl _), Nat.sub_self] at hz
      obtain rfl : x = z := by simpa using hz
      rw [hl]
      exact hx
set_option maxRecDepth 100000 in
/-- Acts that are handed in: what their reading tells. -/
theorem open_acts {a : Option Addr} {len cap : Nat} {y : DataW H × List MemPlace} (h : ∃ fuel, DataW.trod enc Tryz.prog W base sp held fuel 39 (Value.slice a len cap).cells.toList = some y) :
    ∃ l : List SAct, len = l.length ∧ l.length ≤ cap ∧ Kd.C kAct W a l.length l ∧ ∀ x ∈ l, ∀ z ∈ x.f2, 0 ≤ z ∧ z ≤ 255 := by
  obtain ⟨fuel, hf⟩ := h
  rcases DataW.trod_slice Tryz.underlying39 hf with ⟨hcs, _⟩ | ⟨a', len', cap', elems, rest, n, _, hcs, _, hb, hl, hm, hlen, hel, _, _⟩
  · simp [Value.cells] at hcs
    obtain ⟨rfl, rfl, rfl⟩ := hcs
    exact ⟨[], rfl, Nat.le_refl _, ⟨rfl, by simp, fun h => by simp at h⟩, by simp⟩
  · simp [Value.cells] at hcs
    obtain ⟨rfl, rfl, rfl⟩ := hcs
    rw [cellsAct] at hel
    obtain ⟨l, hll, hp⟩ := choose_list (fun i (x : SAct) => (∃ cs, kAct.K W x cs ∧ cs.length = 4 ∧ ∀ j u, cs[j]? = some u → W.cell? ((a'.add (i * 4)).add j) = some u) ∧ ∀ z ∈ x.f2, 0 ≤ z ∧ z ≤ 255) len (fun i hi => by
      have hE := hel i hi
      rw [List.getElem?_eq_getElem (by omega), Option.bind_eq_some_iff] at hE
      obtain ⟨c1, hc1, hy1⟩ := hE
      obtain ⟨h5, hc⟩ := cells_four hc1
      obtain ⟨x, hx, hu⟩ := open_act hy1
      exact ⟨x, ⟨c1, hx, h5, hc⟩, hu⟩)
    unfold maxLen at hm
    refine ⟨l, hll.symm, by omega, ⟨rfl, by omega, fun _ => ⟨a', rfl, fun j p hj => ?_⟩⟩, fun x hx => ?_⟩
    · obtain ⟨⟨cs, hk, h5, hc⟩, _⟩ := hp j p hj
      refine ⟨cs, h5, hk, fun i u hu => ?_⟩
      have := hc i u hu
      rw [Addr.add_add] at this
      exact this
    · obtain ⟨i, hi⟩ := List.mem_iff_getElem?.1 hx
      exact (hp i x hi).2
end
end Go.Proofs.YtdooajmgfoobfaaGreatDoor.H
namespace Go.Proofs.YtdooajmgfoobfaaGreatDoor.H
open Go.RowKit Go.Shelf Go.Proofs.YtdooajmgfoobfaaGreatDoor.PA Go.Proofs.YtdooajmgfoobfaaGreatDoorW.PrintWords
set_option linter.unusedVariables false
theorem u16_wf {m : Int} (hm : (Lit.int .u16 m).wf = true) : 0 ≤ m ∧ m ≤ 65535 := by
  have h1 : IntKind.u16.min = 0 := by decide
  have h2 : IntKind.u16.max = 65535 := by decide
  simp only [Lit.wf, h1, h2, Bool.and_eq_true, decide_eq_true_eq] at hm
  exact hm
theorem reelKeeps_row (roll : Int) (A : Option Addr) (c : Nat) (l : List SAct) (r : Bool) (w : World) (hC : Kd.C kAct w A l.length l) (hlc : l.length ≤ c) (h : r = true ∧ (0 ≤ roll ∧ roll ≤ 65535) ∧ ∀ x ∈ l, ∀ y ∈ x.f2, 0 ≤ y ∧ y ≤ 255) (hE : Ev w.heap.size w) :
    Calls Tryz.prog 4 #[.int .u16 roll, .slice A l.length c] w fun e w' => e = .returned (.bool r) ∧ Below w.heap.size w w' := by
  obtain ⟨rfl, hro, hu⟩ := h
  exact keeps_calls w roll A c l hro hC hlc hu hE
end Go.Proofs.YtdooajmgfoobfaaGreatDoor.H


