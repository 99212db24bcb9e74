/- What the row of TapeLines hands to its walk. -/
import Derived.Test.YtdgdpkemboeaeaaDoorTpV
import Derived.Test.YtdgdpkemboeaeaaDoorTpJ
import Derived.Test.YtdgdpkemboeaeaaDoorRows
import Derived.Lib.LaidTab
import Derived.LaidMore
import Derived.MakeChecks
import Derived.Stop.LaidErr
import Derived.OpenShut
import Derived.ChangeSame
import Derived.Test.YtdgdpkemboeaeaaDoorTpLd
namespace Go.Proofs.YtdgdpkemboeaeaaDoor.H
open Go.ChangeShapes Go.WideShapes Go.RowKit Go.Shelf
set_option linter.unusedVariables false
set_option linter.unusedSimpArgs false
section
variable {H : Type} {enc : TypeId × Value → H} {W : World} {base : Nat} {sp : Nat → Bool} {held : Bool} {P : Program}
theorem trod_struct5 {t : TypeId} {f0 f1 f2 f3 f4 : Field} {fuel : Nat} {cs : List Value} {x : DataW H × List MemPlace} (ht : P.underlying t = some (.struct #[f0, f1, f2, f3, f4])) (h : DataW.trod enc P W base sp held fuel t cs = some x) :
    ∃ y0 y1 y2 y3 y4 n, x = (.agg [y0.1, y1.1, y2.1, y3.1, y4.1], y0.2 ++ (y1.2 ++ (y2.2 ++ (y3.2 ++ y4.2)))) ∧ cs.length = P.cellsOf t ∧ DataW.trod enc P W base sp held n f0.type ((cs.drop f0.offset).take (P.cellsOf f0.type)) = some y0 ∧
      DataW.trod enc P W base sp held n f1.type ((cs.drop f1.offset).take (P.cellsOf f1.type)) = some y1 ∧ DataW.trod enc P W base sp held n f2.type ((cs.drop f2.offset).take (P.cellsOf f2.type)) = some y2 ∧
      DataW.trod enc P W base sp held n f3.type ((cs.drop f3.offset).take (P.cellsOf f3.type)) = some y3 ∧ DataW.trod enc P W base sp held n f4.type ((cs.drop f4.offset).take (P.cellsOf f4.type)) = some y4 := by
  obtain ⟨xs, n, _, rfl, hl, hlen, hf⟩ := DataW.trod_struct ht h
  match xs, hlen with
  | [y0, y1, y2, y3, y4], _ => exact ⟨y0, y1, y2, y3, y4, n, by simp, hl, by simpa using hf 0 f0 rfl, by simpa using hf 1 f1 rfl, by simpa using hf 2 f2 rfl, by simpa using hf 3 f3 rfl, by simpa using hf 4 f4 rfl⟩
theorem cellsStr : Tryd.prog.cellsOf 9 = 1 := by kernel_rfl
theorem cellsBool : Tryd.prog.cellsOf 4 = 1 := by kernel_rfl
theorem cellsShape : Tryd.prog.cellsOf 102 = 5 := by kernel_rfl
def shD (s : ByteArray × Bool × Bool × Bool × Bool) : DataW H := .agg [.lit (.string s.1.data.toList), .lit (.bool s.2.1), .lit (.bool s.2.2.1), .lit (.bool s.2.2.2.1), .lit (.bool s.2.2.2.2)]
theorem trod_bool_eq {fuel : Nat} {v : Value} {y : DataW H × List MemPlace} {b : Bool} (h : DataW.trod enc Tryd.prog W base sp held fuel 4 [v] = some y) (e : y.1 = .lit (.bool b)) : v = .bool b := by
  obtain ⟨b', hc, rfl⟩ := DataW.trod_bool Tryd.underlying4 h
  simp only [DataW.lit.injEq, Lit.bool.injEq] at e
  rw [(List.cons.inj hc).1, e]
set_option maxRecDepth 100000 in
theorem shape_cells {fuel : Nat} {cs : List Value} {y : DataW H × List MemPlace} {s : ByteArray × Bool × Bool × Bool × Bool} (h : DataW.trod enc Tryd.prog W base sp held fuel 102 cs = some y) (e : y.1 = shD s) : cs = shapeCells s := by
  obtain ⟨y0, y1, y2, y3, y4, n, rfl, hl, h0, h1, h2, h3, h4⟩ := trod_struct5 Tryd.underlying102 h
  rw [cellsShape] at hl
  match cs, hl with
  | [c0, c1, c2, c3, c4], _ =>
    change DataW.trod enc Tryd.prog W base sp held n 9 (([c0, c1, c2, c3, c4].drop 0).take (Tryd.prog.cellsOf 9)) = _ at h0
    change DataW.trod enc Tryd.prog W base sp held n 4 (([c0, c1, c2, c3, c4].drop 1).take (Tryd.prog.cellsOf 4)) = _ at h1
    change DataW.trod enc Tryd.prog W base sp held n 4 (([c0, c1, c2, c3, c4].drop 2).take (Tryd.prog.cellsOf 4)) = _ at h2
    change DataW.trod enc Tryd.prog W base sp held n 4 (([c0, c1, c2, c3, c4].drop 3).take (Tryd.prog.cellsOf 4)) = _ at h3
    change DataW.trod enc Tryd.prog W base sp held n 4 (([c0, c1, c2, c3, c4].drop 4).take (Tryd.prog.cellsOf 4)) = _ at h4
    rw [cellsStr] at h0
    rw [cellsBool] at h1 h2 h3 h4
    simp only [shD, DataW.agg.injEq, List.cons.injEq, and_true] at e
    obtain ⟨e0, e1, e2, e3, e4⟩ := e
    obtain ⟨s0, hc0, rfl, _⟩ := DataW.trod_string Tryd.underlying9 h0
    simp only [DataW.lit.injEq, Lit.string.injEq] at e0
    have q0 : c0 = .string s.1 := by
      have := (List.cons.inj hc0).1
      rw [this, ← ba_of s0, e0, ba_of]
    rw [q0, trod_bool_eq h1 e1, trod_bool_eq h2 e2, trod_bool_eq h3 e3, trod_bool_eq h4 e4]
    rfl
end
theorem get_flat5 {α β : Type} (f : α → List β) (hf : ∀ x, (f x).length = 5) : ∀ (l : List α) (j : Nat), (l.flatMap f)[j]? = (l[j / 5]?).bind (fun x => (f x)[j % 5]?)
  | [], j => by simp
  | x :: l, j => by
    rw [List.flatMap_cons]
    by_cases h : j < 5
    · rw [List.getElem?_append_left (by rw [hf]; exact h), show j / 5 = 0 by omega, show j % 5 = j by omega]
      rfl
    · rw [List.getElem?_append_right (by rw [hf]; omega), hf, get_flat5 f hf l (j - 5), show j / 5 = (j - 5) / 5 + 1 by omega, show j % 5 = (j - 5) % 5 by omega]
      rfl
theorem gShapes : Tryd.prog.globalNamed "tidemill/tape.shapes" = some 0 := by kernel_rfl
theorem gShapesType : (Tryd.prog.globals[0]?).map (·.type) = some 103 := by kernel_rfl
theorem shapesD : (Rows.laid_tidemill_tape_shapes : DataW Unit) = .agg (shapeL.map shD) := by kernel_rfl
theorem sh_of_head {W : World} {rest : List (String × DataW Unit)} (h : laidMet Tryd.prog (("tidemill/tape.shapes", .agg (shapeL.map shD)) :: rest) W) : ∀ j, j < 55 → W.cell? ⟨0, j, none⟩ = (shapeL.flatMap shapeCells)[j]? := by
  obtain ⟨ps, ⟨g', t', cs, fuel, p, q, hg', ht', hvar, hd, _, _⟩, _⟩ := h
  obtain rfl := Option.some.inj (gShapes.symm.trans hg')
  obtain rfl := Option.some.inj (gShapesType.symm.trans ht')
  obtain ⟨xs, m, _, hx, hl, hxl, hel⟩ := DataW.trod_array Tryd.underlying103 hd
  have hxs : xs.map (·.1) = shapeL.map shD := by
    have := congrArg Prod.fst hx
    simpa using this.symm
  intro j hj
  have h1 := World.var?_cell gShapes hvar j
  rw [h1]
  have hi : j / 5 < shapeL.length := by show j / 5 < 11; omega
  have h2 := hel (j / 5) hi
  rw [cellsShape] at h2
  have hxl2 : j / 5 < xs.length := by rw [hxl]; exact hi
  have hxi : xs[j / 5]? = some (xs[j / 5]'hxl2) := List.getElem?_eq_getElem hxl2
  rw [hxi] at h2
  have h3 : (xs[j / 5]'hxl2).1 = shD (shapeL[j / 5]'hi) := by
    have := congrArg (fun l => l[j / 5]?) hxs
    simp only [List.getElem?_map, hxi, Option.map_some] at this
    rw [List.getElem?_eq_getElem hi] at this
    simpa using this
  have h4 := shape_cells h2 h3
  rw [get_flat5 shapeCells (fun _ => rfl), List.getElem?_eq_getElem hi, Option.bind_some, ← h4, List.getElem?_take, if_pos (by omega), List.getElem?_drop]
  rw [show j / 5 * 5 + j % 5 = j by omega]
  simp
theorem gTabType : (Tryd.prog.globals[1]?).map (·.type) = some 158 := by kernel_rfl
theorem tabD : (Rows.laid_internal_strconv_uint64pow10 : DataW Unit) = Lib.tabData .u64 Lib.pow10Tab := by kernel_rfl
theorem starE : "*" ++ "errors.errorString" = "*errors.errorString" := by decide
theorem rowE (u : TypeId) (h : Tryd.prog.typeName? 3 u = some "*errors.errorString") : u = 172 :=
  typeName_ptr_named (nm := "errors.errorString") (by rw [starE]; kernel_rfl) (by kernel_rfl) (by decide) u (by rw [starE]; exact h)
theorem cell_of_sentinel {W : World} {n : String} {g : Nat} {v : Value} (hg : Tryd.prog.globalNamed n = some g) (h : W.var? Tryd.prog n = some #[v]) : W.cell? ⟨g, 0, none⟩ = some v := by
  have := World.var?_cell hg h 0
  simpa using this
/-- The rows' list of variables, met: what the walks read of them. -/
theorem env_of {W : World} {a b c d : String × DataW Unit} (hp : ((a :: b :: ("internal/strconv.uint64pow10", Rows.laid_internal_strconv_uint64pow10) :: c :: ("strconv.ErrRange", Rows.laid_strconv_ErrRange) :: ("strconv.ErrSyntax", Rows.laid_strconv_ErrSyntax) :: ("tidemill/tape.shapes", Rows.laid_tidemill_tape_shapes) :: [d]).all fun x => x.2.handleName?.isNone) = true)
    (hL : laidMetH Tryd.prog (a :: b :: ("internal/strconv.uint64pow10", Rows.laid_internal_strconv_uint64pow10) :: c :: ("strconv.ErrRange", Rows.laid_strconv_ErrRange) :: ("strconv.ErrSyntax", Rows.laid_strconv_ErrSyntax) :: ("tidemill/tape.shapes", Rows.laid_tidemill_tape_shapes) :: [d]) W) : Env W := by
  rw [MakeChecks.laidMetH_plain _ _ _ hp, tabD, shapesD] at hL
  have h2 := laidMet.tail (laidMet.tail hL)
  have h4 := laidMet.tail (laidMet.tail h2)
  have h5 := laidMet.tail h4
  have h6 := laidMet.tail h5
  have htab := Lib.tabIs_of_head gTab gTabType Tryd.underlying158 Tryd.underlying70 (by kernel_rfl) (by kernel_rfl) h2
  obtain ⟨a1, s1, v1, _, _, _⟩ := laid_sentinel (g := 4) (ti := 78) (tp := 172) (te := 174) (ts := 9) h4 (by kernel_rfl) (by kernel_rfl) Tryd.underlying78 rowE Tryd.underlying172 Tryd.underlying174 rfl rfl Tryd.underlying9 (by kernel_rfl) (by kernel_rfl)
  obtain ⟨a2, s2, v2, _, _, _⟩ := laid_sentinel (g := 3) (ti := 78) (tp := 172) (te := 174) (ts := 9) h5 (by kernel_rfl) (by kernel_rfl) Tryd.underlying78 rowE Tryd.underlying172 Tryd.underlying174 rfl rfl Tryd.underlying9 (by kernel_rfl) (by kernel_rfl)
  exact ⟨⟨_, _, cell_of_sentinel (by kernel_rfl) v2⟩, ⟨_, _, cell_of_sentinel (by kernel_rfl) v1⟩, htab, sh_of_head h6⟩
end Go.Proofs.YtdgdpkemboeaeaaDoor.H
namespace Go.Proofs.YtdgdpkemboeaeaaDoor.H
open Go.RowKit Go.Shelf
theorem tapeLines_row (s : ByteArray) (m : Int) (r : Bool) (w : World) (h : (0 ≤ m ∧ m ≤ 255) ∧ r = true) (hE : Env w) :
    Calls Tryd.prog 8 #[.string s, .int .u8 m] w fun e w' => e = .returned (.bool r) ∧ Below w.heap.size w w' := by
  obtain ⟨hm, rfl⟩ := h
  exact lineslaw_calls s m hm w hE
end Go.Proofs.YtdgdpkemboeaeaaDoor.H
namespace Go.Proofs.YtdgdpkemboeaeaaDoor.Pure
theorem TapeLines (s : ByteArray) (m : Int) (_hs : s.size ≤ 140737488351232) (hm : (Lit.int .u8 m).wf = true) : (0 ≤ m ∧ m ≤ 255) ∧ true = true := by
  refine ⟨?_, rfl⟩
  have h1 : IntKind.u8.min = 0 := by decide
  have h2 : IntKind.u8.max = 255 := by decide
  simp only [Lit.wf, h1, h2, Bool.and_eq_true, decide_eq_true_eq] at hm
  exact hm
end Go.Proofs.YtdgdpkemboeaeaaDoor.Pure

