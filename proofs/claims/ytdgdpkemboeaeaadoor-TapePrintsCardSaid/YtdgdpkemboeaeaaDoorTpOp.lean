/- Acts that are handed in: what a row's reading of them tells; what the row of TapePrints hands to its walk. -/
import Derived.Test.YtdgdpkemboeaeaaDoorTpV
import Derived.Test.YtdgdpkemboeaeaaDoorTpJ
import Derived.Test.YtdgdpkemboeaeaaDoorRows
import Derived.Lib.LaidTab
import Derived.LaidMore
import Derived.MakeChecks
import Derived.Stop.LaidErr
import Derived.OpenShut
import Derived.ChangeSame
import Derived.Test.YtdgdpkemboeaeaaDoorTpPp
import Derived.SizedLaws
import Derived.WideShapes
import Derived.DataElems
import Derived.ChangeSlices
namespace Go.Proofs.YtdgdpkemboeaeaaDoor.H
open Go.ChangeShapes Go.WideShapes Go.RowKit Go.Shelf
set_option linter.unusedVariables false
set_option linter.unusedSimpArgs false
section
variable {H : Type} {enc : TypeId × Value → H} {W : World} {base : Nat} {sp : Nat → Bool} {held : Bool} {P : Program}
theorem trod_struct5 {t : TypeId} {f0 f1 f2 f3 f4 : Field} {fuel : Nat} {cs : List Value} {x : DataW H × List MemPlace} (ht : P.underlying t = some (.struct #[f0, f1, f2, f3, f4])) (h : DataW.trod enc P W base sp held fuel t cs = some x) :
    ∃ y0 y1 y2 y3 y4 n, x = (.agg [y0.1, y1.1, y2.1, y3.1, y4.1], y0.2 ++ (y1.2 ++ (y2.2 ++ (y3.2 ++ y4.2)))) ∧ cs.length = P.cellsOf t ∧ DataW.trod enc P W base sp held n f0.type ((cs.drop f0.offset).take (P.cellsOf f0.type)) = some y0 ∧
      DataW.trod enc P W base sp held n f1.type ((cs.drop f1.offset).take (P.cellsOf f1.type)) = some y1 ∧ DataW.trod enc P W base sp held n f2.type ((cs.drop f2.offset).take (P.cellsOf f2.type)) = some y2 ∧
      DataW.trod enc P W base sp held n f3.type ((cs.drop f3.offset).take (P.cellsOf f3.type)) = some y3 ∧ DataW.trod enc P W base sp held n f4.type ((cs.drop f4.offset).take (P.cellsOf f4.type)) = some y4 := by
  obtain ⟨xs, n, _, rfl, hl, hlen, hf⟩ := DataW.trod_struct ht h
  match xs, hlen with
  | [y0, y1, y2, y3, y4], _ => exact ⟨y0, y1, y2, y3, y4, n, by simp, hl, by simpa using hf 0 f0 rfl, by simpa using hf 1 f1 rfl, by simpa using hf 2 f2 rfl, by simpa using hf 3 f3 rfl, by simpa using hf 4 f4 rfl⟩
theorem cellsStr : Tryd.prog.cellsOf 9 = 1 := by kernel_rfl
theorem cellsBool : Tryd.prog.cellsOf 4 = 1 := by kernel_rfl
theorem cellsShape : Tryd.prog.cellsOf 102 = 5 := by kernel_rfl
def shD (s : ByteArray × Bool × Bool × Bool × Bool) : DataW H := .agg [.lit (.string s.1.data.toList), .lit (.bool s.2.1), .lit (.bool s.2.2.1), .lit (.bool s.2.2.2.1), .lit (.bool s.2.2.2.2)]
theorem trod_bool_eq {fuel : Nat} {v : Value} {y : DataW H × List MemPlace} {b : Bool} (h : DataW.trod enc Tryd.prog W base sp held fuel 4 [v] = some y) (e : y.1 = .lit (.bool b)) : v = .bool b := by
  obtain ⟨b', hc, rfl⟩ := DataW.trod_bool Tryd.underlying4 h
  simp only [DataW.lit.injEq, Lit.bool.injEq] at e
  rw [(List.cons.inj hc).1, e]
set_option maxRecDepth 100000 in
theorem shape_cells {fuel : Nat} {cs : List Value} {y : DataW H × List MemPlace} {s : ByteArray × Bool × Bool × Bool × Bool} (h : DataW.trod enc Tryd.prog W base sp held fuel 102 cs = some y) (e : y.1 = shD s) : cs = shapeCells s := by
  obtain ⟨y0, y1, y2, y3, y4, n, rfl, hl, h0, h1, h2, h3, h4⟩ := trod_struct5 Tryd.underlying102 h
  rw [cellsShape] at hl
  match cs, hl with
  | [c0, c1, c2, c3, c4], _ =>
    change DataW.trod enc Tryd.prog W base sp held n 9 (([c0, c1, c2, c3, c4].drop 0).take (Tryd.prog.cellsOf 9)) = _ at h0
    change DataW.trod enc Tryd.prog W base sp held n 4 (([c0, c1, c2, c3, c4].drop 1).take (Tryd.prog.cellsOf 4)) = _ at h1
    change DataW.trod enc Tryd.prog W base sp held n 4 (([c0, c1, c2, c3, c4].drop 2).take (Tryd.prog.cellsOf 4)) = _ at h2
    change DataW.trod enc Tryd.prog W base sp held n 4 (([c0, c1, c2, c3, c4].drop 3).take (Tryd.prog.cellsOf 4)) = _ at h3
    change DataW.trod enc Tryd.prog W base sp held n 4 (([c0, c1, c2, c3, c4].drop 4).take (Tryd.prog.cellsOf 4)) = _ at h4
    rw [cellsStr] at h0
    rw [cellsBool] at h1 h2 h3 h4
    simp only [shD, DataW.agg.injEq, List.cons.injEq, and_true] at e
    obtain ⟨e0, e1, e2, e3, e4⟩ := e
    obtain ⟨s0, hc0, rfl, _⟩ := DataW.trod_string Tryd.underlying9 h0
    simp only [DataW.lit.injEq, Lit.string.injEq] at e0
    have q0 : c0 = .string s.1 := by
      have := (List.cons.inj hc0).1
      rw [this, ← ba_of s0, e0, ba_of]
    rw [q0, trod_bool_eq h1 e1, trod_bool_eq h2 e2, trod_bool_eq h3 e3, trod_bool_eq h4 e4]
    rfl
end
theorem get_flat5 {α β : Type} (f : α → List β) (hf : ∀ x, (f x).length = 5) : ∀ (l : List α) (j : Nat), (l.flatMap f)[j]? = (l[j / 5]?).bind (fun x => (f x)[j % 5]?)
  | [], j => by simp
  | x :: l, j => by
    rw [List.flatMap_cons]
    by_cases h : j < 5
    · rw [List.getElem?_append_left (by rw [hf]; exact h), show j / 5 = 0 by omega, show j % 5 = j by omega]
      rfl
    · rw [List.getElem?_append_right (by rw [hf]; omega), hf, get_flat5 f hf l (j - 5), show j / 5 = (j - 5) / 5 + 1 by omega, show j % 5 = (j - 5) % 5 by omega]
      rfl
theorem gShapes : Tryd.prog.globalNamed "tidemill/tape.shapes" = some 0 := by kernel_rfl
theorem gShapesType : (Tryd.prog.globals[0]?).map (·.type) = some 103 := by kernel_rfl
theorem shapesD : (Rows.laid_tidemill_tape_shapes : DataW Unit) = .agg (shapeL.map shD) := by kernel_rfl
theorem sh_of_head {W : World} {rest : List (String × DataW Unit)} (h : laidMet Tryd.prog (("tidemill/tape.shapes", .agg (shapeL.map shD)) :: rest) W) : ∀ j, j < 55 → W.cell? ⟨0, j, none⟩ = (shapeL.flatMap shapeCells)[j]? := by
  obtain ⟨ps, ⟨g', t', cs, fuel, p, q, hg', ht', hvar, hd, _, _⟩, _⟩ := h
  obtain rfl := Option.some.inj (gShapes.symm.trans hg')
  obtain rfl := Option.some.inj (gShapesType.symm.trans ht')
  obtain ⟨xs, m, _, hx, hl, hxl, hel⟩ := DataW.trod_array Tryd.underlying103 hd
  have hxs : xs.map (·.1) = shapeL.map shD := by
    have := congrArg Prod.fst hx
    simpa using this.symm
  intro j hj
  have h1 := World.var?_cell gShapes hvar j
  rw [h1]
  have hi : j / 5 < shapeL.length := by show j / 5 < 11; omega
  have h2 := hel (j / 5) hi
  rw [cellsShape] at h2
  have hxl2 : j / 5 < xs.length := by rw [hxl]; exact hi
  have hxi : xs[j / 5]? = some (xs[j / 5]'hxl2) := List.getElem?_eq_getElem hxl2
  rw [hxi] at h2
  have h3 : (xs[j / 5]'hxl2).1 = shD (shapeL[j / 5]'hi) := by
    have := congrArg (fun l => l[j / 5]?) hxs
    simp only [List.getElem?_map, hxi, Option.map_some] at this
    rw [List.getElem?_eq_getElem hi] at this
    simpa using this
  have h4 := shape_cells h2 h3
  rw [get_flat5 shapeCells (fun _ => rfl), List.getElem?_eq_getElem hi, Option.bind_some, ← h4, List.getElem?_take, if_pos (by omega), List.getElem?_drop]
  rw [show j / 5 * 5 + j % 5 = j by omega]
  simp
theorem gTabType : (Tryd.prog.globals[1]?).map (·.type) = some 158 := by kernel_rfl
theorem tabD : (Rows.laid_internal_strconv_uint64pow10 : DataW Unit) = Lib.tabData .u64 Lib.pow10Tab := by kernel_rfl
theorem starE : "*" ++ "errors.errorString" = "*errors.errorString" := by decide
theorem rowE (u : TypeId) (h : Tryd.prog.typeName? 3 u = some "*errors.errorString") : u = 172 :=
  typeName_ptr_named (nm := "errors.errorString") (by rw [starE]; kernel_rfl) (by kernel_rfl) (by decide) u (by rw [starE]; exact h)
theorem cell_of_sentinel {W : World} {n : String} {g : Nat} {v : Value} (hg : Tryd.prog.globalNamed n = some g) (h : W.var? Tryd.prog n = some #[v]) : W.cell? ⟨g, 0, none⟩ = some v := by
  have := World.var?_cell hg h 0
  simpa using this
/-- The rows' list of variables, met: what the walks read of them. -/
theorem env_of {W : World} {a b c d : String × DataW Unit} (hp : ((a :: b :: ("internal/strconv.uint64pow10", Rows.laid_internal_strconv_uint64pow10) :: c :: ("strconv.ErrRange", Rows.laid_strconv_ErrRange) :: ("strconv.ErrSyntax", Rows.laid_strconv_ErrSyntax) :: ("tidemill/tape.shapes", Rows.laid_tidemill_tape_shapes) :: [d]).all fun x => x.2.handleName?.isNone) = true)
    (hL : laidMetH Tryd.prog (a :: b :: ("internal/strconv.uint64pow10", Rows.laid_internal_strconv_uint64pow10) :: c :: ("strconv.ErrRange", Rows.laid_strconv_ErrRange) :: ("strconv.ErrSyntax", Rows.laid_strconv_ErrSyntax) :: ("tidemill/tape.shapes", Rows.laid_tidemill_tape_shapes) :: [d]) W) : Env W := by
  rw [MakeChecks.laidMetH_plain _ _ _ hp, tabD, shapesD] at hL
  have h2 := laidMet.tail (laidMet.tail hL)
  have h4 := laidMet.tail (laidMet.tail h2)
  have h5 := laidMet.tail h4
  have h6 := laidMet.tail h5
  have htab := Lib.tabIs_of_head gTab gTabType Tryd.underlying158 Tryd.underlying70 (by kernel_rfl) (by kernel_rfl) h2
  obtain ⟨a1, s1, v1, _, _, _⟩ := laid_sentinel (g := 4) (ti := 78) (tp := 172) (te := 174) (ts := 9) h4 (by kernel_rfl) (by kernel_rfl) Tryd.underlying78 rowE Tryd.underlying172 Tryd.underlying174 rfl rfl Tryd.underlying9 (by kernel_rfl) (by kernel_rfl)
  obtain ⟨a2, s2, v2, _, _, _⟩ := laid_sentinel (g := 3) (ti := 78) (tp := 172) (te := 174) (ts := 9) h5 (by kernel_rfl) (by kernel_rfl) Tryd.underlying78 rowE Tryd.underlying172 Tryd.underlying174 rfl rfl Tryd.underlying9 (by kernel_rfl) (by kernel_rfl)
  exact ⟨⟨_, _, cell_of_sentinel (by kernel_rfl) v2⟩, ⟨_, _, cell_of_sentinel (by kernel_rfl) v1⟩, htab, sh_of_head h6⟩
end Go.Proofs.YtdgdpkemboeaeaaDoor.H
namespace Go.Proofs.YtdgdpkemboeaeaaDoor.H
open Go.ChangeShapes Go.WideShapes Go.RowKit Go.Shelf Go.Proofs.YtdgdpkemboeaeaaDoor.PT Go.Proofs.YtdgdpkemboeaeaaDoorW.PrintWords Go.Proofs.YtdgdpkemboeaeaaDoorW.PrintLast Go.Proofs.YtdgdpkemboeaeaaDoorW.PrintMore
set_option linter.unusedVariables false
set_option linter.unusedSimpArgs false
section
variable {H : Type} {enc : TypeId × Value → H} {W : World} {base : Nat} {sp : Nat → Bool} {held : Bool}
theorem cells_five {a : Addr} {cs : List Value} (h : W.cells? base a 5 = some cs) : cs.length = 5 ∧ ∀ i u, cs[i]? = some u → W.cell? (a.add i) = some u := by
  unfold World.cells? at h
  split at h
  · simp only [List.range_succ, List.range_zero, List.nil_append, List.cons_append, List.mapM_cons, List.mapM_nil] at h
    cases h0 : W.cell? (a.add 0) with
    | none => simp [h0] at h
    | some u0 =>
      cases h1 : W.cell? (a.add 1) with
      | none => simp [h0, h1] at h
      | some u1 =>
        cases h2 : W.cell? (a.add 2) with
        | none => simp [h0, h1, h2] at h
        | some u2 =>
          cases h3 : W.cell? (a.add 3) with
          | none => simp [h0, h1, h2, h3] at h
          | some u3 =>
            cases h4 : W.cell? (a.add 4) with
            | none => simp [h0, h1, h2, h3, h4] at h
            | some u4 =>
              simp [h0, h1, h2, h3, h4] at h
              subst h
              refine ⟨rfl, fun i u hu => ?_⟩
              match i, hu with
              | 0, hu => rw [h0]; exact hu
              | 1, hu => rw [h1]; exact hu
              | 2, hu => rw [h2]; exact hu
              | 3, hu => rw [h3]; exact hu
              | 4, hu => rw [h4]; exact hu
  · cases h
theorem open_intsC {fuel : Nat} {a : Option Addr} {len cap : Nat} {y : DataW H × List MemPlace} (hf : DataW.trod enc Tryd.prog W base sp held fuel 34 [.slice a len cap] = some y) : ∃ l : List Int, len = l.length ∧ l.length ≤ cap ∧ (Kd.int .i64).C W a l.length l := by
  rcases open_ints Tryd.underlying34 Tryd.underlying3 (by kernel_rfl) hf with ⟨hcs, _⟩ | ⟨x, n, c, zs, hcs, _, hl, hm, hz, _, hcell, hwz⟩
  · simp at hcs
    obtain ⟨rfl, rfl, rfl⟩ := hcs
    exact ⟨[], rfl, Nat.le_refl _, Kd.C_of_reads (d := 0) ⟨rfl, by simp, fun h => by simp at h⟩⟩
  · simp at hcs
    obtain ⟨rfl, rfl, rfl⟩ := hcs
    have hzl : len ≤ zs.length := by rw [hz]; split <;> omega
    have hlen : (zs.take len).length = len := by rw [List.length_take]; omega
    unfold maxLen at hm
    refine ⟨zs.take len, hlen.symm, by omega, Kd.C_of_reads (d := 0) ⟨rfl, by omega, fun h => ⟨x, rfl, fun j hj => ?_⟩⟩⟩
    rw [hcell j (by omega), List.getD_eq_getElem?_getD, List.getD_eq_getElem?_getD, List.getElem?_take, if_pos (by omega)]
theorem cellsAct : Tryd.prog.cellsOf 45 = 5 := by kernel_rfl
theorem cellsInt : Tryd.prog.cellsOf 3 = 1 := by kernel_rfl
theorem cellsInts : Tryd.prog.cellsOf 34 = 1 := by kernel_rfl
set_option maxRecDepth 100000 in
theorem open_act {fuel : Nat} {cs : List Value} {y : DataW H × List MemPlace} (h : DataW.trod enc Tryd.prog W base sp held fuel 45 cs = some y) : ∃ x : S45, k45.K W x cs := by
  obtain ⟨y0, y1, y2, y3, y4, n, rfl, hl, h0, h1, h2, h3, h4⟩ := trod_struct5 Tryd.underlying45 h
  rw [cellsAct] at hl
  match cs, hl with
  | [c0, c1, c2, c3, c4], _ =>
    change DataW.trod enc Tryd.prog W base sp held n 3 (([c0, c1, c2, c3, c4].drop 0).take (Tryd.prog.cellsOf 3)) = _ at h0
    change DataW.trod enc Tryd.prog W base sp held n 3 (([c0, c1, c2, c3, c4].drop 1).take (Tryd.prog.cellsOf 3)) = _ at h1
    change DataW.trod enc Tryd.prog W base sp held n 3 (([c0, c1, c2, c3, c4].drop 2).take (Tryd.prog.cellsOf 3)) = _ at h2
    change DataW.trod enc Tryd.prog W base sp held n 9 (([c0, c1, c2, c3, c4].drop 3).take (Tryd.prog.cellsOf 9)) = _ at h3
    change DataW.trod enc Tryd.prog W base sp held n 34 (([c0, c1, c2, c3, c4].drop 4).take (Tryd.prog.cellsOf 34)) = _ at h4
    rw [cellsInt] at h0 h1 h2
    rw [cellsStr] at h3
    rw [cellsInts] at h4
    change DataW.trod enc Tryd.prog W base sp held n 3 [c0] = _ at h0
    change DataW.trod enc Tryd.prog W base sp held n 3 [c1] = _ at h1
    change DataW.trod enc Tryd.prog W base sp held n 3 [c2] = _ at h2
    change DataW.trod enc Tryd.prog W base sp held n 9 [c3] = _ at h3
    change DataW.trod enc Tryd.prog W base sp held n 34 [c4] = _ at h4
    obtain ⟨n0, e0, _⟩ := DataW.trod_int Tryd.underlying3 h0
    obtain ⟨n1, e1, _⟩ := DataW.trod_int Tryd.underlying3 h1
    obtain ⟨n2, e2, _⟩ := DataW.trod_int Tryd.underlying3 h2
    obtain ⟨s3, e3, _⟩ := DataW.trod_string Tryd.underlying9 h3
    have hsl : ∃ a len cap, c4 = .slice a len cap := by
      rcases DataW.trod_slice Tryd.underlying34 h4 with ⟨hc, _⟩ | ⟨a, len, cap, _, _, _, _, hc, _⟩
      · exact ⟨_, _, _, (List.cons.inj hc).1⟩
      · exact ⟨_, _, _, (List.cons.inj hc).1⟩
    obtain ⟨a, len, cap, rfl⟩ := hsl
    obtain ⟨l, rfl, hlc, hC⟩ := open_intsC h4
    obtain rfl := (List.cons.inj e0).1
    obtain rfl := (List.cons.inj e1).1
    obtain rfl := (List.cons.inj e2).1
    obtain rfl := (List.cons.inj e3).1
    exact ⟨⟨n0, n1, n2, s3, l⟩, k45_mk W ⟨n0, n1, n2, s3, l⟩ hlc hC⟩
theorem choose_list {α : Type} (Pr : Nat → α → Prop) : ∀ n, (∀ i, i < n → ∃ x, Pr i x) → ∃ l : List α, l.length = n ∧ ∀ (i : Nat) (x : α), l[i]? = some x → Pr i x
  | 0, _ => ⟨[], rfl, fun i x h => by simp at h⟩
  | n + 1, h => by
    obtain ⟨l, hl, hp⟩ := choose_list Pr n (fun i hi => h i (by omega))
    obtain ⟨x, hx⟩ := h n (by omega)
    refine ⟨l ++ [x], by rw [List.length_append, hl]; rfl, fun i z hz => ?_⟩
    by_cases hi : i < l.length
    · rw [List.getElem?_append_left hi] at hz
      exact hp i z hz
    · have hi2 := (List.getElem?_eq_some_iff.1 hz).1
      rw [List.length_append, List.length_singleton] at hi2
      obtain rfl : i = l.length := by omega
      rw [List.getElem?_append_right (Nat.le_refl _), Nat.sub_self] at hz
      obtain rfl : x = z := by simpa using hz
      rw [hl]
      exact hx
set_option maxRecDepth 100000 in
/-- Acts that are handed in: what their reading tells. -/
theorem open_acts {a : Option Addr} {len cap : Nat} {y : DataW H × List MemPlace} (h : ∃ fuel, DataW.trod enc Tryd.prog W base sp held fuel 50 (Value.slice a len cap).cells.toList = some y) :
    ∃ l : List S45, len = l.length ∧ l.length ≤ cap ∧ Kd.C k45 W a l.length l := by
  obtain ⟨fuel, hf⟩ := h
  rcases DataW.trod_slice Tryd.underlying50 hf with ⟨hcs, _⟩ | ⟨a', len', cap', elems, rest, n, _, hcs, _, hb, hl, hm, hlen, hel, _, _⟩
  · simp [Value.cells] at hcs
    obtain ⟨rfl, rfl, rfl⟩ := hcs
    exact ⟨[], rfl, Nat.le_refl _, rfl, by simp, fun h => by simp at h⟩
  · simp [Value.cells] at hcs
    obtain ⟨rfl, rfl, rfl⟩ := hcs
    rw [cellsAct] at hel
    obtain ⟨l, hll, hp⟩ := choose_list (fun i (x : S45) => ∃ cs, k45.K W x cs ∧ cs.length = 5 ∧ ∀ j u, cs[j]? = some u → W.cell? ((a'.add (i * 5)).add j) = some u) len (fun i hi => by
      have hE := hel i hi
      rw [List.getElem?_eq_getElem (by omega), Option.bind_eq_some_iff] at hE
      obtain ⟨c1, hc1, hy1⟩ := hE
      obtain ⟨h5, hc⟩ := cells_five hc1
      obtain ⟨x, hx⟩ := open_act hy1
      exact ⟨x, c1, hx, h5, hc⟩)
    unfold maxLen at hm
    refine ⟨l, hll.symm, by omega, rfl, by omega, fun _ => ⟨a', rfl, fun j p hj => ?_⟩⟩
    obtain ⟨cs, hk, h5, hc⟩ := hp j p hj
    refine ⟨cs, h5, hk, fun i u hu => ?_⟩
    have := hc i u hu
    rw [Addr.add_add] at this
    exact this
end
theorem tapePrints_row (A : Option Addr) (c : Nat) (l : List S45) (r : Bool) (w : World) (hC : Kd.C k45 w A l.length l) (hc : l.length ≤ c) (h : r = true) (hE : Env w) :
    Calls Tryd.prog 10 #[.slice A l.length c] w fun e w' => e = .returned (.bool r) ∧ Below w.heap.size w w' := by
  subst h
  exact prints_calls A c l hc w hE hC
end Go.Proofs.YtdgdpkemboeaeaaDoor.H
namespace Go.Proofs.YtdgdpkemboeaeaaDoor.Pure
open Go.Proofs.YtdgdpkemboeaeaaDoor.PT
theorem TapePrints (_l : List S45) : true = true := rfl
end Go.Proofs.YtdgdpkemboeaeaaDoor.Pure

