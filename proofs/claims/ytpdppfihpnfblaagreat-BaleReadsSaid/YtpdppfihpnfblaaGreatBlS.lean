/- The mill's state: its kind; it is taken. Laid by wip/state_bl.py. -/
import Derived.Test.YtpdppfihpnfblaaGreatBlU
namespace Go.Proofs.YtpdppfihpnfblaaGreat.H
open Go.RowKit Go.Shelf Go.Proofs.YtpdppfihpnfblaaGreat.PA Go.Proofs.YtpdppfihpnfblaaGreatW.PrintWords Go.Proofs.YtpdppfihpnfblaaGreatW.PrintLast Go.Proofs.YtpdppfihpnfblaaGreatW.PrintMore
set_option linter.unusedVariables false
set_option linter.unusedSimpArgs false
structure Sta where
  now : Int
  low : Int
  sources : List Src
  seens : List Sen
  cells : List Cel
  first : Int
  out : List Emi
  counts : List Int
def gSta (x : Sta) : Prop := gUp x.now ∧ gUp x.low ∧ gList gSrc x.sources ∧ gList gSen x.seens ∧ gList gCel x.cells ∧ gUp x.first ∧ gList gEmi x.out ∧ (∀ n ∈ x.counts, gUp n)
def kSta : Kd Sta := Kd.iso (Kd.pair (Kd.int .i64) (Kd.pair (Kd.int .i64) (Kd.pair (Kd.slice 119 kSrc) (Kd.pair (Kd.slice 122 kSen) (Kd.pair (Kd.slice 104 kCel) (Kd.pair (Kd.int .i64) (Kd.pair (Kd.slice 30 kEmi) (Kd.arr 24 (Kd.int .i64) (by decide)))))))))
  (fun x : Sta => (x.now, x.low, x.sources, x.seens, x.cells, x.first, x.out, x.counts))
theorem kSta_open {w : World} {x : Sta} {cs : List Value} (h : kSta.K w x cs) : ∃ A1 c1 A2 c2 A3 c3 A4 c4, cs = [.int .i64 x.now, .int .i64 x.low, .slice A1 x.sources.length c1, .slice A2 x.seens.length c2, .slice A3 x.cells.length c3, .int .i64 x.first, .slice A4 x.out.length c4] ++ encs (Value.int .i64) x.counts ∧ x.counts.length = 24 ∧
    (x.sources.length ≤ c1 ∧ Kd.C kSrc w A1 x.sources.length x.sources) ∧ (x.seens.length ≤ c2 ∧ Kd.C kSen w A2 x.seens.length x.seens) ∧ (x.cells.length ≤ c3 ∧ Kd.C kCel w A3 x.cells.length x.cells) ∧ (x.out.length ≤ c4 ∧ Kd.C kEmi w A4 x.out.length x.out) := by
  obtain ⟨_, _, rfl, rfl, ⟨_, _, rfl, rfl, ⟨_, _, rfl, ⟨A1, c1, rfl, l1, g1⟩, ⟨_, _, rfl, ⟨A2, c2, rfl, l2, g2⟩, ⟨_, _, rfl, ⟨A3, c3, rfl, l3, g3⟩, ⟨_, _, rfl, rfl, ⟨_, _, rfl, ⟨A4, c4, rfl, l4, g4⟩, ha⟩⟩⟩⟩⟩⟩⟩ := h
  obtain ⟨h24, rfl⟩ := Kd.arr_cells ha
  exact ⟨A1, c1, A2, c2, A3, c3, A4, c4, rfl, h24, ⟨l1, g1⟩, ⟨l2, g2⟩, ⟨l3, g3⟩, ⟨l4, g4⟩⟩
def staA (a b : Int) (v1 v2 v3 : Value) (c : Int) (v4 : Value) (cc : List Int) : Array Value := ([.int .i64 a, .int .i64 b, v1, v2, v3, .int .i64 c, v4] ++ encs (Value.int .i64) cc).toArray
theorem staA_at (a b : Int) (v1 v2 v3 : Value) (c : Int) (v4 : Value) {cc : List Int} {j : Nat} (h : j < cc.length) : (staA a b v1 v2 v3 c v4 cc)[7 + j]? = some (.int .i64 (cc.getD j 0)) := by
  unfold staA
  rw [List.getElem?_toArray, List.getElem?_append_right (by simp), List.getD_eq_getElem?_getD, List.getElem?_eq_getElem h]
  simp [encs, List.getElem?_eq_getElem h]
theorem staA_set (a b : Int) (v1 v2 v3 : Value) (c : Int) (v4 : Value) (cc : List Int) (j : Nat) (n : Int) : (staA a b v1 v2 v3 c v4 cc).setIfInBounds (7 + j) (.int .i64 n) = staA a b v1 v2 v3 c v4 (cc.set j n) := by
  unfold staA
  rw [List.setIfInBounds_toArray, List.set_append_right _ _ (by simp)]
  simp [encs, List.map_set]
theorem staA_size (a b : Int) (v1 v2 v3 : Value) (c : Int) (v4 : Value) {cc : List Int} (h : cc.length = 24) : (staA a b v1 v2 v3 c v4 cc).size = 31 := by
  unfold staA
  simp [encs, h]
theorem kSta_mkM (w : World) (base : Nat) (ok : Nat → Prop) (x : Sta) (h24 : x.counts.length = 24) {v1 v2 v3 v4 : Value} (g1 : Kd.R kSrc 119 w base ok v1 x.sources) (g2 : Kd.R kSen 122 w base ok v2 x.seens) (g3 : Kd.R kCel 104 w base ok v3 x.cells) (g4 : Kd.R kEmi 30 w base ok v4 x.out) :
    kSta.M w base ok x ([.int .i64 x.now, .int .i64 x.low, v1, v2, v3, .int .i64 x.first, v4] ++ encs (Value.int .i64) x.counts) :=
  ⟨[.int .i64 x.now], _, rfl, rfl, ⟨[.int .i64 x.low], _, rfl, rfl, ⟨[v1], _, rfl, ⟨v1, rfl, g1⟩, ⟨[v2], _, rfl, ⟨v2, rfl, g2⟩, ⟨[v3], _, rfl, ⟨v3, rfl, g3⟩, ⟨[.int .i64 x.first], _, rfl, rfl, ⟨[v4], encs (Value.int .i64) x.counts, rfl, ⟨v4, rfl, g4⟩, Kd.arr_of_cells h24⟩⟩⟩⟩⟩⟩⟩
set_option maxRecDepth 100000 in
set_option maxHeartbeats 8000000 in
theorem takeSta_calls (w0 : World) (rb : Nat) (f : Int) (w : World) (h : RS w0 rb f w) :
    Calls Tryz.prog 17 #[.pointer (some ⟨rb, 0, none⟩)] w (TakeAns kSta encA gSta w0 rb w) := by
  have hu := Tryz.underlying44
  have H0 := Aside0.mk h
  clear h
  have HS := Aside0.mk (TS.start_var (T := 44) H0.out #[.int .i64 0, .int .i64 0, .slice none 0 0, .slice none 0 0, .slice none 0 0, .int .i64 0, .slice none 0 0, .int .i64 0, .int .i64 0, .int .i64 0, .int .i64 0, .int .i64 0, .int .i64 0, .int .i64 0, .int .i64 0, .int .i64 0, .int .i64 0, .int .i64 0, .int .i64 0, .int .i64 0, .int .i64 0, .int .i64 0, .int .i64 0, .int .i64 0, .int .i64 0, .int .i64 0, .int .i64 0, .int .i64 0, .int .i64 0, .int .i64 0, .int .i64 0])
  go_enter Tryz.func17, Tryz.ntmps17
  go_upto_region 2 with fail
  generalize (w.alloc (.cells #[.int .i64 0, .int .i64 0, .slice none 0 0, .slice none 0 0, .slice none 0 0, .int .i64 0, .slice none 0 0, .int .i64 0, .int .i64 0, .int .i64 0, .int .i64 0, .int .i64 0, .int .i64 0, .int .i64 0, .int .i64 0, .int .i64 0, .int .i64 0, .int .i64 0, .int .i64 0, .int .i64 0, .int .i64 0, .int .i64 0, .int .i64 0, .int .i64 0, .int .i64 0, .int .i64 0, .int .i64 0, .int .i64 0, .int .i64 0, .int .i64 0, .int .i64 0] 44)).alloc (.cells #[.int .i64 0, .int .i64 0, .slice none 0 0, .slice none 0 0, .slice none 0 0, .int .i64 0, .slice none 0 0, .int .i64 0, .int .i64 0, .int .i64 0, .int .i64 0, .int .i64 0, .int .i64 0, .int .i64 0, .int .i64 0, .int .i64 0, .int .i64 0, .int .i64 0, .int .i64 0, .int .i64 0, .int .i64 0, .int .i64 0, .int .i64 0, .int .i64 0, .int .i64 0, .int .i64 0, .int .i64 0, .int .i64 0, .int .i64 0, .int .i64 0, .int .i64 0] 44) = W at HS ⊢
  have HST := Aside0.mk (Stab.nil rb 44)
  obtain ⟨f_, hr_⟩ := HS.out.rs
  have hc := takeUp_calls w0 rb f_ _ hr_
  clear hr_
  go_upto_region 3 with (go_at_call 35; refine (show Calls _ _ _ _ _ from hc).mono ?_; rintro e W1 ⟨⟨x_now, rfl, hn0, hn1⟩, hr, hg⟩; have G_now := Aside0.mk (And.intro hn0 hn1); have HS1 := Aside0.mk (HS.out.call HST.out hr hg); have c3 := blk_cell HS1.out.r3 0; have z3 := blk_frozen HS1.out.r3 0; clear hr hg hc hn0 hn1)
  have HS2 := Aside0.mk (HS1.out.set HST.out 0 (.int .i64 x_now) (cs' := #[.int .i64 x_now, .int .i64 0, .slice none 0 0, .slice none 0 0, .slice none 0 0, .int .i64 0, .slice none 0 0, .int .i64 0, .int .i64 0, .int .i64 0, .int .i64 0, .int .i64 0, .int .i64 0, .int .i64 0, .int .i64 0, .int .i64 0, .int .i64 0, .int .i64 0, .int .i64 0, .int .i64 0, .int .i64 0, .int .i64 0, .int .i64 0, .int .i64 0, .int .i64 0, .int .i64 0, .int .i64 0, .int .i64 0, .int .i64 0, .int .i64 0, .int .i64 0]) rfl)
  clear c3 z3 HS HS1
  generalize W1.setCell ⟨(w.heap.size + 1), 0, none⟩ (.int .i64 x_now) = W2 at HS2 ⊢
  have HS := HS2
  clear HS2
  obtain ⟨f_, hr_⟩ := HS.out.rs
  have hc := takeUp_calls w0 rb f_ _ hr_
  clear hr_
  go_upto_region 4 with (go_at_call 35; refine (show Calls _ _ _ _ _ from hc).mono ?_; rintro e W1 ⟨⟨x_low, rfl, hn0, hn1⟩, hr, hg⟩; have G_low := Aside0.mk (And.intro hn0 hn1); have HS1 := Aside0.mk (HS.out.call HST.out hr hg); have c3 := blk_cell HS1.out.r3 1; have z3 := blk_frozen HS1.out.r3 1; clear hr hg hc hn0 hn1)
  have HS2 := Aside0.mk (HS1.out.set HST.out 1 (.int .i64 x_low) (cs' := #[.int .i64 x_now, .int .i64 x_low, .slice none 0 0, .slice none 0 0, .slice none 0 0, .int .i64 0, .slice none 0 0, .int .i64 0, .int .i64 0, .int .i64 0, .int .i64 0, .int .i64 0, .int .i64 0, .int .i64 0, .int .i64 0, .int .i64 0, .int .i64 0, .int .i64 0, .int .i64 0, .int .i64 0, .int .i64 0, .int .i64 0, .int .i64 0, .int .i64 0, .int .i64 0, .int .i64 0, .int .i64 0, .int .i64 0, .int .i64 0, .int .i64 0, .int .i64 0]) rfl)
  clear c3 z3 HS HS1
  generalize W1.setCell ⟨(w.heap.size + 1), 1, none⟩ (.int .i64 x_low) = W2 at HS2 ⊢
  have HS := HS2
  clear HS2
  obtain ⟨f_, hr_⟩ := HS.out.rs
  have hc := tlSrc_calls w0 rb gSrc (fun f W hW => takeSrc_calls w0 rb f W hW) f_ _ hr_
  clear hr_
  go_upto_region 5 with (go_at_call 51; refine (show Calls _ _ _ _ _ from hc).mono ?_; rintro e W1 ⟨⟨x_sources, cs, rfl, ⟨v, rfl, hR⟩, hG⟩, hr, hg⟩; obtain ⟨A_sources, n_sources, c_sources, e1⟩ := R_sl hR; subst e1; have G_sources := Aside0.mk hG; have HS1 := Aside0.mk (HS.out.callR (R' := fun W => Kd.R kSrc 119 W w.heap.size (fun q => q ≠ rb) (.slice A_sources n_sources c_sources) x_sources) HST.out hr hg (Kd.R_lower hR HS.out.gr.size)); have c3 := blk_cell HS1.out.r3 2; have z3 := blk_frozen HS1.out.r3 2; clear hr hg hc hG hR; simp only [enc1, List.headD_cons])
  have HST2 := Aside0.mk (HST.out.row (d := kSrc) (e := 119) (base := w.heap.size) (v := .slice A_sources n_sources c_sources) (xs := x_sources) (by decide))
  clear HST
  have HST := HST2
  clear HST2
  have HS2 := Aside0.mk (HS1.out.set HST.out 2 (.slice A_sources n_sources c_sources) (cs' := #[.int .i64 x_now, .int .i64 x_low, .slice A_sources n_sources c_sources, .slice none 0 0, .slice none 0 0, .int .i64 0, .slice none 0 0, .int .i64 0, .int .i64 0, .int .i64 0, .int .i64 0, .int .i64 0, .int .i64 0, .int .i64 0, .int .i64 0, .int .i64 0, .int .i64 0, .int .i64 0, .int .i64 0, .int .i64 0, .int .i64 0, .int .i64 0, .int .i64 0, .int .i64 0, .int .i64 0, .int .i64 0, .int .i64 0, .int .i64 0, .int .i64 0, .int .i64 0, .int .i64 0]) rfl)
  clear c3 z3 HS HS1
  generalize W1.setCell ⟨(w.heap.size + 1), 2, none⟩ (.slice A_sources n_sources c_sources) = W2 at HS2 ⊢
  have HS := HS2
  clear HS2
  obtain ⟨f_, hr_⟩ := HS.out.rs
  have hc := tlSen_calls w0 rb gSen (fun f W hW => takeSen_calls w0 rb f W hW) f_ _ hr_
  clear hr_
  go_upto_region 6 with (go_at_call 53; refine (show Calls _ _ _ _ _ from hc).mono ?_; rintro e W1 ⟨⟨x_seens, cs, rfl, ⟨v, rfl, hR⟩, hG⟩, hr, hg⟩; obtain ⟨A_seens, n_seens, c_seens, e1⟩ := R_sl hR; subst e1; have G_seens := Aside0.mk hG; have HS1 := Aside0.mk (HS.out.callR (R' := fun W => Kd.R kSen 122 W w.heap.size (fun q => q ≠ rb) (.slice A_seens n_seens c_seens) x_seens) HST.out hr hg (Kd.R_lower hR HS.out.gr.size)); have c3 := blk_cell HS1.out.r3 3; have z3 := blk_frozen HS1.out.r3 3; clear hr hg hc hG hR; simp only [enc1, List.headD_cons])
  have HST2 := Aside0.mk (HST.out.row (d := kSen) (e := 122) (base := w.heap.size) (v := .slice A_seens n_seens c_seens) (xs := x_seens) (by decide))
  clear HST
  have HST := HST2
  clear HST2
  have HS2 := Aside0.mk (HS1.out.set HST.out 3 (.slice A_seens n_seens c_seens) (cs' := #[.int .i64 x_now, .int .i64 x_low, .slice A_sources n_sources c_sources, .slice A_seens n_seens c_seens, .slice none 0 0, .int .i64 0, .slice none 0 0, .int .i64 0, .int .i64 0, .int .i64 0, .int .i64 0, .int .i64 0, .int .i64 0, .int .i64 0, .int .i64 0, .int .i64 0, .int .i64 0, .int .i64 0, .int .i64 0, .int .i64 0, .int .i64 0, .int .i64 0, .int .i64 0, .int .i64 0, .int .i64 0, .int .i64 0, .int .i64 0, .int .i64 0, .int .i64 0, .int .i64 0, .int .i64 0]) rfl)
  clear c3 z3 HS HS1
  generalize W1.setCell ⟨(w.heap.size + 1), 3, none⟩ (.slice A_seens n_seens c_seens) = W2 at HS2 ⊢
  have HS := HS2
  clear HS2
  obtain ⟨f_, hr_⟩ := HS.out.rs
  have hc := tlCel_calls w0 rb gCel (fun f W hW => takeCel_calls w0 rb f W hW) f_ _ hr_
  clear hr_
  go_upto_region 7 with (go_at_call 55; refine (show Calls _ _ _ _ _ from hc).mono ?_; rintro e W1 ⟨⟨x_cells, cs, rfl, ⟨v, rfl, hR⟩, hG⟩, hr, hg⟩; obtain ⟨A_cells, n_cells, c_cells, e1⟩ := R_sl hR; subst e1; have G_cells := Aside0.mk hG; have HS1 := Aside0.mk (HS.out.callR (R' := fun W => Kd.R kCel 104 W w.heap.size (fun q => q ≠ rb) (.slice A_cells n_cells c_cells) x_cells) HST.out hr hg (Kd.R_lower hR HS.out.gr.size)); have c3 := blk_cell HS1.out.r3 4; have z3 := blk_frozen HS1.out.r3 4; clear hr hg hc hG hR; simp only [enc1, List.headD_cons])
  have HST2 := Aside0.mk (HST.out.row (d := kCel) (e := 104) (base := w.heap.size) (v := .slice A_cells n_cells c_cells) (xs := x_cells) (by decide))
  clear HST
  have HST := HST2
  clear HST2
  have HS2 := Aside0.mk (HS1.out.set HST.out 4 (.slice A_cells n_cells c_cells) (cs' := #[.int .i64 x_now, .int .i64 x_low, .slice A_sources n_sources c_sources, .slice A_seens n_seens c_seens, .slice A_cells n_cells c_cells, .int .i64 0, .slice none 0 0, .int .i64 0, .int .i64 0, .int .i64 0, .int .i64 0, .int .i64 0, .int .i64 0, .int .i64 0, .int .i64 0, .int .i64 0, .int .i64 0, .int .i64 0, .int .i64 0, .int .i64 0, .int .i64 0, .int .i64 0, .int .i64 0, .int .i64 0, .int .i64 0, .int .i64 0, .int .i64 0, .int .i64 0, .int .i64 0, .int .i64 0, .int .i64 0]) rfl)
  clear c3 z3 HS HS1
  generalize W1.setCell ⟨(w.heap.size + 1), 4, none⟩ (.slice A_cells n_cells c_cells) = W2 at HS2 ⊢
  have HS := HS2
  clear HS2
  obtain ⟨f_, hr_⟩ := HS.out.rs
  have hc := takeUp_calls w0 rb f_ _ hr_
  clear hr_
  go_upto_region 8 with (go_at_call 35; refine (show Calls _ _ _ _ _ from hc).mono ?_; rintro e W1 ⟨⟨x_first, rfl, hn0, hn1⟩, hr, hg⟩; have G_first := Aside0.mk (And.intro hn0 hn1); have HS1 := Aside0.mk (HS.out.call HST.out hr hg); have c3 := blk_cell HS1.out.r3 5; have z3 := blk_frozen HS1.out.r3 5; clear hr hg hc hn0 hn1)
  have HS2 := Aside0.mk (HS1.out.set HST.out 5 (.int .i64 x_first) (cs' := #[.int .i64 x_now, .int .i64 x_low, .slice A_sources n_sources c_sources, .slice A_seens n_seens c_seens, .slice A_cells n_cells c_cells, .int .i64 x_first, .slice none 0 0, .int .i64 0, .int .i64 0, .int .i64 0, .int .i64 0, .int .i64 0, .int .i64 0, .int .i64 0, .int .i64 0, .int .i64 0, .int .i64 0, .int .i64 0, .int .i64 0, .int .i64 0, .int .i64 0, .int .i64 0, .int .i64 0, .int .i64 0, .int .i64 0, .int .i64 0, .int .i64 0, .int .i64 0, .int .i64 0, .int .i64 0, .int .i64 0]) rfl)
  clear c3 z3 HS HS1
  generalize W1.setCell ⟨(w.heap.size + 1), 5, none⟩ (.int .i64 x_first) = W2 at HS2 ⊢
  have HS := HS2
  clear HS2
  obtain ⟨f_, hr_⟩ := HS.out.rs
  have hc := tlEmi_calls w0 rb gEmi (fun f W hW => takeEmi_calls w0 rb f W hW) f_ _ hr_
  clear hr_
  go_upto_region 9 with (go_at_call 57; refine (show Calls _ _ _ _ _ from hc).mono ?_; rintro e W1 ⟨⟨x_out, cs, rfl, ⟨v, rfl, hR⟩, hG⟩, hr, hg⟩; obtain ⟨A_out, n_out, c_out, e1⟩ := R_sl hR; subst e1; have G_out := Aside0.mk hG; have HS1 := Aside0.mk (HS.out.callR (R' := fun W => Kd.R kEmi 30 W w.heap.size (fun q => q ≠ rb) (.slice A_out n_out c_out) x_out) HST.out hr hg (Kd.R_lower hR HS.out.gr.size)); have c3 := blk_cell HS1.out.r3 6; have z3 := blk_frozen HS1.out.r3 6; clear hr hg hc hG hR; simp only [enc1, List.headD_cons])
  have HST2 := Aside0.mk (HST.out.row (d := kEmi) (e := 30) (base := w.heap.size) (v := .slice A_out n_out c_out) (xs := x_out) (by decide))
  clear HST
  have HST := HST2
  clear HST2
  have HS2 := Aside0.mk (HS1.out.set HST.out 6 (.slice A_out n_out c_out) (cs' := #[.int .i64 x_now, .int .i64 x_low, .slice A_sources n_sources c_sources, .slice A_seens n_seens c_seens, .slice A_cells n_cells c_cells, .int .i64 x_first, .slice A_out n_out c_out, .int .i64 0, .int .i64 0, .int .i64 0, .int .i64 0, .int .i64 0, .int .i64 0, .int .i64 0, .int .i64 0, .int .i64 0, .int .i64 0, .int .i64 0, .int .i64 0, .int .i64 0, .int .i64 0, .int .i64 0, .int .i64 0, .int .i64 0, .int .i64 0, .int .i64 0, .int .i64 0, .int .i64 0, .int .i64 0, .int .i64 0, .int .i64 0]) rfl)
  clear c3 z3 HS HS1
  generalize W1.setCell ⟨(w.heap.size + 1), 6, none⟩ (.slice A_out n_out c_out) = W2 at HS2 ⊢
  have HS := HS2
  clear HS2
  go_wp2_with fail
  go_loopw [4, 30] (fun _ v30 wr => ∃ (j : Nat) (cc : List Int), j ≤ 24 ∧ v30 = .int .i64 j ∧ cc.length = 24 ∧ (∀ n ∈ cc, gUp n) ∧ TS w0 w rb 44 w.heap.size (w.heap.size + 1) (fun W => ((((True ∧ Kd.R kSrc 119 W w.heap.size (fun q => q ≠ rb) (.slice A_sources n_sources c_sources) x_sources) ∧ Kd.R kSen 122 W w.heap.size (fun q => q ≠ rb) (.slice A_seens n_seens c_seens) x_seens) ∧ Kd.R kCel 104 W w.heap.size (fun q => q ≠ rb) (.slice A_cells n_cells c_cells) x_cells) ∧ Kd.R kEmi 30 W w.heap.size (fun q => q ≠ rb) (.slice A_out n_out c_out) x_out)) #[.int .i64 0, .int .i64 0, .slice none 0 0, .slice none 0 0, .slice none 0 0, .int .i64 0, .slice none 0 0, .int .i64 0, .int .i64 0, .int .i64 0, .int .i64 0, .int .i64 0, .int .i64 0, .int .i64 0, .int .i64 0, .int .i64 0, .int .i64 0, .int .i64 0, .int .i64 0, .int .i64 0, .int .i64 0, .int .i64 0, .int .i64 0, .int .i64 0, .int .i64 0, .int .i64 0, .int .i64 0, .int .i64 0, .int .i64 0, .int .i64 0, .int .i64 0] (staA x_now x_low (.slice A_sources n_sources c_sources) (.slice A_seens n_seens c_seens) (.slice A_cells n_cells c_cells) x_first (.slice A_out n_out c_out) (cc)) wr) (fun _ v30 _ => (24 - intOf v30).toNat)
  case atStart => exact ⟨0, List.replicate 24 0, by omega, rfl, rfl, by intro n hn; rw [List.eq_of_mem_replicate hn]; unfold gUp; omega, HS.out⟩
  case round =>
    obtain ⟨j, cc, hj, rfl, hcl, hcg, hTS⟩ := hrel
    have HS := Aside0.mk hTS
    have HCL := Aside0.mk hcl
    have HCG := Aside0.mk hcg
    clear hTS hcl hcg
    by_cases hlt : j < 24
    · obtain ⟨f_, hr_⟩ := HS.out.rs
      have hc := takeUp_calls w0 rb f_ _ hr_
      clear hr_
      have hg0 : (staA x_now x_low (.slice A_sources n_sources c_sources) (.slice A_seens n_seens c_seens) (.slice A_cells n_cells c_cells) x_first (.slice A_out n_out c_out) (cc))[7 + j]? = some (.int .i64 (cc.getD j 0)) := staA_at _ _ _ _ _ _ _ (by rw [HCL.out]; exact hlt)
      have hj3 : (j : Int) < 24 := by omega
      have HG0 := Aside0.mk hg0
      clear hg0
      go_upto_region 13 with (go_at_call 35; refine (show Calls _ _ _ _ _ from hc).mono ?_; rintro e W1 ⟨⟨x_n, rfl, hn0, hn1⟩, hr, hg⟩; have G_n := Aside0.mk (And.intro hn0 hn1); have HS1 := Aside0.mk (HS.out.call HST.out hr hg); have c3 := (blk_cell HS1.out.r3 (7 + j)).trans HG0.out; have z3 := blk_frozen HS1.out.r3 (7 + j); clear hr hg hc hn0 hn1)
      have HS2 := Aside0.mk (HS1.out.set HST.out (7 + j) (.int .i64 x_n) (cs' := (staA x_now x_low (.slice A_sources n_sources c_sources) (.slice A_seens n_seens c_seens) (.slice A_cells n_cells c_cells) x_first (.slice A_out n_out c_out) (cc.set j x_n))) (staA_set _ _ _ _ _ _ _ _ _ _))
      clear c3 z3 HS1 HS
      generalize W1.setCell ⟨(w.heap.size + 1), 7 + j, none⟩ (.int .i64 x_n) = W2 at HS2 ⊢
      go_wp2
      go_roundw
      case rel =>
        refine ⟨j + 1, cc.set j x_n, by omega, by simp, by rw [List.length_set]; exact HCL.out, ?_, HS2.out⟩
        intro n hn
        rcases List.mem_or_eq_of_mem_set hn with hn | rfl
        · exact HCG.out n hn
        · exact G_n.out
      case measure => simp [intOf]; omega
    · have hge : ¬ ((j : Int) < 24) := by omega
      have HSZ := Aside0.mk (staA_size x_now x_low (.slice A_sources n_sources c_sources) (.slice A_seens n_seens c_seens) (.slice A_cells n_cells c_cells) x_first (.slice A_out n_out c_out) HCL.out)
      have FIN := Aside0.mk (HS.out.fin HST.out (by rw [HSZ.out]; rfl))
      have h2 := HS.out.r2
      have h3 := HS.out.r3
      have hi := Aside0.mk (show (Tryz.prog.info? 44).map (·.size) = some (staA x_now x_low (.slice A_sources n_sources c_sources) (.slice A_seens n_seens c_seens) (.slice A_cells n_cells c_cells) x_first (.slice A_out n_out c_out) (cc)).size by rw [HSZ.out]; kernel_rfl)
      have hold := Aside0.mk (show (#[.int .i64 0, .int .i64 0, .slice none 0 0, .slice none 0 0, .slice none 0 0, .int .i64 0, .slice none 0 0, .int .i64 0, .int .i64 0, .int .i64 0, .int .i64 0, .int .i64 0, .int .i64 0, .int .i64 0, .int .i64 0, .int .i64 0, .int .i64 0, .int .i64 0, .int .i64 0, .int .i64 0, .int .i64 0, .int .i64 0, .int .i64 0, .int .i64 0, .int .i64 0, .int .i64 0, .int .i64 0, .int .i64 0, .int .i64 0, .int .i64 0, .int .i64 0] : Array Value).size = (staA x_now x_low (.slice A_sources n_sources c_sources) (.slice A_seens n_seens c_seens) (.slice A_cells n_cells c_cells) x_first (.slice A_out n_out c_out) (cc)).size by rw [HSZ.out]; rfl)
      have H1C := Aside0.mk (show (staA x_now x_low (.slice A_sources n_sources c_sources) (.slice A_seens n_seens c_seens) (.slice A_cells n_cells c_cells) x_first (.slice A_out n_out c_out) (cc)).all (·.oneCell') = true by
        refine Array.all_eq_true_iff_forall_mem.2 fun v hv => ?_
        unfold staA at hv
        rw [List.mem_toArray, List.mem_append] at hv
        rcases hv with hv | hv
        · simp only [List.mem_cons, List.not_mem_nil, or_false] at hv
          rcases hv with rfl | rfl | rfl | rfl | rfl | rfl | rfl <;> rfl
        · obtain ⟨n, _, rfl⟩ := List.mem_map.1 hv
          rfl)
      go_wp2_with (first | (refine wpList_load_row rfl 44 (.tmp 3) rfl (w.heap.size + 1) rfl 44 (staA x_now x_low (.slice A_sources n_sources c_sources) (.slice A_seens n_seens c_seens) (.slice A_cells n_cells c_cells) x_first (.slice A_out n_out c_out) (cc)) (0, 0) _ h3 hu rfl hi.out ?_) | (refine wpList_store_row rfl 44 (.tmp 2) (.tmp 39) rfl w.heap.size (staA x_now x_low (.slice A_sources n_sources c_sources) (.slice A_seens n_seens c_seens) (.slice A_cells n_cells c_cells) x_first (.slice A_out n_out c_out) (cc)) rfl rfl 44 #[.int .i64 0, .int .i64 0, .slice none 0 0, .slice none 0 0, .slice none 0 0, .int .i64 0, .slice none 0 0, .int .i64 0, .int .i64 0, .int .i64 0, .int .i64 0, .int .i64 0, .int .i64 0, .int .i64 0, .int .i64 0, .int .i64 0, .int .i64 0, .int .i64 0, .int .i64 0, .int .i64 0, .int .i64 0, .int .i64 0, .int .i64 0, .int .i64 0, .int .i64 0, .int .i64 0, .int .i64 0, .int .i64 0, .int .i64 0, .int .i64 0, .int .i64 0] h2 hi.out hold.out H1C.out ?_))
      refine bodyPost_ret (v := .agg (staA x_now x_low (.slice A_sources n_sources c_sources) (.slice A_seens n_seens c_seens) (.slice A_cells n_cells c_cells) x_first (.slice A_out n_out c_out) (cc))) (results_cell_row rfl _ _ w.heap.size 44 (staA x_now x_low (.slice A_sources n_sources c_sources) (.slice A_seens n_seens c_seens) (.slice A_cells n_cells c_cells) x_first (.slice A_out n_out c_out) (cc)) (0, 0) _ rfl FIN.out.1 hu rfl hi.out) rfl ⟨⟨⟨x_now, x_low, x_sources, x_seens, x_cells, x_first, x_out, cc⟩, _, rfl, kSta_mkM _ _ _ _ HCL.out FIN.out.2.2.2.1.1.1.2 FIN.out.2.2.2.1.1.2 FIN.out.2.2.2.1.2 FIN.out.2.2.2.2, ⟨G_now.out, G_low.out, G_sources.out, G_seens.out, G_cells.out, G_first.out, G_out.out, HCG.out⟩⟩, FIN.out.2.2.1, FIN.out.2.1⟩
end Go.Proofs.YtpdppfihpnfblaaGreat.H
