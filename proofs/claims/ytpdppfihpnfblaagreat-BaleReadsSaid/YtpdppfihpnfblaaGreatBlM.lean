/- The law's copy of a mill's state. Laid by wip/refs4_bl.py. -/
import Derived.Deep.MidRow
import Derived.Test.YtpdppfihpnfblaaGreatBlL
import Derived.Test.YtpdppfihpnfblaaGreatBlJ
namespace Go.Proofs.YtpdppfihpnfblaaGreat.H
open Go.RowKit Go.Shelf Go.Proofs.YtpdppfihpnfblaaGreat.PA Go.Proofs.YtpdppfihpnfblaaGreatW.PrintWords Go.Proofs.YtpdppfihpnfblaaGreatW.PrintLast Go.Proofs.YtpdppfihpnfblaaGreatW.PrintMore
set_option linter.unusedVariables false
set_option linter.unusedSimpArgs false
theorem gList_n {α : Type} {G : α → Prop} {l : List α} (h : gList G l) : l.length ≤ 1000 := h.1
theorem kSta_openM {w : World} {base : Nat} {x : Sta} {cs : List Value} (h : kSta.M w base (fun _ => True) x cs) : ∃ v1 v2 v3 v4, cs = [.int .i64 x.now, .int .i64 x.low, v1, v2, v3, .int .i64 x.first, v4] ++ encs (Value.int .i64) x.counts ∧ x.counts.length = 24 ∧
    Kd.R kSrc 119 w base (fun _ => True) v1 x.sources ∧ Kd.R kSen 122 w base (fun _ => True) v2 x.seens ∧ Kd.R kCel 104 w base (fun _ => True) v3 x.cells ∧ Kd.R kEmi 30 w base (fun _ => True) v4 x.out := by
  obtain ⟨_, _, rfl, rfl, ⟨_, _, rfl, rfl, ⟨_, _, rfl, ⟨v1, rfl, g1⟩, ⟨_, _, rfl, ⟨v2, rfl, g2⟩, ⟨_, _, rfl, ⟨v3, rfl, g3⟩, ⟨_, _, rfl, rfl, ⟨_, _, rfl, ⟨v4, rfl, g4⟩, ha⟩⟩⟩⟩⟩⟩⟩ := h
  obtain ⟨h24, rfl⟩ := Kd.arr_cells ((Kd.arr 24 (Kd.int .i64) (by decide)).K_of_M ha)
  exact ⟨v1, v2, v3, v4, rfl, h24, g1, g2, g3, g4⟩
/-- A block's cells: some known one by one, then a row. -/
def mA (l cc : List Value) : Array Value := (l ++ cc).toArray
theorem mA_get {l cc : List Value} {i : Nat} {v : Value} (h : l[i]? = some v) : (mA l cc)[i]? = some v := by
  unfold mA
  rw [List.getElem?_toArray, List.getElem?_append_left (List.getElem?_eq_some_iff.1 h).1]
  exact h
theorem mA_at (l cc : List Value) (j : Nat) : (mA l cc)[l.length + j]? = cc[j]? := by
  unfold mA
  rw [List.getElem?_toArray, List.getElem?_append_right (by omega)]
  congr 1
  omega
theorem mA_set {l cc : List Value} {i : Nat} (h : i < l.length) (u : Value) : (mA l cc).setIfInBounds i u = mA (l.set i u) cc := by
  unfold mA
  rw [List.setIfInBounds_toArray, List.set_append_left _ _ h]
theorem mA_size (l cc : List Value) : (mA l cc).size = l.length + cc.length := by unfold mA; simp
theorem mA_one {l cc : List Value} (h : ∀ v ∈ l, v.oneCell' = true) (h2 : cc.toArray.all (·.oneCell') = true) : (mA l cc).all (·.oneCell') = true := by
  unfold mA
  refine all_oneCell_toArray (fun v hv => ?_)
  rcases List.mem_append.1 hv with hv | hv
  · exact h v hv
  · exact (Array.all_eq_true_iff_forall_mem.1 h2) v (by simpa using hv)
def setAll (cs : Array Value) : Nat → List Value → Array Value
  | _, [] => cs
  | o, v :: r => setAll (cs.setIfInBounds o v) (o + 1) r
theorem setAll_mA (l : List Value) : ∀ (vs pre zz : List Value), zz.length = vs.length → setAll (mA l (pre ++ zz)) (l.length + pre.length) vs = mA l (pre ++ vs)
  | [], pre, [], _ => rfl
  | v :: r, pre, z :: zz, h => by
    unfold setAll
    have e : (mA l (pre ++ z :: zz)).setIfInBounds (l.length + pre.length) v = mA l ((pre ++ [v]) ++ zz) := by
      unfold mA
      rw [List.setIfInBounds_toArray, ← List.append_assoc, List.set_append_right _ _ (by simp)]
      simp
    rw [e]
    have := setAll_mA l r (pre ++ [v]) zz (by simpa using h)
    rw [List.length_append] at this
    simpa [Nat.add_assoc] using this
theorem blk_sets : ∀ (vs : List Value) (o : Nat) (w : World) (b T : Nat) (cs : Array Value), w.heap[b]? = some (.cells cs T (0, 0)) → (w.setCells b o vs).heap[b]? = some (.cells (setAll cs o vs) T (0, 0))
  | [], _, _, _, _, _, h => h
  | v :: r, o, w, b, T, cs, h => blk_sets r (o + 1) _ b T _ (blk_put h o v rfl)
theorem setCell_grown (W : World) (b i : Nat) (u : Value) : W.grownBy (W.setCell ⟨b, i, none⟩ u) (some b) :=
  ⟨rfl, rfl, rfl, by rw [World.size_setCell]; exact Nat.le_refl _, fun k hk hne => Below.heap_setCell W ⟨b, i, none⟩ u k (fun e => hne (by rw [e]))⟩
theorem setCells_grown : ∀ (vs : List Value) (o : Nat) (w : World) (b : Nat), w.grownBy (w.setCells b o vs) (some b)
  | [], _, w, b => ⟨rfl, rfl, rfl, Nat.le_refl _, fun _ _ _ => rfl⟩
  | v :: r, o, w, b => World.grownBy.trans (setCell_grown w b o v) (setCells_grown r (o + 1) _ b)
/-- A row out of the middle of a block is read, in every world where it lies. -/
theorem take_mid {P : Program} {S : World → Prop} {oi : Oper} {a : Act} (ty : TypeId) (x : Operand) (ho : oi.op = .load ty x) (b o : Nat) (hx : a.eval x = .pointer (some ⟨b, o, none⟩)) (cs : List Value) (d : TypeDesc) (hS : ∀ w, S w → w.rangeAt b o cs)
    (hu : P.underlying ty = some d) (hd : d.isRow = true) (hi : (P.info? ty).map (·.size) = some cs.length) : ∀ w, S w → (execOp a.eval oi).run P w = .ok (.value (.agg cs.toArray)) w := fun w hw => by
  unfold execOp
  simp only [ho, hx, Instr.loadAt, Instr.sureAddr, Sem.run_bind, Sem.run_pure, Result.andThen_ok, run_loadVar_mid w b o ty cs d (hS w hw) hu hd hi]
theorem skip_mid {P : Program} {oi : Oper} {a : Act} {w : World} (ty : TypeId) (x y : Operand) (ho : oi.op = .store ty x y) (b o : Nat) (cells : Array Value) (hx : a.eval x = .pointer (some ⟨b, o, none⟩)) (hy : a.eval y = .agg cells)
    (ht : w.there b o cells.size) (hi : (P.info? ty).map (·.size) = some cells.size) (h1 : cells.all (·.oneCell') = true) : (execOp a.eval oi).run P w = .ok .skip (w.setCells b o cells.toList) := by
  unfold execOp
  simp only [ho, hx, hy, Instr.storeAt, Instr.sureAddr, Sem.run_bind, Sem.run_pure, Result.andThen_ok, run_storeVar_mid w b o ty cells ht hi h1]
/-- A row that is not of this one's type outlives what is appended to it. -/
theorem R_apart {α : Type} {d : Kd α} {W W1 : World} {e e' base b0 s n : Nat} {ok : Nat → Prop} {v v' : Value} {xs : List α} {ys : List Value} (h : Kd.R d e W base ok v xs) (ho : W.ownsRow b0 e' s v' n ys) (ht : ∀ q, q ∈ e :: d.E → q ≠ e') (hg : W.grownBy W1 v'.ownBlock) : Kd.R d e W1 base ok v xs := by
  cases hv : v'.ownBlock with
  | none => rw [hv] at hg; exact Kd.R_grown h hg (fun k _ e => by cases e)
  | some b =>
    rw [hv] at hg
    obtain ⟨cells, hc⟩ := own_typed ho b hv
    exact Kd.R_mono (Kd.R_grown (Kd.R_types h hc ht) hg (fun k hk e => hk.2 (by injection e))) (fun _ hk => hk.1)
/-- A row outlives stores into a block of another type. -/
theorem R_block {α : Type} {d : Kd α} {W W1 : World} {e T base b : Nat} {ok : Nat → Prop} {v : Value} {xs : List α} {cells : Array Value} (h : Kd.R d e W base ok v xs) (hb : W.heap[b]? = some (.cells cells T (0, 0))) (ht : ∀ q, q ∈ e :: d.E → q ≠ T) (hg : W.grownBy W1 (some b)) : Kd.R d e W1 base ok v xs :=
  Kd.R_mono (Kd.R_grown (Kd.R_types h hb ht) hg (fun k hk e => hk.2 (by injection e))) (fun _ hk => hk.1)
/-- The reference's mill of a state. -/
structure MillAns (x : Sta) (w : World) (e' : Ending) (w' : World) : Prop where
  out : ∃ CA A1 c1 A2 c2 A3 c3 A4 c4, e' = .returned (.agg CA) ∧ MillAt w' x CA A1 c1 A2 c2 A3 c3 A4 c4
  hb : Below w.heap.size w w'
def Z11 : List Value := [.slice none 0 0, .slice none 0 0, .int .i64 0, .int .i64 0, .int .i64 0, .int .i64 0, .slice none 0 0, .slice none 0 0, .slice none 0 0, .int .i64 0, .slice none 0 0]
def Z24 : List Value := List.replicate 24 (.int .i64 0)
def r10.T1 : Bool × List (List Nat × List Nat) := (true, [([], []), ([0], [0]), ([1], [1]), ([], []), ([3], [3]), ([4, 2], [4]), ([], []), ([6], [6]), ([], []), ([8], [8]), ([], []), ([10], [10]), ([0, 1, 2], []), ([12, 2, 5, 0, 1, 2], [2, 12]), ([0, 1, 2, 3, 4, 5, 12, 13], []), ([14, 5, 13, 0, 1, 2, 3, 4, 5, 12, 13], [5, 14]), ([0, 1, 2, 3, 4, 5, 6, 7, 12, 13, 14, 15], []), ([16, 7, 15, 0, 1, 2, 3, 4, 5, 6, 7, 12, 13, 14, 15], [7, 16]), ([0, 1, 2, 3, 4, 5, 6, 7, 8, 9, 12, 13, 14, 15, 16, 17], []), ([18, 9, 17, 0, 1, 2, 3, 4, 5, 6, 7, 8, 9, 12, 13, 14, 15, 16, 17], [9, 18]), ([0, 1, 2, 3, 4, 5, 6, 7, 8, 9, 10, 11, 12, 13, 14, 15, 16, 17, 18, 19], []), ([20, 11, 19, 0, 1, 2, 3, 4, 5, 6, 7, 8, 9, 10, 11, 12, 13, 14, 15, 16, 17, 18, 19], [11, 20]), ([0, 1, 2, 3, 4, 5, 6, 7, 8, 9, 10, 11, 12, 13, 14, 15, 16, 17, 18, 19, 20, 21], []), ([22, 21, 0, 1, 2, 3, 4, 5, 6, 7, 8, 9, 10, 11, 12, 13, 14, 15, 16, 17, 18, 19, 20, 21], [22])])
def r10.B1 : List Nat := [0, 1, 3, 0, 8, 31, 0, 64, 0, 256, 0, 1024, 7, 4159, 12351, 28735, 61695, 127231, 259071, 521215, 1048575, 2097151, 4194303, 8388607]
theorem r10.tab1 : rtab .any (opsOf Tryz.f10 1) = r10.T1 := by kernel_rfl
theorem r10.bits1 : waitsOk r10.T1.2 r10.B1 = true := by kernel_rfl
set_option maxRecDepth 100000 in
set_option maxHeartbeats 16000000 in
theorem lawCel_calls (b0 : Nat) (x : Sta) (cs : List Value) (w : World) (hM : kSta.M w b0 (fun _ => True) x cs) (hG : gSta x) (hb0 : b0 ≤ w.heap.size) : Calls Tryz.prog 10 #[.agg (mA Z11 Z24), encA cs] w (MillAns x w) := by
  obtain ⟨v1, v2, v3, v4, hcs, h24, g1, g2, g3, g4⟩ := kSta_openM hM
  subst hcs
  clear hM
  obtain ⟨E1, m1, d1, rfl⟩ := R_sl g1
  obtain ⟨E2, m2, d2, rfl⟩ := R_sl g2
  obtain ⟨E3, d3, rfl⟩ := Kd.R_slice g3
  obtain ⟨E4, d4, rfl⟩ := Kd.R_slice g4
  have G1 := Aside0.mk g1
  have G2 := Aside0.mk g2
  have G3 := Aside0.mk g3
  have G4 := Aside0.mk g4
  have HB0 := Aside0.mk hb0
  unfold gSta at hG
  have HGS := Aside0.mk hG
  obtain ⟨_, hlc, hC⟩ := Kd.R_reads' g3
  have HC := Aside0.mk hC
  have hmx := hC.2.1
  clear g1 g2 g3 g4 hb0 hG hC
  obtain ⟨CC, hcc⟩ : ∃ CC, CC = encs (Value.int .i64) x.counts := ⟨_, rfl⟩
  have he : encA ([.int .i64 x.now, .int .i64 x.low, .slice E1 m1 d1, .slice E2 m2 d2, .slice E3 x.cells.length d3, .int .i64 x.first, .slice E4 x.out.length d4] ++ encs (Value.int .i64) x.counts) = .agg (mA [.int .i64 x.now, .int .i64 x.low, .slice E1 m1 d1, .slice E2 m2 d2, .slice E3 x.cells.length d3, .int .i64 x.first, .slice E4 x.out.length d4] CC) := by rw [hcc]; rfl
  have hcl : CC.length = 24 := by rw [hcc]; simp [encs, h24]
  have HCL := Aside0.mk hcl
  have HCC := Aside0.mk hcc
  have HC1 := Aside0.mk (show CC.toArray.all (·.oneCell') = true from all_oneCell_toArray (fun v hv => by rw [hcc] at hv; obtain ⟨n, _, rfl⟩ := List.mem_map.1 hv; rfl))
  have H24 := Aside0.mk h24
  clear hcc hcl h24
  rw [he]
  clear he
  have hu := Tryz.underlying61
  go_enter Tryz.func10, Tryz.ntmps10
  go_upto_region 1 with fail
  have HB := Aside0.mk ((((Below.refl w.heap.size w).alloc (Nat.le_refl _) (.cells (mA Z11 Z24) 61)).alloc (by rw [World.size_alloc]; omega) (.cells (mA [.int .i64 x.now, .int .i64 x.low, .slice E1 m1 d1, .slice E2 m2 d2, .slice E3 x.cells.length d3, .int .i64 x.first, .slice E4 x.out.length d4] CC) 44)).alloc (by rw [World.size_alloc, World.size_alloc]; omega) (.cells #[.slice none 0 0, .slice none 0 0, .int .i64 0, .int .i64 0, .int .i64 0, .int .i64 0, .slice none 0 0, .slice none 0 0, .slice none 0 0, .int .i64 0, .slice none 0 0, .int .i64 0, .int .i64 0, .int .i64 0, .int .i64 0, .int .i64 0, .int .i64 0, .int .i64 0, .int .i64 0, .int .i64 0, .int .i64 0, .int .i64 0, .int .i64 0, .int .i64 0, .int .i64 0, .int .i64 0, .int .i64 0, .int .i64 0, .int .i64 0, .int .i64 0, .int .i64 0, .int .i64 0, .int .i64 0, .int .i64 0, .int .i64 0] 61))
  have BK_m := Aside0.mk (blk_alloc (blk_alloc (blk_new w (.cells (mA Z11 Z24) 61)) (.cells (mA [.int .i64 x.now, .int .i64 x.low, .slice E1 m1 d1, .slice E2 m2 d2, .slice E3 x.cells.length d3, .int .i64 x.first, .slice E4 x.out.length d4] CC) 44)) (.cells #[.slice none 0 0, .slice none 0 0, .int .i64 0, .int .i64 0, .int .i64 0, .int .i64 0, .slice none 0 0, .slice none 0 0, .slice none 0 0, .int .i64 0, .slice none 0 0, .int .i64 0, .int .i64 0, .int .i64 0, .int .i64 0, .int .i64 0, .int .i64 0, .int .i64 0, .int .i64 0, .int .i64 0, .int .i64 0, .int .i64 0, .int .i64 0, .int .i64 0, .int .i64 0, .int .i64 0, .int .i64 0, .int .i64 0, .int .i64 0, .int .i64 0, .int .i64 0, .int .i64 0, .int .i64 0, .int .i64 0, .int .i64 0] 61))
  have BK_s := Aside0.mk (blk_alloc (blk_new (w.alloc (.cells (mA Z11 Z24) 61)) (.cells (mA [.int .i64 x.now, .int .i64 x.low, .slice E1 m1 d1, .slice E2 m2 d2, .slice E3 x.cells.length d3, .int .i64 x.first, .slice E4 x.out.length d4] CC) 44)) (.cells #[.slice none 0 0, .slice none 0 0, .int .i64 0, .int .i64 0, .int .i64 0, .int .i64 0, .slice none 0 0, .slice none 0 0, .slice none 0 0, .int .i64 0, .slice none 0 0, .int .i64 0, .int .i64 0, .int .i64 0, .int .i64 0, .int .i64 0, .int .i64 0, .int .i64 0, .int .i64 0, .int .i64 0, .int .i64 0, .int .i64 0, .int .i64 0, .int .i64 0, .int .i64 0, .int .i64 0, .int .i64 0, .int .i64 0, .int .i64 0, .int .i64 0, .int .i64 0, .int .i64 0, .int .i64 0, .int .i64 0, .int .i64 0] 61))
  have BK_r := Aside0.mk (blk_new ((w.alloc (.cells (mA Z11 Z24) 61)).alloc (.cells (mA [.int .i64 x.now, .int .i64 x.low, .slice E1 m1 d1, .slice E2 m2 d2, .slice E3 x.cells.length d3, .int .i64 x.first, .slice E4 x.out.length d4] CC) 44)) (.cells #[.slice none 0 0, .slice none 0 0, .int .i64 0, .int .i64 0, .int .i64 0, .int .i64 0, .slice none 0 0, .slice none 0 0, .slice none 0 0, .int .i64 0, .slice none 0 0, .int .i64 0, .int .i64 0, .int .i64 0, .int .i64 0, .int .i64 0, .int .i64 0, .int .i64 0, .int .i64 0, .int .i64 0, .int .i64 0, .int .i64 0, .int .i64 0, .int .i64 0, .int .i64 0, .int .i64 0, .int .i64 0, .int .i64 0, .int .i64 0, .int .i64 0, .int .i64 0, .int .i64 0, .int .i64 0, .int .i64 0, .int .i64 0] 61))
  rw [World.size_alloc] at BK_s
  rw [World.size_alloc, World.size_alloc] at BK_r
  generalize ((w.alloc (.cells (mA Z11 Z24) 61)).alloc (.cells (mA [.int .i64 x.now, .int .i64 x.low, .slice E1 m1 d1, .slice E2 m2 d2, .slice E3 x.cells.length d3, .int .i64 x.first, .slice E4 x.out.length d4] CC) 44)).alloc (.cells #[.slice none 0 0, .slice none 0 0, .int .i64 0, .int .i64 0, .int .i64 0, .int .i64 0, .slice none 0 0, .slice none 0 0, .slice none 0 0, .int .i64 0, .slice none 0 0, .int .i64 0, .int .i64 0, .int .i64 0, .int .i64 0, .int .i64 0, .int .i64 0, .int .i64 0, .int .i64 0, .int .i64 0, .int .i64 0, .int .i64 0, .int .i64 0, .int .i64 0, .int .i64 0, .int .i64 0, .int .i64 0, .int .i64 0, .int .i64 0, .int .i64 0, .int .i64 0, .int .i64 0, .int .i64 0, .int .i64 0, .int .i64 0] 61) = W at HB BK_m BK_s BK_r ⊢
  obtain ⟨ZR, hzr⟩ : ∃ ZR : Array Value, ZR = #[.slice none 0 0, .slice none 0 0, .int .i64 0, .int .i64 0, .int .i64 0, .int .i64 0, .slice none 0 0, .slice none 0 0, .slice none 0 0, .int .i64 0, .slice none 0 0, .int .i64 0, .int .i64 0, .int .i64 0, .int .i64 0, .int .i64 0, .int .i64 0, .int .i64 0, .int .i64 0, .int .i64 0, .int .i64 0, .int .i64 0, .int .i64 0, .int .i64 0, .int .i64 0, .int .i64 0, .int .i64 0, .int .i64 0, .int .i64 0, .int .i64 0, .int .i64 0, .int .i64 0, .int .i64 0, .int .i64 0, .int .i64 0] := ⟨_, rfl⟩
  have HZR := Aside0.mk (show ZR.size = 35 by rw [hzr]; rfl)
  rw [← hzr] at BK_r
  clear hzr
  have n_m := Aside0.mk (blk_drew BK_m.out)
  have n_s := Aside0.mk (blk_drew BK_s.out)
  have n_r := Aside0.mk (blk_drew BK_r.out)
  have n_HB := Aside0.mk (below_drew1 HB.out)
  clear HB BK_m BK_s BK_r
  have BK_m := n_m
  have BK_s := n_s
  have BK_r := n_r
  have HB := n_HB
  clear n_HB n_m n_s n_r
  refine wp_mono (Q := fun e a w => e = .normal ∧ _) ?_ (fun e a w h => h.2)
  have h24i : (Tryz.prog.info? 42).map (·.size) = some 24 := by kernel_rfl
  refine start_ (n := 24) (S := fun w' => w'.cell? ⟨w.heap.size + 1, 0, none⟩ = some (.int .i64 x.now) ∧ w'.cell? ⟨w.heap.size + 1, 1, none⟩ = some (.int .i64 x.low) ∧ w'.cell? ⟨w.heap.size + 1, 2, none⟩ = some (.slice E1 m1 d1) ∧ w'.cell? ⟨w.heap.size + 1, 3, none⟩ = some (.slice E2 m2 d2) ∧ w'.cell? ⟨w.heap.size + 1, 5, none⟩ = some (.int .i64 x.first) ∧ w'.cell? ⟨w.heap.size + 1, 6, none⟩ = some (.slice E4 x.out.length d4) ∧ w'.rangeAt (w.heap.size + 1) 7 CC) (ds := []) #[false, false, false, false, false, false, false, false, false, false, false, false, false, false, false, false, false, false, false, false, false, false, false, false] (by kernel_rfl) rfl rfl ⟨((blk_cell BK_s.out 0).trans (mA_get rfl)), ((blk_cell BK_s.out 1).trans (mA_get rfl)), ((blk_cell BK_s.out 2).trans (mA_get rfl)), ((blk_cell BK_s.out 3).trans (mA_get rfl)), ((blk_cell BK_s.out 5).trans (mA_get rfl)), ((blk_cell BK_s.out 6).trans (mA_get rfl)), (fun j v hv => (blk_cell BK_s.out (7 + j)).trans ((mA_at [.int .i64 x.now, .int .i64 x.low, .slice E1 m1 d1, .slice E2 m2 d2, .slice E3 x.cells.length d3, .int .i64 x.first, .slice E4 x.out.length d4] CC j).trans hv))⟩ (fun hHeld => ?_)
  refine with_tabW r10.tab1 r10.bits1 (fun HT_ HW_ => ?_)
  refine pure_ (i := 0) (N := some 7) (v := ?_) (a' := ?_) #[true, false, false, false, false, false, false, false, false, false, false, false, false, false, false, false, false, false, false, false, false, false, false, false] rfl rfl (any_of HT_.out (by kernel_rfl)) (fun _ _ _ h => nomatch h.1) (Or.inl ⟨by rfl, ?_⟩) ?_ ?_
  rotate_left
  · intro w'
    go_simp
    with_reducible rfl
  rotate_left
  · simp only [Act.put, List.setIfInBounds_toArray, List.set_cons_zero, List.set_cons_succ, i64_w, i32_w]
    rfl
  refine pure_ (i := 3) (N := some 10) (v := ?_) (a' := ?_) #[true, false, false, true, false, false, false, false, false, false, false, false, false, false, false, false, false, false, false, false, false, false, false, false] rfl rfl (any_of HT_.out (by kernel_rfl)) (fun _ _ _ h => nomatch h.1) (Or.inl ⟨by rfl, ?_⟩) ?_ ?_
  rotate_left
  · intro w'
    go_simp
    with_reducible rfl
  rotate_left
  · simp only [Act.put, List.setIfInBounds_toArray, List.set_cons_zero, List.set_cons_succ, i64_w, i32_w]
    rfl
  refine pure_ (i := 6) (N := some 13) (v := ?_) (a' := ?_) #[true, false, false, true, false, false, true, false, false, false, false, false, false, false, false, false, false, false, false, false, false, false, false, false] rfl rfl (any_of HT_.out (by kernel_rfl)) (fun _ _ _ h => nomatch h.1) (Or.inl ⟨by rfl, ?_⟩) ?_ ?_
  rotate_left
  · intro w'
    go_simp
    with_reducible rfl
  rotate_left
  · simp only [Act.put, List.setIfInBounds_toArray, List.set_cons_zero, List.set_cons_succ, i64_w, i32_w]
    rfl
  refine pure_ (i := 8) (N := some 15) (v := ?_) (a' := ?_) #[true, false, false, true, false, false, true, false, true, false, false, false, false, false, false, false, false, false, false, false, false, false, false, false] rfl rfl (any_of HT_.out (by kernel_rfl)) (fun _ _ _ h => nomatch h.1) (Or.inl ⟨by rfl, ?_⟩) ?_ ?_
  rotate_left
  · intro w'
    go_simp
    with_reducible rfl
  rotate_left
  · simp only [Act.put, List.setIfInBounds_toArray, List.set_cons_zero, List.set_cons_succ, i64_w, i32_w]
    rfl
  refine pure_ (i := 10) (N := some 17) (v := ?_) (a' := ?_) #[true, false, false, true, false, false, true, false, true, false, true, false, false, false, false, false, false, false, false, false, false, false, false, false] rfl rfl (any_of HT_.out (by kernel_rfl)) (fun _ _ _ h => nomatch h.1) (Or.inl ⟨by rfl, ?_⟩) ?_ ?_
  rotate_left
  · intro w'
    go_simp
    with_reducible rfl
  rotate_left
  · simp only [Act.put, List.setIfInBounds_toArray, List.set_cons_zero, List.set_cons_succ, i64_w, i32_w]
    rfl
  refine take_ (i := 1) (N := some 8) (v := ?_) (a' := ?_) #[true, true, false, true, false, false, true, false, true, false, true, false, false, false, false, false, false, false, false, false, false, false, false, false] rfl rfl (take_ofW HT_.out HW_.out (by kernel_rfl)) (fun _ _ _ h => nomatch h.1) (Or.inl ⟨by rfl, ?_⟩) hHeld ?_ ?_
  rotate_left
  · rintro w' ⟨s0, s1, s2, s3, s4, s5, s6⟩
    go_simp
    with_reducible rfl
  rotate_left
  · simp only [Act.put, List.setIfInBounds_toArray, List.set_cons_zero, List.set_cons_succ, i64_w, i32_w]
    rfl
  refine take_ (i := 4) (N := some 11) (v := ?_) (a' := ?_) #[true, true, false, true, true, false, true, false, true, false, true, false, false, false, false, false, false, false, false, false, false, false, false, false] rfl rfl (take_ofW HT_.out HW_.out (by kernel_rfl)) (fun _ _ _ h => nomatch h.1) (Or.inl ⟨by rfl, ?_⟩) hHeld ?_ ?_
  rotate_left
  · rintro w' ⟨s0, s1, s2, s3, s4, s5, s6⟩
    go_simp
    with_reducible rfl
  rotate_left
  · simp only [Act.put, List.setIfInBounds_toArray, List.set_cons_zero, List.set_cons_succ, i64_w, i32_w]
    rfl
  refine take_ (i := 7) (N := some 14) (v := ?_) (a' := ?_) #[true, true, false, true, true, false, true, true, true, false, true, false, false, false, false, false, false, false, false, false, false, false, false, false] rfl rfl (take_ofW HT_.out HW_.out (by kernel_rfl)) (fun _ _ _ h => nomatch h.1) (Or.inl ⟨by rfl, ?_⟩) hHeld ?_ ?_
  rotate_left
  · rintro w' ⟨s0, s1, s2, s3, s4, s5, s6⟩
    go_simp
    with_reducible rfl
  rotate_left
  · simp only [Act.put, List.setIfInBounds_toArray, List.set_cons_zero, List.set_cons_succ, i64_w, i32_w]
    rfl
  refine take_ (i := 9) (N := some 16) (v := ?_) (a' := ?_) #[true, true, false, true, true, false, true, true, true, true, true, false, false, false, false, false, false, false, false, false, false, false, false, false] rfl rfl (take_ofW HT_.out HW_.out (by kernel_rfl)) (fun _ _ _ h => nomatch h.1) (Or.inl ⟨by rfl, ?_⟩) hHeld ?_ ?_
  rotate_left
  · rintro w' ⟨s0, s1, s2, s3, s4, s5, s6⟩
    go_simp
    with_reducible rfl
  rotate_left
  · simp only [Act.put, List.setIfInBounds_toArray, List.set_cons_zero, List.set_cons_succ, i64_w, i32_w]
    rfl
  refine take_ (i := 11) (N := some 18) (v := ?_) (a' := ?_) #[true, true, false, true, true, false, true, true, true, true, true, true, false, false, false, false, false, false, false, false, false, false, false, false] rfl rfl (take_ofW HT_.out HW_.out (by kernel_rfl)) (fun _ _ _ h => nomatch h.1) (Or.inl ⟨by rfl, ?_⟩) hHeld ?_ ?_
  rotate_left
  · intro w' hS
    refine take_mid (S := fun w' => w'.rangeAt (w.heap.size + 1) 7 CC) 42 (.tmp 17) ?_ (w.heap.size + 1) 7 ?_ CC _ ?_ Tryz.underlying42 rfl (by rw [HCL.out]; exact h24i) w' hS.2.2.2.2.2.2
    · rfl
    · rfl
    · exact fun _ h => h
  rotate_left
  · simp only [Act.put, List.setIfInBounds_toArray, List.set_cons_zero, List.set_cons_succ, i64_w, i32_w]
    rfl
  refine one_ (i := 2) (N := some 9) #[true, true, true, true, true, false, true, true, true, true, true, true, false, false, false, false, false, false, false, false, false, false, false, false] rfl rfl (one_of HT_.out (by kernel_rfl)) (by decide) (fun K hK => ?_)
  refine goes_ Tryz.func27 (by kernel_rfl) rfl #[.agg #[.int .i64 x.now, .int .i64 x.low, .slice E1 m1 d1]] (by rfl) rfl rfl (by simp only [List.map_toArray, List.map_cons, List.map_nil]; rfl) ?_
  with_reducible refine (lawSrc_calls b0 x.now x.low x.sources (.slice E1 m1 d1) _ (Kd.R_below G1.out HB.out) (Nat.le_trans HB0.out HB.out.size) (gList_n HGS.out.2.2.1)).mono ?_
  rintro e W1 ⟨⟨v1, rfl, hr⟩, hb⟩
  refine ⟨_, rfl, ?_⟩
  obtain ⟨F1, q1, rfl⟩ := Kd.R_slice hr
  have R1 := Aside0.mk hr
  clear hr
  have n_m := Aside0.mk (blk_below BK_m.out hb)
  have n_s := Aside0.mk (blk_below BK_s.out hb)
  have n_r := Aside0.mk (blk_below BK_r.out hb)
  have n_HB := Aside0.mk (HB.out.trans (hb.mono HB.out.size))
  clear HB hb BK_m BK_s BK_r
  have BK_m := n_m
  have BK_s := n_s
  have BK_r := n_r
  have HB := n_HB
  clear n_HB n_m n_s n_r
  refine hK.out _ _ ⟨((blk_cell BK_s.out 0).trans (mA_get rfl)), ((blk_cell BK_s.out 1).trans (mA_get rfl)), ((blk_cell BK_s.out 2).trans (mA_get rfl)), ((blk_cell BK_s.out 3).trans (mA_get rfl)), ((blk_cell BK_s.out 5).trans (mA_get rfl)), ((blk_cell BK_s.out 6).trans (mA_get rfl)), (fun j v hv => (blk_cell BK_s.out (7 + j)).trans ((mA_at [.int .i64 x.now, .int .i64 x.low, .slice E1 m1 d1, .slice E2 m2 d2, .slice E3 x.cells.length d3, .int .i64 x.first, .slice E4 x.out.length d4] CC j).trans hv))⟩ (fun hHeld => ?_)
  clear hK K
  refine norm_ (a' := ?_) ?_ ?_
  rotate_left
  · show Act.put _ (some 9) _ = _
    simp only [Act.put, List.setIfInBounds_toArray, List.set_cons_zero, List.set_cons_succ, i64_w, i32_w]
    rfl
  refine pure_ (i := 12) (N := some 19) (v := ?_) (a' := ?_) #[true, true, true, true, true, false, true, true, true, true, true, true, true, false, false, false, false, false, false, false, false, false, false, false] rfl rfl (any_of HT_.out (by kernel_rfl)) (fun _ _ _ h => nomatch h.1) (Or.inl ⟨by rfl, ?_⟩) ?_ ?_
  rotate_left
  · intro w'
    go_simp
    with_reducible rfl
  rotate_left
  · simp only [Act.put, List.setIfInBounds_toArray, List.set_cons_zero, List.set_cons_succ, i64_w, i32_w]
    rfl
  refine one_ (i := 5) (N := some 12) #[true, true, true, true, true, true, true, true, true, true, true, true, true, false, false, false, false, false, false, false, false, false, false, false] rfl rfl (one_of HT_.out (by kernel_rfl)) (by decide) (fun K hK => ?_)
  refine goes_ Tryz.func28 (by kernel_rfl) rfl #[.agg #[.slice E2 m2 d2]] (by rfl) rfl rfl (by simp only [List.map_toArray, List.map_cons, List.map_nil]; rfl) ?_
  with_reducible refine (lawSen_calls b0 x.seens (.slice E2 m2 d2) _ (Kd.R_below G2.out HB.out) (Nat.le_trans HB0.out HB.out.size) (gList_n HGS.out.2.2.2.1)).mono ?_
  rintro e W2 ⟨⟨v2, rfl, hr⟩, hb⟩
  refine ⟨_, rfl, ?_⟩
  obtain ⟨F2, q2, rfl⟩ := Kd.R_slice hr
  have R2 := Aside0.mk hr
  have n_1 := Aside0.mk (Kd.R_below R1.out hb)
  clear R1
  have R1 := n_1
  clear n_1 hr
  have n_m := Aside0.mk (blk_below BK_m.out hb)
  have n_s := Aside0.mk (blk_below BK_s.out hb)
  have n_r := Aside0.mk (blk_below BK_r.out hb)
  have n_HB := Aside0.mk (HB.out.trans (hb.mono HB.out.size))
  clear HB hb BK_m BK_s BK_r
  have BK_m := n_m
  have BK_s := n_s
  have BK_r := n_r
  have HB := n_HB
  clear n_HB n_m n_s n_r
  refine hK.out _ _ ⟨((blk_cell BK_s.out 0).trans (mA_get rfl)), ((blk_cell BK_s.out 1).trans (mA_get rfl)), ((blk_cell BK_s.out 2).trans (mA_get rfl)), ((blk_cell BK_s.out 3).trans (mA_get rfl)), ((blk_cell BK_s.out 5).trans (mA_get rfl)), ((blk_cell BK_s.out 6).trans (mA_get rfl)), (fun j v hv => (blk_cell BK_s.out (7 + j)).trans ((mA_at [.int .i64 x.now, .int .i64 x.low, .slice E1 m1 d1, .slice E2 m2 d2, .slice E3 x.cells.length d3, .int .i64 x.first, .slice E4 x.out.length d4] CC j).trans hv))⟩ (fun hHeld => ?_)
  clear hK K
  refine norm_ (a' := ?_) ?_ ?_
  rotate_left
  · show Act.put _ (some 12) _ = _
    simp only [Act.put, List.setIfInBounds_toArray, List.set_cons_zero, List.set_cons_succ, i64_w, i32_w]
    rfl
  refine one_ (i := 13) (N := none) #[true, true, true, true, true, true, true, true, true, true, true, true, true, true, false, false, false, false, false, false, false, false, false, false] rfl rfl (one_of HT_.out (by kernel_rfl)) (by decide) (fun K hK => ?_)
  have d4 := (blk_cell BK_m.out 4).trans (mA_get rfl)
  have f4 := blk_frozen BK_m.out 4
  have d5 := (blk_cell BK_m.out 5).trans (mA_get rfl)
  have f5 := blk_frozen BK_m.out 5
  have d6 := (blk_cell BK_m.out 6).trans (mA_get rfl)
  have f6 := blk_frozen BK_m.out 6
  refine skip_ (w1 := ?_) (by rfl) rfl ?_ ?_
  rotate_left
  · go_simp
    rfl
  clear d4 f4 d5 f5 d6 f6
  have nb : ((((W2).setCell ⟨w.heap.size, 4, none⟩ (.int .i64 x.now)).setCell ⟨w.heap.size, 5, none⟩ (.int .i64 x.low)).setCell ⟨w.heap.size, 6, none⟩ (.slice F1 x.sources.length q1)).heap[w.heap.size]? = some (.cells (mA [.slice none 0 0, .slice none 0 0, .int .i64 0, .int .i64 0, .int .i64 x.now, .int .i64 x.low, .slice F1 x.sources.length q1, .slice none 0 0, .slice none 0 0, .int .i64 0, .slice none 0 0] Z24) 61 (0, 0)) := (blk_put (blk_put (blk_put BK_m.out 4 (.int .i64 x.now) (mA_set (by simp [Z11]) _)) 5 (.int .i64 x.low) (mA_set (by simp [Z11]) _)) 6 (.slice F1 x.sources.length q1) (mA_set (by simp [Z11]) _))
  have ns := (blk_far (p := ⟨w.heap.size, 6, none⟩) (blk_far (p := ⟨w.heap.size, 5, none⟩) (blk_far (p := ⟨w.heap.size, 4, none⟩) BK_s.out (by simp only; omega) (.int .i64 x.now)) (by simp only; omega) (.int .i64 x.low)) (by simp only; omega) (.slice F1 x.sources.length q1))
  have nr := (blk_far (p := ⟨w.heap.size, 6, none⟩) (blk_far (p := ⟨w.heap.size, 5, none⟩) (blk_far (p := ⟨w.heap.size, 4, none⟩) BK_r.out (by simp only; omega) (.int .i64 x.now)) (by simp only; omega) (.int .i64 x.low)) (by simp only; omega) (.slice F1 x.sources.length q1))
  have ng : W2.grownBy ((((W2).setCell ⟨w.heap.size, 4, none⟩ (.int .i64 x.now)).setCell ⟨w.heap.size, 5, none⟩ (.int .i64 x.low)).setCell ⟨w.heap.size, 6, none⟩ (.slice F1 x.sources.length q1)) (some w.heap.size) := (World.grownBy.trans (World.grownBy.trans (setCell_grown W2 w.heap.size 4 (.int .i64 x.now)) (setCell_grown ((W2).setCell ⟨w.heap.size, 4, none⟩ (.int .i64 x.now)) w.heap.size 5 (.int .i64 x.low))) (setCell_grown (((W2).setCell ⟨w.heap.size, 4, none⟩ (.int .i64 x.now)).setCell ⟨w.heap.size, 5, none⟩ (.int .i64 x.low)) w.heap.size 6 (.slice F1 x.sources.length q1)))
  have BKM2 := BK_m
  generalize (((W2).setCell ⟨w.heap.size, 4, none⟩ (.int .i64 x.now)).setCell ⟨w.heap.size, 5, none⟩ (.int .i64 x.low)).setCell ⟨w.heap.size, 6, none⟩ (.slice F1 x.sources.length q1) = V13 at nb ns nr ng ⊢
  clear BK_m BK_s BK_r
  have BK_m := Aside0.mk nb
  have BK_s := Aside0.mk ns
  have BK_r := Aside0.mk nr
  have HG := Aside0.mk ng
  clear nb ns nr ng
  refine hK.out _ _ ⟨((blk_cell BK_s.out 0).trans (mA_get rfl)), ((blk_cell BK_s.out 1).trans (mA_get rfl)), ((blk_cell BK_s.out 2).trans (mA_get rfl)), ((blk_cell BK_s.out 3).trans (mA_get rfl)), ((blk_cell BK_s.out 5).trans (mA_get rfl)), ((blk_cell BK_s.out 6).trans (mA_get rfl)), (fun j v hv => (blk_cell BK_s.out (7 + j)).trans ((mA_at [.int .i64 x.now, .int .i64 x.low, .slice E1 m1 d1, .slice E2 m2 d2, .slice E3 x.cells.length d3, .int .i64 x.first, .slice E4 x.out.length d4] CC j).trans hv))⟩ (fun hHeld => ?_)
  clear hK K
  refine pure_ (i := 14) (N := some 20) (v := ?_) (a' := ?_) #[true, true, true, true, true, true, true, true, true, true, true, true, true, true, true, false, false, false, false, false, false, false, false, false] rfl rfl (any_of HT_.out (by kernel_rfl)) (fun _ _ _ h => nomatch h.1) (Or.inl ⟨by rfl, ?_⟩) ?_ ?_
  rotate_left
  · intro w'
    go_simp
    with_reducible rfl
  rotate_left
  · simp only [Act.put, List.setIfInBounds_toArray, List.set_cons_zero, List.set_cons_succ, i64_w, i32_w]
    rfl
  refine one_ (i := 15) (N := none) #[true, true, true, true, true, true, true, true, true, true, true, true, true, true, true, true, false, false, false, false, false, false, false, false] rfl rfl (one_of HT_.out (by kernel_rfl)) (by decide) (fun K hK => ?_)
  have d7 := (blk_cell BK_m.out 7).trans (mA_get rfl)
  have f7 := blk_frozen BK_m.out 7
  refine skip_ (w1 := ?_) (by rfl) rfl ?_ ?_
  rotate_left
  · go_simp
    rfl
  clear d7 f7
  have nb : ((V13).setCell ⟨w.heap.size, 7, none⟩ (.slice F2 x.seens.length q2)).heap[w.heap.size]? = some (.cells (mA [.slice none 0 0, .slice none 0 0, .int .i64 0, .int .i64 0, .int .i64 x.now, .int .i64 x.low, .slice F1 x.sources.length q1, .slice F2 x.seens.length q2, .slice none 0 0, .int .i64 0, .slice none 0 0] Z24) 61 (0, 0)) := (blk_put BK_m.out 7 (.slice F2 x.seens.length q2) (mA_set (by simp [Z11]) _))
  have ns := (blk_far (p := ⟨w.heap.size, 7, none⟩) BK_s.out (by simp only; omega) (.slice F2 x.seens.length q2))
  have nr := (blk_far (p := ⟨w.heap.size, 7, none⟩) BK_r.out (by simp only; omega) (.slice F2 x.seens.length q2))
  have ng : W2.grownBy ((V13).setCell ⟨w.heap.size, 7, none⟩ (.slice F2 x.seens.length q2)) (some w.heap.size) := (World.grownBy.trans HG.out (setCell_grown V13 w.heap.size 7 (.slice F2 x.seens.length q2)))
  generalize (V13).setCell ⟨w.heap.size, 7, none⟩ (.slice F2 x.seens.length q2) = V15 at nb ns nr ng ⊢
  clear BK_m BK_s BK_r HG
  have BK_m := Aside0.mk nb
  have BK_s := Aside0.mk ns
  have BK_r := Aside0.mk nr
  have HG := Aside0.mk ng
  clear nb ns nr ng
  refine hK.out _ _ ⟨((blk_cell BK_s.out 0).trans (mA_get rfl)), ((blk_cell BK_s.out 1).trans (mA_get rfl)), ((blk_cell BK_s.out 2).trans (mA_get rfl)), ((blk_cell BK_s.out 3).trans (mA_get rfl)), ((blk_cell BK_s.out 5).trans (mA_get rfl)), ((blk_cell BK_s.out 6).trans (mA_get rfl)), (fun j v hv => (blk_cell BK_s.out (7 + j)).trans ((mA_at [.int .i64 x.now, .int .i64 x.low, .slice E1 m1 d1, .slice E2 m2 d2, .slice E3 x.cells.length d3, .int .i64 x.first, .slice E4 x.out.length d4] CC j).trans hv))⟩ (fun hHeld => ?_)
  clear hK K
  refine pure_ (i := 16) (N := some 21) (v := ?_) (a' := ?_) #[true, true, true, true, true, true, true, true, true, true, true, true, true, true, true, true, true, false, false, false, false, false, false, false] rfl rfl (any_of HT_.out (by kernel_rfl)) (fun _ _ _ h => nomatch h.1) (Or.inl ⟨by rfl, ?_⟩) ?_ ?_
  rotate_left
  · intro w'
    go_simp
    with_reducible rfl
  rotate_left
  · simp only [Act.put, List.setIfInBounds_toArray, List.set_cons_zero, List.set_cons_succ, i64_w, i32_w]
    rfl
  refine one_ (i := 17) (N := none) #[true, true, true, true, true, true, true, true, true, true, true, true, true, true, true, true, true, true, false, false, false, false, false, false] rfl rfl (one_of HT_.out (by kernel_rfl)) (by decide) (fun K hK => ?_)
  have d9 := (blk_cell BK_m.out 9).trans (mA_get rfl)
  have f9 := blk_frozen BK_m.out 9
  refine skip_ (w1 := ?_) (by rfl) rfl ?_ ?_
  rotate_left
  · go_simp
    rfl
  clear d9 f9
  have nb : ((V15).setCell ⟨w.heap.size, 9, none⟩ (.int .i64 x.first)).heap[w.heap.size]? = some (.cells (mA [.slice none 0 0, .slice none 0 0, .int .i64 0, .int .i64 0, .int .i64 x.now, .int .i64 x.low, .slice F1 x.sources.length q1, .slice F2 x.seens.length q2, .slice none 0 0, .int .i64 x.first, .slice none 0 0] Z24) 61 (0, 0)) := (blk_put BK_m.out 9 (.int .i64 x.first) (mA_set (by simp [Z11]) _))
  have ns := (blk_far (p := ⟨w.heap.size, 9, none⟩) BK_s.out (by simp only; omega) (.int .i64 x.first))
  have nr := (blk_far (p := ⟨w.heap.size, 9, none⟩) BK_r.out (by simp only; omega) (.int .i64 x.first))
  have ng : W2.grownBy ((V15).setCell ⟨w.heap.size, 9, none⟩ (.int .i64 x.first)) (some w.heap.size) := (World.grownBy.trans HG.out (setCell_grown V15 w.heap.size 9 (.int .i64 x.first)))
  generalize (V15).setCell ⟨w.heap.size, 9, none⟩ (.int .i64 x.first) = V17 at nb ns nr ng ⊢
  clear BK_m BK_s BK_r HG
  have BK_m := Aside0.mk nb
  have BK_s := Aside0.mk ns
  have BK_r := Aside0.mk nr
  have HG := Aside0.mk ng
  clear nb ns nr ng
  refine hK.out _ _ ⟨((blk_cell BK_s.out 0).trans (mA_get rfl)), ((blk_cell BK_s.out 1).trans (mA_get rfl)), ((blk_cell BK_s.out 2).trans (mA_get rfl)), ((blk_cell BK_s.out 3).trans (mA_get rfl)), ((blk_cell BK_s.out 5).trans (mA_get rfl)), ((blk_cell BK_s.out 6).trans (mA_get rfl)), (fun j v hv => (blk_cell BK_s.out (7 + j)).trans ((mA_at [.int .i64 x.now, .int .i64 x.low, .slice E1 m1 d1, .slice E2 m2 d2, .slice E3 x.cells.length d3, .int .i64 x.first, .slice E4 x.out.length d4] CC j).trans hv))⟩ (fun hHeld => ?_)
  clear hK K
  refine pure_ (i := 18) (N := some 22) (v := ?_) (a' := ?_) #[true, true, true, true, true, true, true, true, true, true, true, true, true, true, true, true, true, true, true, false, false, false, false, false] rfl rfl (any_of HT_.out (by kernel_rfl)) (fun _ _ _ h => nomatch h.1) (Or.inl ⟨by rfl, ?_⟩) ?_ ?_
  rotate_left
  · intro w'
    go_simp
    with_reducible rfl
  rotate_left
  · simp only [Act.put, List.setIfInBounds_toArray, List.set_cons_zero, List.set_cons_succ, i64_w, i32_w]
    rfl
  refine one_ (i := 19) (N := none) #[true, true, true, true, true, true, true, true, true, true, true, true, true, true, true, true, true, true, true, true, false, false, false, false] rfl rfl (one_of HT_.out (by kernel_rfl)) (by decide) (fun K hK => ?_)
  have d10 := (blk_cell BK_m.out 10).trans (mA_get rfl)
  have f10 := blk_frozen BK_m.out 10
  refine skip_ (w1 := ?_) (by rfl) rfl ?_ ?_
  rotate_left
  · go_simp
    rfl
  clear d10 f10
  have nb : ((V17).setCell ⟨w.heap.size, 10, none⟩ (.slice E4 x.out.length d4)).heap[w.heap.size]? = some (.cells (mA [.slice none 0 0, .slice none 0 0, .int .i64 0, .int .i64 0, .int .i64 x.now, .int .i64 x.low, .slice F1 x.sources.length q1, .slice F2 x.seens.length q2, .slice none 0 0, .int .i64 x.first, .slice E4 x.out.length d4] Z24) 61 (0, 0)) := (blk_put BK_m.out 10 (.slice E4 x.out.length d4) (mA_set (by simp [Z11]) _))
  have ns := (blk_far (p := ⟨w.heap.size, 10, none⟩) BK_s.out (by simp only; omega) (.slice E4 x.out.length d4))
  have nr := (blk_far (p := ⟨w.heap.size, 10, none⟩) BK_r.out (by simp only; omega) (.slice E4 x.out.length d4))
  have ng : W2.grownBy ((V17).setCell ⟨w.heap.size, 10, none⟩ (.slice E4 x.out.length d4)) (some w.heap.size) := (World.grownBy.trans HG.out (setCell_grown V17 w.heap.size 10 (.slice E4 x.out.length d4)))
  generalize (V17).setCell ⟨w.heap.size, 10, none⟩ (.slice E4 x.out.length d4) = V19 at nb ns nr ng ⊢
  clear BK_m BK_s BK_r HG
  have BK_m := Aside0.mk nb
  have BK_s := Aside0.mk ns
  have BK_r := Aside0.mk nr
  have HG := Aside0.mk ng
  clear nb ns nr ng
  refine hK.out _ _ ⟨((blk_cell BK_s.out 0).trans (mA_get rfl)), ((blk_cell BK_s.out 1).trans (mA_get rfl)), ((blk_cell BK_s.out 2).trans (mA_get rfl)), ((blk_cell BK_s.out 3).trans (mA_get rfl)), ((blk_cell BK_s.out 5).trans (mA_get rfl)), ((blk_cell BK_s.out 6).trans (mA_get rfl)), (fun j v hv => (blk_cell BK_s.out (7 + j)).trans ((mA_at [.int .i64 x.now, .int .i64 x.low, .slice E1 m1 d1, .slice E2 m2 d2, .slice E3 x.cells.length d3, .int .i64 x.first, .slice E4 x.out.length d4] CC j).trans hv))⟩ (fun hHeld => ?_)
  clear hK K
  refine pure_ (i := 20) (N := some 23) (v := ?_) (a' := ?_) #[true, true, true, true, true, true, true, true, true, true, true, true, true, true, true, true, true, true, true, true, true, false, false, false] rfl rfl (any_of HT_.out (by kernel_rfl)) (fun _ _ _ h => nomatch h.1) (Or.inl ⟨by rfl, ?_⟩) ?_ ?_
  rotate_left
  · intro w'
    go_simp
    with_reducible rfl
  rotate_left
  · simp only [Act.put, List.setIfInBounds_toArray, List.set_cons_zero, List.set_cons_succ, i64_w, i32_w]
    rfl
  refine one_ (i := 21) (N := none) #[true, true, true, true, true, true, true, true, true, true, true, true, true, true, true, true, true, true, true, true, true, true, false, false] rfl rfl (one_of HT_.out (by kernel_rfl)) (by decide) (fun K hK => ?_)
  have ht : V19.there w.heap.size 11 CC.toArray.size := fun j hj => ⟨by rw [blk_cell BK_m.out (11 + j)]; rw [show (mA [.slice none 0 0, .slice none 0 0, .int .i64 0, .int .i64 0, .int .i64 x.now, .int .i64 x.low, .slice F1 x.sources.length q1, .slice F2 x.seens.length q2, .slice none 0 0, .int .i64 x.first, .slice E4 x.out.length d4] Z24)[11 + j]? = _ from mA_at [.slice none 0 0, .slice none 0 0, .int .i64 0, .int .i64 0, .int .i64 x.now, .int .i64 x.low, .slice F1 x.sources.length q1, .slice F2 x.seens.length q2, .slice none 0 0, .int .i64 x.first, .slice E4 x.out.length d4] Z24 j]; rw [List.size_toArray, HCL.out] at hj; have : j < Z24.length := hj; rw [List.getElem?_eq_getElem this]; rfl, blk_frozen BK_m.out _⟩
  refine skip_ (w1 := _) (by rfl) rfl (skip_mid 42 (.tmp 23) (.tmp 18) rfl w.heap.size 11 CC.toArray rfl rfl ht (by rw [List.size_toArray, HCL.out]; exact h24i) HC1.out) ?_
  clear ht
  have nb : (V19.setCells w.heap.size 11 CC).heap[w.heap.size]? = some (.cells (mA [.slice none 0 0, .slice none 0 0, .int .i64 0, .int .i64 0, .int .i64 x.now, .int .i64 x.low, .slice F1 x.sources.length q1, .slice F2 x.seens.length q2, .slice none 0 0, .int .i64 x.first, .slice E4 x.out.length d4] CC) 61 (0, 0)) := (by rw [blk_sets CC 11 V19 w.heap.size _ _ BK_m.out]; rw [show setAll (mA [.slice none 0 0, .slice none 0 0, .int .i64 0, .int .i64 0, .int .i64 x.now, .int .i64 x.low, .slice F1 x.sources.length q1, .slice F2 x.seens.length q2, .slice none 0 0, .int .i64 x.first, .slice E4 x.out.length d4] Z24) 11 CC = mA [.slice none 0 0, .slice none 0 0, .int .i64 0, .int .i64 0, .int .i64 x.now, .int .i64 x.low, .slice F1 x.sources.length q1, .slice F2 x.seens.length q2, .slice none 0 0, .int .i64 x.first, .slice E4 x.out.length d4] CC from setAll_mA [.slice none 0 0, .slice none 0 0, .int .i64 0, .int .i64 0, .int .i64 x.now, .int .i64 x.low, .slice F1 x.sources.length q1, .slice F2 x.seens.length q2, .slice none 0 0, .int .i64 x.first, .slice E4 x.out.length d4] CC [] Z24 (by rw [HCL.out]; rfl)])
  have ns := blk_grown BK_s.out (setCells_grown CC 11 V19 w.heap.size) (by simp)
  have nr := blk_grown BK_r.out (setCells_grown CC 11 V19 w.heap.size) (by simp; omega)
  have ng : W2.grownBy (V19.setCells w.heap.size 11 CC) (some w.heap.size) := (World.grownBy.trans HG.out (setCells_grown CC 11 V19 w.heap.size))
  generalize V19.setCells w.heap.size 11 CC = V21 at nb ns nr ng ⊢
  clear BK_m BK_s BK_r HG
  have BK_m := Aside0.mk nb
  have BK_s := Aside0.mk ns
  have BK_r := Aside0.mk nr
  have HG := Aside0.mk ng
  clear nb ns nr ng
  refine hK.out _ _ ⟨((blk_cell BK_s.out 0).trans (mA_get rfl)), ((blk_cell BK_s.out 1).trans (mA_get rfl)), ((blk_cell BK_s.out 2).trans (mA_get rfl)), ((blk_cell BK_s.out 3).trans (mA_get rfl)), ((blk_cell BK_s.out 5).trans (mA_get rfl)), ((blk_cell BK_s.out 6).trans (mA_get rfl)), (fun j v hv => (blk_cell BK_s.out (7 + j)).trans ((mA_at [.int .i64 x.now, .int .i64 x.low, .slice E1 m1 d1, .slice E2 m2 d2, .slice E3 x.cells.length d3, .int .i64 x.first, .slice E4 x.out.length d4] CC j).trans hv))⟩ (fun hHeld => ?_)
  clear hK K
  refine pure_ (i := 22) (N := some 24) (v := ?_) (a' := ?_) #[true, true, true, true, true, true, true, true, true, true, true, true, true, true, true, true, true, true, true, true, true, true, true, false] rfl rfl (any_of HT_.out (by kernel_rfl)) (fun _ _ _ h => nomatch h.1) (Or.inl ⟨by rfl, ?_⟩) ?_ ?_
  rotate_left
  · intro w'
    go_simp
    with_reducible rfl
  rotate_left
  · simp only [Act.put, List.setIfInBounds_toArray, List.set_cons_zero, List.set_cons_succ, i64_w, i32_w]
    rfl
  refine one_ (i := 23) (N := none) #[true, true, true, true, true, true, true, true, true, true, true, true, true, true, true, true, true, true, true, true, true, true, true, true] rfl rfl (one_of HT_.out (by kernel_rfl)) (by decide) (fun K hK => ?_)
  have d8 := (blk_cell BK_m.out 8).trans (mA_get rfl)
  have f8 := blk_frozen BK_m.out 8
  refine skip_ (w1 := ?_) (by rfl) rfl ?_ ?_
  rotate_left
  · go_simp
    rfl
  clear d8 f8
  have nb : ((V21).setCell ⟨w.heap.size, 8, none⟩ (.slice none 0 0)).heap[w.heap.size]? = some (.cells (mA [.slice none 0 0, .slice none 0 0, .int .i64 0, .int .i64 0, .int .i64 x.now, .int .i64 x.low, .slice F1 x.sources.length q1, .slice F2 x.seens.length q2, .slice none 0 0, .int .i64 x.first, .slice E4 x.out.length d4] CC) 61 (0, 0)) := (blk_put BK_m.out 8 (.slice none 0 0) (mA_set (by simp [Z11]) _))
  have ns := (blk_far (p := ⟨w.heap.size, 8, none⟩) BK_s.out (by simp only; omega) (.slice none 0 0))
  have nr := (blk_far (p := ⟨w.heap.size, 8, none⟩) BK_r.out (by simp only; omega) (.slice none 0 0))
  have ng : W2.grownBy ((V21).setCell ⟨w.heap.size, 8, none⟩ (.slice none 0 0)) (some w.heap.size) := (World.grownBy.trans HG.out (setCell_grown V21 w.heap.size 8 (.slice none 0 0)))
  generalize (V21).setCell ⟨w.heap.size, 8, none⟩ (.slice none 0 0) = V23 at nb ns nr ng ⊢
  clear BK_m BK_s BK_r HG
  have BK_m := Aside0.mk nb
  have BK_s := Aside0.mk ns
  have BK_r := Aside0.mk nr
  have HG := Aside0.mk ng
  clear nb ns nr ng
  refine hK.out _ _ ⟨((blk_cell BK_s.out 0).trans (mA_get rfl)), ((blk_cell BK_s.out 1).trans (mA_get rfl)), ((blk_cell BK_s.out 2).trans (mA_get rfl)), ((blk_cell BK_s.out 3).trans (mA_get rfl)), ((blk_cell BK_s.out 5).trans (mA_get rfl)), ((blk_cell BK_s.out 6).trans (mA_get rfl)), (fun j v hv => (blk_cell BK_s.out (7 + j)).trans ((mA_at [.int .i64 x.now, .int .i64 x.low, .slice E1 m1 d1, .slice E2 m2 d2, .slice E3 x.cells.length d3, .int .i64 x.first, .slice E4 x.out.length d4] CC j).trans hv))⟩ (fun hHeld => ?_)
  clear hK K
  refine done_ (done_of HT_.out (by kernel_rfl)) ?_
  refine ⟨rfl, ?_⟩
  clear hHeld HT_ HW_
  have n_HB := Aside0.mk (HB.out.grown HG.out HB.out.size (fun k hk => by injection hk with hk; omega))
  have n_1 := Aside0.mk (R_block R1.out BKM2.out (by decide) HG.out)
  have n_2 := Aside0.mk (R_block R2.out BKM2.out (by decide) HG.out)
  clear HB R1 R2 BKM2 HG
  have HB := n_HB
  have R1 := n_1
  have R2 := n_2
  clear n_HB n_1 n_2
  have y0 := (blk_cell BK_s.out 4).trans (mA_get rfl)
  go_wp2_with fail
  clear y0 BK_s
  go_loopw [6, 28] (fun _ v28 wr => ∃ (j : Nat) (vv : Value), j ≤ x.cells.length ∧ v28 = .int .i64 j ∧ wr.heap[w.heap.size]? = some (.cells (mA [.slice none 0 0, .slice none 0 0, .int .i64 0, .int .i64 0, .int .i64 x.now, .int .i64 x.low, .slice F1 x.sources.length q1, .slice F2 x.seens.length q2, vv, .int .i64 x.first, .slice E4 x.out.length d4] CC) 61 (0, 0)) ∧ wr.heap[w.heap.size + 1 + 1]? = some (.cells ZR 61 (0, 0)) ∧ Kd.R kCel 96 wr b0 (fun _ => True) vv (x.cells.take j) ∧ (∀ k, vv.ownBlock = some k → w.heap.size ≤ k) ∧ Kd.R kSrc 85 wr b0 (fun _ => True) (.slice F1 x.sources.length q1) x.sources ∧ Kd.R kSen 88 wr b0 (fun _ => True) (.slice F2 x.seens.length q2) x.seens ∧ Below w.heap.size w wr) (fun _ v28 _ => x.cells.length - (intOf v28).toNat)
  case atStart => exact ⟨0, _, Nat.zero_le _, rfl, BK_m.out, BK_r.out, Kd.R_nil _ _ _ _ _, by intro k hk; simp [Value.ownBlock] at hk, R1.out, R2.out, HB.out⟩
  case round =>
    obtain ⟨j, vv, hj, rfl, hkm, hkr, hr3, ho3, h1, h2, hb3⟩ := hrel
    clear HB BK_m BK_r R1 R2
    have HR3 := Aside0.mk hr3
    have HO3 := Aside0.mk ho3
    have HB := Aside0.mk hb3
    have BK_m := Aside0.mk hkm
    have BK_r := Aside0.mk hkr
    have R1 := Aside0.mk h1
    have R2 := Aside0.mk h2
    clear hr3 ho3 hb3 hkm hkr h1 h2
    obtain ⟨A3, n3, c3, rfl⟩ := R_sl HR3.out
    by_cases hlt : j < x.cells.length
    · skip
      obtain ⟨ad, _, rfl, _, _, _⟩ := Kd.C_get HC.out zCel (j : Int) (by omega) (by omega)
      obtain ⟨cs, hcl, hM, hcell⟩ := Kd.R_get G3.out zCel (j : Int) (by omega) (by omega)
      rw [Int.toNat_natCast, show x.cells.getD j zCel = x.cells[j] by rw [List.getD_eq_getElem?_getD, List.getElem?_eq_getElem hlt]; rfl] at hM
      rw [Int.toNat_natCast] at hcell
      have HTK := Aside0.mk (show x.cells.take (j + 1) = x.cells.take j ++ [x.cells[j]] from List.take_succ_eq_append_getElem hlt)
      generalize x.cells[j] = x_ at hM HTK
      obtain ⟨w1_, w2_, w3_, hcs, gs1, gs2, gs3⟩ := kCel_openM hM
      subst hcs
      obtain ⟨Al, nl, cl, rfl⟩ := R_sl gs1
      obtain ⟨Av, nv, cv, rfl⟩ := R_sl gs2
      obtain ⟨Am, nm, cm, rfl⟩ := R_sl gs3
      have HM_x := Aside0.mk (kCel.M_mono (fun _ _ => trivial) hM)
      clear hM gs1 gs2 gs3
      have y0 : wr.cell? (ad.add (j * 16)) = some (.string x_.metric) := (HB.out.cell (World.block_lt_of_cell? _ _ (hcell 0 _ rfl))).trans (hcell 0 _ rfl)
      have y1 : wr.cell? ⟨(ad.add (j * 16)).block, (ad.add (j * 16)).off + 1, none⟩ = some (.slice Al nl cl) := by rw [← add_field _ _ 1 (by omega)]; exact (HB.out.cell (World.block_lt_of_cell? _ _ (hcell 1 _ rfl))).trans (hcell 1 _ rfl)
      have y2 : wr.cell? ⟨(ad.add (j * 16)).block, (ad.add (j * 16)).off + 2, none⟩ = some (.int .i64 x_.policy) := by rw [← add_field _ _ 2 (by omega)]; exact (HB.out.cell (World.block_lt_of_cell? _ _ (hcell 2 _ rfl))).trans (hcell 2 _ rfl)
      have y3 : wr.cell? ⟨(ad.add (j * 16)).block, (ad.add (j * 16)).off + 3, none⟩ = some (.int .i64 x_.start) := by rw [← add_field _ _ 3 (by omega)]; exact (HB.out.cell (World.block_lt_of_cell? _ _ (hcell 3 _ rfl))).trans (hcell 3 _ rfl)
      have y4 : wr.cell? ⟨(ad.add (j * 16)).block, (ad.add (j * 16)).off + 4, none⟩ = some (.int .i64 x_.rev) := by rw [← add_field _ _ 4 (by omega)]; exact (HB.out.cell (World.block_lt_of_cell? _ _ (hcell 4 _ rfl))).trans (hcell 4 _ rfl)
      have y5 : wr.cell? ⟨(ad.add (j * 16)).block, (ad.add (j * 16)).off + 5, none⟩ = some (.bool x_.dirty) := by rw [← add_field _ _ 5 (by omega)]; exact (HB.out.cell (World.block_lt_of_cell? _ _ (hcell 5 _ rfl))).trans (hcell 5 _ rfl)
      have y6 : wr.cell? ⟨(ad.add (j * 16)).block, (ad.add (j * 16)).off + 6, none⟩ = some (.int .i64 x_.vat.kind) := by rw [← add_field _ _ 6 (by omega)]; exact (HB.out.cell (World.block_lt_of_cell? _ _ (hcell 6 _ rfl))).trans (hcell 6 _ rfl)
      have y7 : wr.cell? ⟨(ad.add (j * 16)).block, (ad.add (j * 16)).off + 7, none⟩ = some (.int .i64 x_.vat.many) := by rw [← add_field _ _ 7 (by omega)]; exact (HB.out.cell (World.block_lt_of_cell? _ _ (hcell 7 _ rfl))).trans (hcell 7 _ rfl)
      have y8 : wr.cell? ⟨(ad.add (j * 16)).block, (ad.add (j * 16)).off + 8, none⟩ = some (.int .i64 x_.vat.high) := by rw [← add_field _ _ 8 (by omega)]; exact (HB.out.cell (World.block_lt_of_cell? _ _ (hcell 8 _ rfl))).trans (hcell 8 _ rfl)
      have y9 : wr.cell? ⟨(ad.add (j * 16)).block, (ad.add (j * 16)).off + 9, none⟩ = some (.int .i64 x_.vat.low) := by rw [← add_field _ _ 9 (by omega)]; exact (HB.out.cell (World.block_lt_of_cell? _ _ (hcell 9 _ rfl))).trans (hcell 9 _ rfl)
      have y10 : wr.cell? ⟨(ad.add (j * 16)).block, (ad.add (j * 16)).off + 10, none⟩ = some (.int .i64 x_.vat.last) := by rw [← add_field _ _ 10 (by omega)]; exact (HB.out.cell (World.block_lt_of_cell? _ _ (hcell 10 _ rfl))).trans (hcell 10 _ rfl)
      have y11 : wr.cell? ⟨(ad.add (j * 16)).block, (ad.add (j * 16)).off + 11, none⟩ = some (.int .i64 x_.vat.time) := by rw [← add_field _ _ 11 (by omega)]; exact (HB.out.cell (World.block_lt_of_cell? _ _ (hcell 11 _ rfl))).trans (hcell 11 _ rfl)
      have y12 : wr.cell? ⟨(ad.add (j * 16)).block, (ad.add (j * 16)).off + 12, none⟩ = some (.int .i64 x_.vat.seq) := by rw [← add_field _ _ 12 (by omega)]; exact (HB.out.cell (World.block_lt_of_cell? _ _ (hcell 12 _ rfl))).trans (hcell 12 _ rfl)
      have y13 : wr.cell? ⟨(ad.add (j * 16)).block, (ad.add (j * 16)).off + 13, none⟩ = some (.string x_.vat.source) := by rw [← add_field _ _ 13 (by omega)]; exact (HB.out.cell (World.block_lt_of_cell? _ _ (hcell 13 _ rfl))).trans (hcell 13 _ rfl)
      have y14 : wr.cell? ⟨(ad.add (j * 16)).block, (ad.add (j * 16)).off + 14, none⟩ = some (.slice Av nv cv) := by rw [← add_field _ _ 14 (by omega)]; exact (HB.out.cell (World.block_lt_of_cell? _ _ (hcell 14 _ rfl))).trans (hcell 14 _ rfl)
      have y15 : wr.cell? ⟨(ad.add (j * 16)).block, (ad.add (j * 16)).off + 15, none⟩ = some (.slice Am nm cm) := by rw [← add_field _ _ 15 (by omega)]; exact (HB.out.cell (World.block_lt_of_cell? _ _ (hcell 15 _ rfl))).trans (hcell 15 _ rfl)
      clear hcell hcl
      go_upto_region 5 with fail
      clear y0 y1 y2 y3 y4 y5 y6 y7 y8 y9 y10 y11 y12 y13 y14 y15
      have hm := (Below.refl wr.heap.size wr).alloc (Nat.le_refl _) (.cells #[.string x_.metric, .slice Al nl cl, .int .i64 x_.policy, .int .i64 x_.start, .int .i64 x_.rev, .bool x_.dirty, .int .i64 x_.vat.kind, .int .i64 x_.vat.many, .int .i64 x_.vat.high, .int .i64 x_.vat.low, .int .i64 x_.vat.last, .int .i64 x_.vat.time, .int .i64 x_.vat.seq, .string x_.vat.source, .slice Av nv cv, .slice Am nm cm] 104)
      have HMV := Aside0.mk (Kd.M_below (Kd.M_below HM_x.out HB.out) hm)
      have HRV := Aside0.mk (Kd.R_below HR3.out hm)
      have HBV := Aside0.mk (HB.out.trans (hm.mono HB.out.size))
      have BK_e := blk_new wr (.cells #[.string x_.metric, .slice Al nl cl, .int .i64 x_.policy, .int .i64 x_.start, .int .i64 x_.rev, .bool x_.dirty, .int .i64 x_.vat.kind, .int .i64 x_.vat.many, .int .i64 x_.vat.high, .int .i64 x_.vat.low, .int .i64 x_.vat.last, .int .i64 x_.vat.time, .int .i64 x_.vat.seq, .string x_.vat.source, .slice Av nv cv, .slice Am nm cm] 104)
      have BKM := Aside0.mk (blk_below BK_m.out hm)
      have BKR := Aside0.mk (blk_below BK_r.out hm)
      have R1V := Aside0.mk (Kd.R_below R1.out hm)
      have R2V := Aside0.mk (Kd.R_below R2.out hm)
      clear HR3 HB BK_m BK_r R1 R2 hm
      generalize wr.alloc (.cells #[.string x_.metric, .slice Al nl cl, .int .i64 x_.policy, .int .i64 x_.start, .int .i64 x_.rev, .bool x_.dirty, .int .i64 x_.vat.kind, .int .i64 x_.vat.many, .int .i64 x_.vat.high, .int .i64 x_.vat.low, .int .i64 x_.vat.last, .int .i64 x_.vat.time, .int .i64 x_.vat.seq, .string x_.vat.source, .slice Av nv cv, .slice Am nm cm] 104) = V at HMV HRV HBV BKM BKR R1V R2V BK_e ⊢
      have y0 := (blk_cell BK_e 0).trans rfl
      have y1 := (blk_cell BK_e 1).trans rfl
      have y2 := (blk_cell BK_e 2).trans rfl
      have y3 := (blk_cell BK_e 3).trans rfl
      have y4 := (blk_cell BK_e 4).trans rfl
      have y5 := (blk_cell BK_e 5).trans rfl
      have y6 := (blk_cell BK_e 6).trans rfl
      have y7 := (blk_cell BK_e 7).trans rfl
      have y8 := (blk_cell BK_e 8).trans rfl
      have y9 := (blk_cell BK_e 9).trans rfl
      have y10 := (blk_cell BK_e 10).trans rfl
      have y11 := (blk_cell BK_e 11).trans rfl
      have y12 := (blk_cell BK_e 12).trans rfl
      have y13 := (blk_cell BK_e 13).trans rfl
      have y14 := (blk_cell BK_e 14).trans rfl
      have y15 := (blk_cell BK_e 15).trans rfl
      have z8 := (blk_cell BKM.out 8).trans (mA_get rfl)
      clear BK_e
      obtain ⟨inner, hown⟩ := Kd.R_own HRV.out
      have HMA := Aside0.mk (M_apart HMV.out hown (by decide))
      have HOW := Aside0.mk hown
      clear hown
      have HLT := Aside0.mk (show ((x.cells.take j).length + 1) * 1000 ≤ 140737488355328 by rw [List.length_take]; have := gList_n HGS.out.2.2.2.2.1; omega)
      have HSZ := Aside0.mk (show b0 ≤ V.heap.size from Nat.le_trans HB0.out HBV.out.size)
      have HNM := Aside0.mk (Kd.R_ne HRV.out BKM.out (by decide))
      have HNR := Aside0.mk (Kd.R_ne HRV.out BKR.out (by decide))
      go_wp2_with (at_builtin; refine Kd.R_append kCel (w0 := V) b0 rfl (.tmp 33) (.tmp 47) 59 96 (.agg #[.string ⟨#[]⟩, .slice none 0 0, .int .i64 0, .int .i64 0, .int .i64 0, .bool false, .int .i64 0, .int .i64 0, .int .i64 0, .int .i64 0, .int .i64 0, .int .i64 0, .int .i64 0, .string ⟨#[]⟩, .slice none 0 0, .slice none 0 0]) 192 rfl Tryz.underlying59 infoCel2 rfl (by decide) (by omega) _ (x.cells.take j) x_ [.string x_.metric, .slice Al nl cl, .int .i64 x_.policy, .int .i64 x_.start, .int .i64 x_.rev, .bool x_.dirty, .int .i64 x_.vat.kind, .int .i64 x_.vat.many, .int .i64 x_.vat.high, .int .i64 x_.vat.low, .int .i64 x_.vat.last, .int .i64 x_.vat.time, .int .i64 x_.vat.seq, .string x_.vat.source, .slice Av nv cv, .slice Am nm cm] (fun _ => True) (fun q => True ∧ _) rfl rfl HMA.out (fun _ hk => hk) (fun _ _ => trivial) HRV.out (Below.refl _ _) HSZ.out (Nat.le_trans (Nat.mul_le_mul_left _ (by decide)) HLT.out) ?_; intro v1 w4 hr hb hg hat; obtain ⟨vA, vn, vc, rfl⟩ := R_sl hr; have HR4 := Aside0.mk hr; have HO4 := Aside0.mk (own_new HO3.out hat HBV.out.size); have HB4 := Aside0.mk (HBV.out.grown hg HBV.out.size (fun k hk => HO3.out k hk)); have HK4 := Aside0.mk (blk_grown BKM.out hg HNM.out); have HKR4 := Aside0.mk (blk_grown BKR.out hg HNR.out); have R14 := Aside0.mk (R_apart R1V.out HOW.out (by decide) hg); have R24 := Aside0.mk (R_apart R2V.out HOW.out (by decide) hg); have d4_ := (blk_cell HK4.out 8).trans (mA_get rfl); have f4_ := blk_frozen HK4.out 8; clear z8 hr hb hg hat)
      go_roundw
      case rel => exact ⟨j + 1, _, by omega, by simp, blk_put HK4.out 8 _ (mA_set (by simp) _), blk_far (p := ⟨w.heap.size, 8, none⟩) HKR4.out (by simp only; omega) _, by rw [HTK.out]; exact Kd.R_set HR4.out HK4.out (by decide) 8 _, HO4.out, Kd.R_set R14.out HK4.out (by decide) 8 _, Kd.R_set R24.out HK4.out (by decide) 8 _, HB4.out.setCell (p := ⟨w.heap.size, 8, none⟩) (by simp only; omega) _⟩
      case measure => simp [intOf]; omega
    · obtain rfl : j = x.cells.length := by omega
      have hF := (show Kd.R kCel 96 wr b0 (fun _ => True) _ x.cells by have := HR3.out; rwa [List.take_length] at this)
      obtain ⟨hn3, _, _⟩ := Kd.R_reads' hF
      subst hn3
      have HF := Aside0.mk hF
      clear HR3 hF
      have hi : (Tryz.prog.info? 61).map (·.size) = some (mA [.slice none 0 0, .slice none 0 0, .int .i64 0, .int .i64 0, .int .i64 x.now, .int .i64 x.low, .slice F1 x.sources.length q1, .slice F2 x.seens.length q2, .slice A3 x.cells.length c3, .int .i64 x.first, .slice E4 x.out.length d4] CC).size := by rw [mA_size, HCL.out]; kernel_rfl
      have H1C := Aside0.mk (mA_one (l := [.slice none 0 0, .slice none 0 0, .int .i64 0, .int .i64 0, .int .i64 x.now, .int .i64 x.low, .slice F1 x.sources.length q1, .slice F2 x.seens.length q2, .slice A3 x.cells.length c3, .int .i64 x.first, .slice E4 x.out.length d4]) (by intro v hv; simp only [List.mem_cons, List.not_mem_nil, or_false] at hv; rcases hv with rfl | rfl | rfl | rfl | rfl | rfl | rfl | rfl | rfl | rfl | rfl <;> rfl) HC1.out)
      have hold : ZR.size = (mA [.slice none 0 0, .slice none 0 0, .int .i64 0, .int .i64 0, .int .i64 x.now, .int .i64 x.low, .slice F1 x.sources.length q1, .slice F2 x.seens.length q2, .slice A3 x.cells.length c3, .int .i64 x.first, .slice E4 x.out.length d4] CC).size := by rw [mA_size, HCL.out, HZR.out]; rfl
      have h2 := BK_r.out
      have h3 := BK_m.out
      obtain ⟨CA, hCA⟩ : ∃ CA, CA = mA [.slice none 0 0, .slice none 0 0, .int .i64 0, .int .i64 0, .int .i64 x.now, .int .i64 x.low, .slice F1 x.sources.length q1, .slice F2 x.seens.length q2, .slice A3 x.cells.length c3, .int .i64 x.first, .slice E4 x.out.length d4] CC := ⟨_, rfl⟩
      have HCA := Aside0.mk hCA
      rw [← hCA] at hi H1C hold h3
      clear hCA
      have HFR := Aside0.mk (R_setRow (b := w.heap.size + 1 + 1) (new := CA) HF.out BK_r.out (by decide))
      have HF1 := Aside0.mk (R_setRow (b := w.heap.size + 1 + 1) (new := CA) R1.out BK_r.out (by decide))
      have HF2 := Aside0.mk (R_setRow (b := w.heap.size + 1 + 1) (new := CA) R2.out BK_r.out (by decide))
      have HF4 := Aside0.mk (R_setRow (b := w.heap.size + 1 + 1) (new := CA) (Kd.R_below G4.out HB.out) BK_r.out (by decide))
      have HKR := Aside0.mk (setRow_heap wr (w.heap.size + 1 + 1) ZR CA 61 (0, 0) BK_r.out)
      have HBR := Aside0.mk (HB.out.grown (setRow_grown wr (w.heap.size + 1 + 1) CA) HB.out.size (fun k hk => by injection hk with hk; omega))
      go_wp2_with (first | (refine wpList_load_row rfl 61 (.tmp 2) rfl w.heap.size rfl 61 CA (0, 0) _ h3 hu rfl hi ?_) | (refine wpList_store_row rfl 61 (.tmp 4) (.tmp 51) rfl (w.heap.size + 1 + 1) CA rfl rfl 61 ZR h2 hi hold H1C.out ?_))
      refine bodyPost_ret (v := .agg CA) (results_cell_row rfl _ _ (w.heap.size + 1 + 1) 61 CA (0, 0) _ rfl HKR.out hu rfl hi) rfl ⟨⟨CA, F1, q1, F2, q2, A3, c3, E4, d4, rfl, ?_⟩, HBR.out⟩
      have e := HCA.out
      refine ⟨by rw [e]; exact mA_get rfl, by rw [e]; exact mA_get rfl, by rw [e]; exact mA_get rfl, by rw [e]; exact mA_get rfl, by rw [e]; exact mA_get rfl, by rw [e]; exact mA_get rfl, by rw [e]; exact mA_get rfl, fun j h => ?_, (Kd.R_reads' HF1.out).2.2, (Kd.R_reads' HF2.out).2.2, (Kd.R_reads' HFR.out).2.2, (Kd.R_reads' HF4.out).2.2⟩
      rw [e, show (mA [.slice none 0 0, .slice none 0 0, .int .i64 0, .int .i64 0, .int .i64 x.now, .int .i64 x.low, .slice F1 x.sources.length q1, .slice F2 x.seens.length q2, .slice A3 x.cells.length c3, .int .i64 x.first, .slice E4 x.out.length d4] CC)[11 + j]? = CC[j]? from mA_at [.slice none 0 0, .slice none 0 0, .int .i64 0, .int .i64 0, .int .i64 x.now, .int .i64 x.low, .slice F1 x.sources.length q1, .slice F2 x.seens.length q2, .slice A3 x.cells.length c3, .int .i64 x.first, .slice E4 x.out.length d4] CC j, HCC.out]
      simp [encs, List.getElem?_eq_getElem h]
end Go.Proofs.YtpdppfihpnfblaaGreat.H
