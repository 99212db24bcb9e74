/- A reel: clean. Laid by wip/rc_bl.py. -/
import Derived.Test.YtdooajmgfoobfaaGreatDoorRdR
import Derived.Test.YtdooajmgfoobfaaGreatDoorZz
namespace Go.Proofs.YtdooajmgfoobfaaGreatDoor.H
attribute [local go_sem] Oper.semAt_some
open Go.RowKit Go.Shelf Go.Proofs.YtdooajmgfoobfaaGreatDoor.PA Go.Proofs.YtdooajmgfoobfaaGreatDoorW.PrintWords Go.Proofs.YtdooajmgfoobfaaGreatDoorW.PrintLast Go.Proofs.YtdooajmgfoobfaaGreatDoorW.PrintMore
set_option linter.unusedVariables false
set_option linter.unusedSimpArgs false
def overP (m : Rl) (k : ByteArray) : Bool := decide (k = marknK) || (decide (numP k > 0) && (decide (numP k < m.first) || decide (numP k > m.last)))
theorem overP_mark (m : Rl) : overP m markK = false := by
  have h : numP markK = 0 := by unfold numP; rw [if_pos (.inl rfl)]
  unfold overP
  rw [h]
  simp [mark_ne]
theorem overP_markn (m : Rl) : overP m marknK = true := by unfold overP; simp
theorem overP_seg (m : Rl) {n : Nat} (h0 : 1 ≤ n) (h : n < 100) : overP m (segK n) = (decide ((n : Int) < m.first) || decide ((n : Int) > m.last)) := by
  unfold overP
  rw [numP_seg h, decide_eq_false seg_ne_markn, decide_eq_true (show (n : Int) > 0 by omega)]
  simp
set_option maxRecDepth 100000 in
set_option maxHeartbeats 800000 in
theorem over_calls (w : World) (g s : Nat) (m : Rl) (k : ByteArray) (h : w.heap[g]? = some (.cells (rlC s m) 58 (0, 0))) (hk : RName k) (hE : REnv w) (hg : 3 < w.heap.size) :
    Calls Tryz.prog 42 #[.pointer (some ⟨g, 0, none⟩), .string k] w fun e w' => e = .returned (.bool (overP m k)) ∧ Below w.heap.size w w' := by
  have hn := rnumber_calls k hk w hE hg
  have HG := Aside0.mk h
  clear hE hg h
  rcases hk with rfl | rfl | ⟨n, h0, h1, rfl⟩
  · rw [overP_mark]
    have e0 : numP markK = 0 := by unfold numP; rw [if_pos (.inl rfl)]
    rw [e0] at hn
    clear e0
    unfold markK at hn ⊢
    go_enter Tryz.func42, Tryz.ntmps42
    go_wp2_with (go_at_call 68; refine hn.mono ?_; rintro e w1 ⟨rfl, hb⟩; have HB := Aside0.mk hb; clear hb hn)
    exact bodyPost_ret (v := .bool false) (by simp [results, Tryz.results42, go_sem]) rfl ⟨rfl, HB.out⟩
  · rw [overP_markn]
    have e0 : numP marknK = 0 := by unfold numP; rw [if_pos (.inr rfl)]
    rw [e0] at hn
    clear e0
    unfold marknK at hn ⊢
    go_enter Tryz.func42, Tryz.ntmps42
    go_wp2_with (go_at_call 68; refine hn.mono ?_; rintro e w1 ⟨rfl, hb⟩; have HB := Aside0.mk hb; clear hb hn)
    exact bodyPost_ret (v := .bool true) (by simp [results, Tryz.results42, go_sem]) rfl ⟨rfl, HB.out⟩
  · rw [overP_seg m h0 h1]
    rw [numP_seg h1] at hn
    have hne : ((segK n).toList == [109, 97, 114, 107, 110]) = false := by
      rw [ByteArray.toList_eq]
      simp [segK]
    have hp : 0 < n := h0
    obtain ⟨b1, hb1⟩ : ∃ b1, decide ((n : Int) < m.first) = b1 := ⟨_, rfl⟩
    obtain ⟨b2, hb2⟩ : ∃ b2, decide ((n : Int) > m.last) = b2 := ⟨_, rfl⟩
    rw [hb1, hb2]
    clear h0 h1
    generalize segK n = k at hn hne ⊢
    have d2 : ∀ W, Below w.heap.size w W → W.cell? ⟨g, 2, none⟩ = some (.int .i64 m.first) := fun W hW => (blk_cell (blk_below HG.out hW) 2).trans rfl
    have d3 : ∀ W, Below w.heap.size w W → W.cell? ⟨g, 3, none⟩ = some (.int .i64 m.last) := fun W hW => (blk_cell (blk_below HG.out hW) 3).trans rfl
    cases b1 with
    | true =>
      go_enter Tryz.func42, Tryz.ntmps42
      go_wp2_with (go_at_call 68; refine hn.mono ?_; rintro e w1 ⟨rfl, hb⟩; have HB := Aside0.mk hb; have c2 := d2 _ hb; have c3 := d3 _ hb; clear hb hn d2 d3)
      exact bodyPost_ret (v := .bool true) (by simp [results, Tryz.results42, go_sem]) rfl ⟨by simp, HB.out⟩
    | false =>
      go_enter Tryz.func42, Tryz.ntmps42
      go_wp2_with (go_at_call 68; refine hn.mono ?_; rintro e w1 ⟨rfl, hb⟩; have HB := Aside0.mk hb; have c2 := d2 _ hb; have c3 := d3 _ hb; clear hb hn d2 d3)
      exact bodyPost_ret (v := .bool b2) (by simp [results, Tryz.results42, go_sem]) rfl ⟨by simp, HB.out⟩
end Go.Proofs.YtdooajmgfoobfaaGreatDoor.H
namespace Go.Proofs.YtdooajmgfoobfaaGreatDoor.H
attribute [local go_sem] Oper.semAt_some
open Go.RowKit Go.Shelf Go.Proofs.YtdooajmgfoobfaaGreatDoor.PA Go.Proofs.YtdooajmgfoobfaaGreatDoorW.PrintWords Go.Proofs.YtdooajmgfoobfaaGreatDoorW.PrintLast Go.Proofs.YtdooajmgfoobfaaGreatDoorW.PrintMore
set_option linter.unusedVariables false
set_option linter.unusedSimpArgs false
def cleanDrops (D : Dk) : List ByteArray → Dk × Int
 | [] => (D, 0)
 | k :: r => if (D.drop k).2 = 0 then cleanDrops (D.drop k).1 r else D.drop k
def overL (m : Rl) (L : Fls) : List ByteArray := (L.map (·.1)).filter (overP m)
def rclean2 (m : Rl) (D : Dk) : Dk × Int := match lk (segZ m.last) D.L with
 | none => (D, 0)
 | some f => if (f.b.length : Int) > m.tail then (if (D.cut (segZ m.last) m.tail).2 = 0 then (D.cut (segZ m.last) m.tail).1.sync (segZ m.last) else D.cut (segZ m.last) m.tail) else D.sync (segZ m.last)
def rclean (m : Rl) (D : Dk) : Dk × Int := if (cleanDrops D (overL m D.L)).2 = 0 then rclean2 m (cleanDrops D (overL m D.L)).1 else cleanDrops D (overL m D.L)
theorem overL_snoc (m : Rl) (L : Fls) (x : ByteArray × Fl) : overL m (L ++ [x]) = overL m L ++ (if overP m x.1 then [x.1] else []) := by
 unfold overL
 rw [List.map_append, List.filter_append]
 simp only [List.map_cons, List.map_nil, List.filter_cons, List.filter_nil]
theorem overL_len (m : Rl) (L : Fls) : (overL m L).length ≤ L.length := Nat.le_trans (List.length_filter_le _ _) (by simp)
theorem infoStrT : (Tryz.prog.info? 9).map (fun i => (i.zero, i.size, i.bytes)) = some (some (.string ⟨#[]⟩), 1, 16) := by kernel_rfl
/-- Where clean's loop over the names stands. -/
structure ClSt (w : World) (g : Nat) (m : Rl) (L : Fls) (pre : Fls) (W : World) : Prop where
 hb : Below w.heap.size w W
 bx : W.heap[w.heap.size]? = some (.cells #[.pointer (some ⟨g, 0, none⟩)] 28 (0, 0))
 nm : ∃ v, W.heap[w.heap.size + 1]? = some (.cells #[v] 32 (0, 0)) ∧ Kd.R Kd.string 9 W (w.heap.size + 3) (fun _ => True) v (overL m pre)
 sz : w.heap.size + 3 ≤ W.heap.size
 pf : pre <+: L
theorem ClSt.own {w : World} {g : Nat} {m : Rl} {L : Fls} {B : Nat} (hB : w.heap.size ≤ B) : OwnFrom B (ClSt w g m L) := fun pre W W' row hs hg hr => by
 obtain ⟨v, h1, h2⟩ := hs.nm
 exact ⟨hs.hb.grown hg hs.hb.size (fun k hk => Nat.le_trans hB (hr k hk).1), (hg.block _ (blk_lt hs.bx) (cells_ne_row (B := B) hr hs.bx)).trans hs.bx, ⟨v, (hg.block _ (blk_lt h1) (cells_ne_row (B := B) hr h1)).trans h1, R_ownFrom h2 hg hr⟩, Nat.le_trans hs.sz hg.size, hs.pf⟩
theorem clean_step {w W w2 w3 : World} {g rk : Nat} {m : Rl} {L pre : Fls} {k : ByteArray} {f : Fl} {T : Tr FV} {v v1 : Value} (hI : ClSt w g m L pre W) (hpf : pre ++ [(k, f)] <+: L) (hb : Below W.heap.size W w2) (hov : overL m (pre ++ [(k, f)]) = overL m pre ++ [k])
  (ho : w2.heap[w.heap.size + 1]? = some (.cells #[v] 32 (0, 0))) (hr : Kd.R Kd.string 9 w2 (w.heap.size + 3) (fun _ => True) v (overL m pre)) (hr1 : Kd.R Kd.string 9 w3 (w.heap.size + 3) (fun _ => True) v1 (overL m pre ++ [k])) (hg : w2.grownBy w3 v.ownBlock) :
  ClSt w g m L (pre ++ [(k, f)]) (w3.setCell ⟨w.heap.size + 1, 0, none⟩ v1) ∧ KpN rk T W (w3.setCell ⟨w.heap.size + 1, 0, none⟩ v1) ∧ KeepsOthers W (w3.setCell ⟨w.heap.size + 1, 0, none⟩ v1) := by
 obtain ⟨inner, hown⟩ := Kd.R_own hr
 have hsz := Nat.le_trans hI.sz hb.size
 have ho3 := blk_grown ho hg (Kd.R_ne hr ho (by decide))
 have keep : ∀ (i : Nat) (cs : Array Value) (t : TypeId), W.heap[i]? = some (.cells cs t (0, 0)) → t ≠ 9 → t ≠ 32 → (w3.setCell ⟨w.heap.size + 1, 0, none⟩ v1).heap[i]? = some (.cells cs t (0, 0)) := fun i cs t hc h1 h2 => by
  have c2 := blk_below hc hb
  have c3 := blk_grown c2 hg (Kd.R_ne hr c2 (Ne.symm h1))
  exact blk_far c3 (p := ⟨w.heap.size + 1, 0, none⟩) (blk_ne c3 ho3 h2) _
 refine ⟨⟨?_, keep _ _ _ hI.bx (by decide) (by decide), ⟨v1, by simpa using blk_set ho3 0 v1, by rw [hov]; exact Kd.R_set hr1 ho3 (by decide) 0 _⟩, by rw [World.size_setCell]; exact Nat.le_trans hsz hg.size, hpf⟩, ⟨fun hR => ?_, fun i cs hc => ?_⟩, ((keeps_below hb).trans (keeps_grown hg hown)).trans (KeepsOthers.setCell _ _ _)⟩
 ·have h1 := hI.hb.trans (hb.mono hI.hb.size)
  exact (h1.grown hg h1.size (fun i e => Nat.le_trans (by omega) (own_base hown i e))).setCell (p := ⟨w.heap.size + 1, 0, none⟩) (by simp only; omega) _
 ·refine hR.keep (fun i hi _ => ?_)
  obtain ⟨cs, t, hc, ht⟩ := RF_typed hR i hi
  rw [hc]
  exact keep i cs t hc (ht.elim (fun e => e ▸ by decide) (fun e => e ▸ by decide)) (ht.elim (fun e => e ▸ by decide) (fun e => e ▸ by decide))
 ·rw [hc]
  exact keep i cs _ hc (by decide) (by decide)
theorem RSt.putObj {w W : World} {g s : Nat} {F : Nat → Prop} {m : Rl} {D : Dk} (h : RSt w g s F m D W) {l : Nat} {o o' : Obj} (hl : W.heap[l]? = some o) (ho : o.isCells = false) (hge : w.heap.size ≤ l) : RSt w g s F m D (W.putObj l o') := by
 obtain ⟨F', h1, h2⟩ := h.at_
 refine ⟨⟨h.mu.os, h.mu.tape, h.mu.output, by rw [World.putObj_size]; exact h.mu.size, fun i hi hn => (World.putObj_heap_other (by omega)).trans (h.mu.block i hi hn)⟩, F', ⟨?_, h1.disk.putObj hl ho⟩, h2⟩
 refine (World.putObj_heap_other ?_).trans h1.blk
 rintro rfl
 rw [h1.blk] at hl
 cases hl
 cases ho
theorem KeepT.putObj {w W : World} (h : KeepT w W) {l : Nat} (o' : Obj) (hge : w.heap.size ≤ l) : KeepT w (W.putObj l o') :=
 ⟨by rw [World.putObj_size]; exact h.size, fun i cs t hc ht => (World.putObj_heap_other (by have := blk_lt hc; omega)).trans (h.blk i cs t hc ht), fun i o hi ho => (World.putObj_heap_other (by have := blk_lt hi; omega)).trans (h.oth i o hi ho)⟩
theorem KeepT.rdS {A B : World} (h : KeepT A B) {v : Value} {base : Nat} {xs : List ByteArray} (hr : Kd.R Kd.string 9 A base (fun _ => True) v xs) : Kd.R Kd.string 9 B base (fun _ => True) v xs :=
 Kd.R_mono (Kd.R_step (Kd.R_bound hr) (fun k hk hlt => by
  obtain ⟨_, _, _, q, hq, cells, hc⟩ := hk
  have e : q = 9 := by simpa [Kd.string, Kd.scalar] using hq
  subst e
  rw [hc]
  exact h.blk k cells _ hc ⟨by decide, by decide, by decide, by decide⟩)) (fun _ _ => trivial)
/-- Where clean's drops stand. -/
structure CdAt (w W0 : World) (g s : Nat) (F : Nat → Prop) (m : Rl) (rd : Dk × Int) (ol : List ByteArray) (j : Nat) (W : World) : Prop where
 ex : ∃ Dn, RSt w g s F m Dn W ∧ cleanDrops Dn (ol.drop j) = rd
 kp : KeepT W0 W
theorem clean_fin {w W : World} {g s : Nat} {F : Nat → Prop} {m : Rl} {D : Dk} {D' : Nat} (e : Int) (h : RSt w g s F m D W) (hk : KeepT w W) (hd : W.heap[D']? = some (.deferred (some []))) (hge : w.heap.size ≤ D') (o' : Obj) :
  DkStep w g s F m (D, e) w (.returned (.int .i64 e)) (W.putObj D' o') := ⟨rfl, h.putObj hd rfl hge, hk.putObj o' hge⟩
def q20.T18 : Bool × List (List Nat × List Nat) := (true, [([], []), ([0], [0]), ([1], [1]), ([2], [2]), ([], []), ([], []), ([5], [5]), ([6], [6]), ([7], [7]), ([3, 4, 8], [3, 4, 8]), ([9, 9, 0, 1, 2, 3, 4, 5, 6, 7, 8, 9], [9])])
def q20.B18 : List Nat := [0, 1, 3, 7, 0, 0, 32, 96, 224, 511, 1023]
theorem q20.tab18 : rtab .any (opsOf Tryz.f20 18) = q20.T18 := by kernel_rfl
theorem q20.bits18 : waitsOk q20.T18.2 q20.B18 = true := by kernel_rfl
set_option maxRecDepth 100000 in
set_option maxHeartbeats 1600000 in
theorem clean_calls (w : World) (g s : Nat) (F : Nat → Prop) (m : Rl) (D : Dk) (h : RlAt w g s F m D) (hn : ∀ x ∈ D.L, RName x.1) (hE : REnv w) (hg1 : 3 < w.heap.size) (hg2 : 1 < w.heap.size) (hl0 : 0 ≤ m.last) (hl1 : m.last < 100) :
  Calls Tryz.prog 20 #[.pointer (some ⟨g, 0, none⟩)] w (DkStep w g s F m (rclean m D) w) := by
 have HST := Aside0.mk (RSt.start h)
 have HG := Aside0.mk h.blk
 have HD := Aside0.mk h.disk
 have HNM := Aside0.mk hn
 have HE := Aside0.mk hE
 have HG1 := Aside0.mk (And.intro hg1 hg2)
 have HL := Aside0.mk (And.intro hl0 hl1)
 obtain ⟨rk, T, hs0, hr0, hv0, hF0⟩ := h.disk.ex
 have HS0 := Aside0.mk hs0
 have HR0 := Aside0.mk hr0
 have HV0 := Aside0.mk hv0
 have hB1 : Below w.heap.size w ((w.alloc (.cells #[.pointer (some ⟨g, 0, none⟩)] 28)).alloc (.cells #[.slice none 0 0] 32)) := ((Below.refl _ w).alloc (Nat.le_refl _) _).alloc (by simp) _
 have d0 : ((w.alloc (.cells #[.pointer (some ⟨g, 0, none⟩)] 28)).alloc (.cells #[.slice none 0 0] 32)).cell? ⟨g, 0, none⟩ = some (.pointer (some ⟨s, 0, none⟩)) := (blk_cell (blk_below h.blk hB1) 0).trans rfl
 have hX0 := heap_alloc2_old w (.cells #[.pointer (some ⟨g, 0, none⟩)] 28) (.cells #[.slice none 0 0] 32)
 have hX1 := heap_alloc2_new w (.cells #[.pointer (some ⟨g, 0, none⟩)] 28) (.cells #[.slice none 0 0] 32)
 have HP0 := Aside0.mk (And.intro hB1 (And.intro hX0 hX1))
 clear h hn hE hg1 hg2 hl0 hl1 hs0 hr0 hv0 hF0 hB1 hX0 hX1
 refine (callsIn_wide (n := 9)).1 ?_
 refine callsIn_of_wp_marks Tryz.func20 rfl trivial ?_ rfl
 simp only [Tryz.ntmps20, List.size_toArray, List.length_cons, List.length_nil, Nat.reduceAdd, Nat.reduceSub, Array.replicate_succ, Array.replicate_zero, List.push_toArray, List.append_toArray, List.nil_append, List.cons_append]
 gi_wp2_with fail
 refine ⟨trivial, ?_⟩
 gi_at_call 41
 refine (callsIn_wide.2 (Names_calls s _)).mono ?_
 rintro e w4 ⟨rfl, rfl⟩
 clear d0
 gi_wp2_with fail
 have hb3 : Below ((w.alloc (.cells #[.pointer (some ⟨g, 0, none⟩)] 28)).alloc (.cells #[.slice none 0 0] 32)).heap.size ((w.alloc (.cells #[.pointer (some ⟨g, 0, none⟩)] 28)).alloc (.cells #[.slice none 0 0] 32)) (((w.alloc (.cells #[.pointer (some ⟨g, 0, none⟩)] 28)).alloc (.cells #[.slice none 0 0] 32)).alloc (.cells #[.pointer (some ⟨s, 0, none⟩)] 23)) := (Below.refl _ _).alloc (Nat.le_refl _) _
 have hI0 : ClSt w g m D.L [] (((w.alloc (.cells #[.pointer (some ⟨g, 0, none⟩)] 28)).alloc (.cells #[.slice none 0 0] 32)).alloc (.cells #[.pointer (some ⟨s, 0, none⟩)] 23)) :=
  ⟨HP0.out.1.trans (hb3.mono HP0.out.1.size), blk_below HP0.out.2.1 hb3, ⟨_, blk_below HP0.out.2.2 hb3, Kd.R_nil _ _ _ _ _⟩, by simp, List.nil_prefix⟩
 have hbx : (((w.alloc (.cells #[.pointer (some ⟨g, 0, none⟩)] 28)).alloc (.cells #[.slice none 0 0] 32)).alloc (.cells #[.pointer (some ⟨s, 0, none⟩)] 23)).heap[w.heap.size + 2]? = some (.cells #[.pointer (some ⟨s, 0, none⟩)] 23 (0, 0)) := by
  have := heap_alloc_new ((w.alloc (.cells #[.pointer (some ⟨g, 0, none⟩)] 28)).alloc (.cells #[.slice none 0 0] 32)) (.cells #[.pointer (some ⟨s, 0, none⟩)] 23)
  rwa [World.size_alloc, World.size_alloc] at this
 clear hb3 HP0
 generalize ((w.alloc (.cells #[.pointer (some ⟨g, 0, none⟩)] 28)).alloc (.cells #[.slice none 0 0] 32)).alloc (.cells #[.pointer (some ⟨s, 0, none⟩)] 23) = w5 at hI0 hbx ⊢
 have hhands := names_hands (w.heap.size + 2) s _ _ _ rk T D.L w5 hbx (blk_below HS0.out hI0.hb) (HR0.out.below hI0.hb) (HV0.out.mono (fun _ _ h => h.keep (fun i cs hc => hI0.hb.block i (blk_lt hc)))) (fun x hx => ⟨HD.out.ok.ok x hx, by have h1 := used_mem hx; have h2 := HD.out.ok.used; have h3 := HD.out.ok.lim1; omega⟩)
 refine range_handsP (F := Fence.wide) (n := 9) rfl (by omega) (gf := 67) (lb := #[.pointer (some ⟨w.heap.size + 2, 0, none⟩)]) rfl trivial (enters_of Tryz.func67 (by kernel_rfl) rfl)
  hhands (fun A B hst => hst.elim) (fun _ => rfl) (fun h k => h.trans k) (fun W l o o' hl ho hc hw => kpN_putObj rk T W l o o' ho hc)
  (ClSt w g m D.L) (fun _ _ => False) (ClSt.own hI0.hb.size) (fun s W W' row hs hg hr => hs.elim) (fun pre x s W W' row hs hg hr => hs) hI0 (fun s A B hs hst => hst.elim) (fun s A B hs _ => hs.elim)
  (fun x a' W => a' = { tmps := #[.pointer (some ⟨g, 0, none⟩), .pointer (some ⟨w.heap.size, 0, none⟩), .int .i64 0, .pointer (some ⟨w.heap.size + 1, 0, none⟩), .string x.1, undef, undef, undef, undef, undef, undef, undef, .pointer (some ⟨g, 0, none⟩), .pointer (some ⟨g, 0, none⟩), .pointer (some ⟨g, 0, none⟩), .pointer (some ⟨s, 0, none⟩), .func (.func 67) #[] #[.pointer (some ⟨w.heap.size + 1 + 1, 0, none⟩)], .string x.1, .int .i64 (x.2.b.length - x.2.s), undef, undef, undef, undef, undef, undef, undef, undef, undef, undef, undef, undef, undef, undef, undef, undef, undef, undef, undef, undef, undef, undef, undef, undef, undef, undef, undef, undef, undef, undef, undef, undef, undef, undef, undef, undef, undef, undef, undef, undef, undef, undef, undef, undef, undef, undef, undef, undef, undef, undef, undef, undef, undef, undef, undef, undef, undef, undef, undef, undef, undef, undef, undef, undef, undef], defers := [] })
  (fun x a' s W W' row hs hg hr => hs) ?assign ?body ?done ?stop
 case assign =>
  rintro lp2 pre x W K hI hx hK
  have HKK := Aside0.mk (hK _ W (KeepsOthers.refl W) ⟨fun h => h, fun _ _ _ => rfl⟩ hI hx rfl)
  simp only [nmA]
  clear hK hI hx hhands hI0 hbx
  gi_wp2
  exact HKK.out
 case body =>
  rintro lp2 pre ⟨k, f⟩ a' W hI hx rfl hln
  have HI := Aside0.mk hI
  have HX := Aside0.mk hx
  have hkR : RName k := HNM.out (k, f) (hx.subset (by simp))
  have hov := over_calls W g s m k (blk_below HG.out hI.hb) hkR (HE.out.keep (hI.hb.block _ HG1.out.1) (hI.hb.block _ HG1.out.2)) (Nat.lt_of_lt_of_le HG1.out.1 hI.hb.size)
  have d0 := blk_cell hI.bx 0
  have hpl : pre.length ≤ 16 := by have h1 := hI.pf.length_le; have h2 := HD.out.ok.few; omega
  have HPL := Aside0.mk hpl
  clear hI hx hkR hpl hln hhands hI0 hbx
  simp only
  obtain ⟨b, hb⟩ : ∃ b, overP m k = b := ⟨_, rfl⟩
  rw [hb] at hov
  have HBV := Aside0.mk hb
  clear hb
  gi_wp2_with fail
  refine ⟨trivial, ?_⟩
  gi_at_call 42
  refine (show CallsIn (Fence.wide.inRound lp2) 6 _ _ _ _ _ from callsIn_wide.2 hov).mono ?_
  rintro e w2 ⟨rfl, hb2⟩
  have HB2 := Aside0.mk hb2
  clear hb2 hov d0
  have hB2w : Below w.heap.size w w2 := HI.out.hb.trans (HB2.out.mono HI.out.hb.size)
  have kpB : ∀ {V : World}, Below W.heap.size W V → KpN rk T W V := fun h => ⟨fun hr => hr.below h, fun i cs hc => h.block i (blk_lt hc)⟩
  cases b with
  | false =>
   obtain ⟨v, ho, hr⟩ := HI.out.nm
   have FIN := Aside0.mk (show ClSt w g m D.L (pre ++ [(k, f)]) w2 from ⟨hB2w, blk_below HI.out.bx HB2.out, ⟨v, blk_below ho HB2.out, by rw [overL_snoc, HBV.out]; simpa using Kd.R_below hr HB2.out⟩, Nat.le_trans HI.out.sz HB2.out.size, HX.out⟩)
   have FIN2 := Aside0.mk (kpB HB2.out)
   have FIN3 := Aside0.mk (keeps_below HB2.out)
   clear hB2w kpB ho hr
   gi_wp2
   exact .inl ⟨rfl, FIN3.out.from _, FIN2.out, FIN.out⟩
  | true =>
   obtain ⟨v, ho, hr⟩ := HI.out.nm
   obtain ⟨vA, vc, hv⟩ := Kd.R_slice hr
   obtain ⟨vn, hvn⟩ : ∃ vn, (overL m pre).length = vn := ⟨_, rfl⟩
   have HVN := Aside0.mk (And.intro hvn (show (overL m pre).length ≤ 16 from Nat.le_trans (overL_len m pre) HPL.out))
   rw [hvn] at hv
   subst hv
   clear hvn
   have HO := Aside0.mk (blk_below ho HB2.out)
   have HR := Aside0.mk (Kd.R_below hr HB2.out)
   have HSZ := Aside0.mk (Nat.le_trans HI.out.sz HB2.out.size)
   have HLN := Aside0.mk (show ((overL m pre).length + 1) * 16 ≤ 140737488355328 from Nat.le_trans (Nat.mul_le_mul_right _ (Nat.add_le_add_right HVN.out.2 1)) (by decide))
   have d1 := blk_cell (blk_below ho HB2.out) 0
   have hov2 : overL m (pre ++ [(k, f)]) = overL m pre ++ [k] := by rw [overL_snoc, HBV.out]; rfl
   have HOV := Aside0.mk hov2
   have HBW := Aside0.mk hB2w
   clear ho hr hov2 hB2w kpB
   gi_wp2_with (gi_at_builtin; refine R_append_In Kd.string (w.heap.size + 3) rfl (.tmp 22) (.tmp 24) 32 9 (.string ⟨#[]⟩) 16 rfl Tryz.underlying32 infoStrT rfl (by decide) (by decide) (.slice vA vn vc) (overL m pre) k [.string k] (fun _ => True) (fun _ => False) rfl rfl rfl (fun _ hk => hk.elim) (fun _ _ => trivial) HR.out HSZ.out HLN.out ?_; intro v1 w3 hr hg; obtain ⟨A1, c1, e1⟩ := Kd.R_slice hr; subst e1; have HO3 := Aside0.mk (blk_grown HO.out hg (Kd.R_ne HR.out HO.out (by decide))); have HR3 := Aside0.mk hr; have HG3 := Aside0.mk hg; have d3 := blk_cell HO3.out 0; have f3 := blk_frozen HO3.out 0; clear hr hg d1)
   obtain ⟨FIN, FIN2, FIN3⟩ := clean_step (T := T) (rk := rk) HI.out HX.out HB2.out HOV.out HO.out HR.out HR3.out HG3.out
   simp only [List.length_append, List.length_cons, List.length_nil, Nat.zero_add] at FIN FIN2 FIN3
   exact .inl ⟨rfl, FIN3.from _, FIN2, FIN⟩
 case done =>
  rintro D' xs W hD rfl hI hK
  obtain ⟨v, ho, hr⟩ := hI.nm
  obtain ⟨vA, vc, hv⟩ := Kd.R_slice hr
  subst hv
  have HST1 := Aside0.mk (HST.out.below hI.hb)
  have HKW := Aside0.mk (KeepT.below hI.hb)
  have HBX := Aside0.mk hI.bx
  have HSZ := Aside0.mk (show w.heap.size ≤ D' by have := hI0.hb.size; omega)
  have HDF := Aside0.mk hK
  have HR := Aside0.mk hr
  obtain ⟨rp, hrp⟩ : ∃ rp, rclean m D = rp := ⟨_, rfl⟩
  have HRP := Aside0.mk hrp
  unfold rclean at hrp
  have hol := overL_len m D.L
  have hof := HD.out.ok.few
  generalize overL m D.L = ol at hr hrp hol ho HR ⊢
  have hol16 : ol.length ≤ 16 := by omega
  generalize hrd : cleanDrops D ol = rd at hrp
  have HRD := Aside0.mk hrd
  have HRC := Aside0.mk hrp
  have d1 := blk_cell ho 0
  obtain ⟨on, hon⟩ : ∃ on, ol.length = on := ⟨_, rfl⟩
  have HON := Aside0.mk hon
  rw [hon] at hol16 d1
  have HOL := Aside0.mk hol16
  have hlast := HL.out
  obtain ⟨ln, hln⟩ : ∃ ln : Nat, (ln : Int) = m.last := ⟨m.last.toNat, by omega⟩
  have HLN := Aside0.mk (And.intro hln (show ln < 100 by omega))
  clear hhands hI0 hbx hI hr ho hrp hol hof hrd hon hol16 hD hK hlast hln
  gi_upto_region 7 with fail
  refine wpIn_wide.2 ?_
  clear d1
  rw [HON.out] at HR
  go_loopw [28] (fun v28 wr => ∃ j : Nat, v28 = .int .i64 j ∧ j ≤ on ∧ CdAt w W g s F m rd ol j wr) (fun v28 _ => on - (intOf v28).toNat)
  case atStart => exact ⟨0, rfl, Nat.zero_le _, ⟨D, HST1.out, HRD.out⟩, KeepT.refl _⟩
  case round =>
   obtain ⟨j, rfl, hj, hCD⟩ := hrel
   obtain ⟨Dn, hS, hdr⟩ := hCD.ex
   have HKP := Aside0.mk hCD.kp
   have HS := Aside0.mk hS
   have d1 : wr.cell? ⟨w.heap.size, 0, none⟩ = some (.pointer (some ⟨g, 0, none⟩)) := blk_cell (HKP.out.blk _ _ _ HBX.out ⟨by decide, by decide, by decide, by decide⟩) 0
   have d0 : wr.cell? ⟨g, 0, none⟩ = some (.pointer (some ⟨s, 0, none⟩)) := (blk_cell hS.blk 0).trans rfl
   by_cases hlt : j < on
   ·have hRW := HKP.out.rdS HR.out
    obtain ⟨_, _, hC⟩ := Kd.R_reads' hRW
    have hlo : j < ol.length := by have := HON.out; omega
    have hE := Kd.C_get hC ⟨#[]⟩ (j : Int) (by omega) (by omega)
    rw [Int.toNat_natCast, show ol.getD j ⟨#[]⟩ = ol[j] by rw [List.getD_eq_getElem?_getD, List.getElem?_eq_getElem hlo]; rfl] at hE
    have hdc : ol.drop j = ol[j] :: ol.drop (j + 1) := List.drop_eq_getElem_cons hlo
    rw [hdc] at hdr
    generalize ol[j] = k at hE hdr
    obtain ⟨ad, cs, rfl, _, hKx, hcell⟩ := hE
    have hcs : cs = [.string k] := hKx
    subst hcs
    have dk : wr.cell? (ad.add j) = some (.string k) := by have := hcell 0 _ rfl; simpa [Kd.string, Kd.scalar] using this
    unfold cleanDrops at hdr
    have hdp := hS.disk (fun F' hd => Drop_disk wr s F' Dn k hd)
    generalize Dn.drop k = r3 at hdp hdr
    obtain ⟨D3, e3⟩ := r3
    simp only at hdr
    have HDR := Aside0.mk hdr
    have HJ := Aside0.mk (And.intro hlt (show j + 1 ≤ on by omega))
    have HJ1 := Aside0.mk (show -9223372036854775808 ≤ (j : Int) + 1 ∧ (j : Int) + 1 ≤ 9223372036854775807 by have := HOL.out; omega)
    clear hRW hC hlo hdc hcell hKx hS hCD hdr hj
    go_upto_region 10 with (first
     | (go_at_call 30; refine (show Calls _ _ _ _ _ from hdp).mono ?_; rintro e w9 ⟨rfl, hst, hkp⟩; have HS9 := Aside0.mk hst; have HK9 := Aside0.mk (HKP.out.trans hkp); clear hst hkp hdp d0 d1 dk))
    by_cases h3 : e3 = 0
    ·subst h3
     have hdr2 : cleanDrops D3 (ol.drop (j + 1)) = rd := by have := HDR.out; simpa using this
     have HX := Aside0.mk (show CdAt w W g s F m rd ol (j + 1) w9 from ⟨⟨D3, HS9.out, hdr2⟩, HK9.out⟩)
     have hwn : wrap64 ((j : Int) + 1) = (j : Int) + 1 := wrap_in HJ1.out.1 HJ1.out.2
     clear hdr2 hlt
     go_wp2_with fail
     go_roundw
     case rel => exact ⟨_, _, _, _, ⟨j + 1, rfl, by have := HJ.out.2; omega, HX.out⟩, rfl, rfl, rfl, rfl⟩
     case measure =>
      clear hwn
      have h1 := HJ.out.1
      simp only [intOf]
      omega
    ·have hb3 : (e3 != 0) = true := by simpa using h3
     have hdr2 := HDR.out
     rw [if_neg h3] at hdr2
     have hrc := HRC.out
     rw [← hdr2] at hrc
     simp only [if_neg h3] at hrc
     have HFIN := Aside0.mk (fun o' => clean_fin e3 HS9.out (HKW.out.trans HK9.out) (HK9.out.oth _ _ HDF.out rfl) HSZ.out o')
     have HRC2 := Aside0.mk hrc
     clear hdr2 hrc hlt
     go_wp2_with fail
     refine ⟨by simp, .inl ⟨_, _, rfl, run_takeDeferred (HK9.out.oth _ _ HDF.out rfl), ?_⟩⟩
     exact ⟨.int .i64 e3, by simp [results, Tryz.results20, go_sem], by rw [HRP.out, ← HRC2.out]; exact HFIN.out _⟩
   ·obtain rfl : j = on := by omega
    rw [← HON.out, List.drop_length] at hdr
    simp only [cleanDrops] at hdr
    subst hdr
    have hrc := HRC.out
    simp only [if_pos trivial] at hrc
    have HRC2 := Aside0.mk hrc
    have d3 : wr.cell? ⟨g, 3, none⟩ = some (.int .i64 (ln : Int)) := (blk_cell hS.blk 3).trans (congrArg (fun x => some (Value.int .i64 x)) HLN.out.1.symm)
    have hseg : ∀ W, Calls Tryz.prog 25 #[.int .i64 (ln : Int)] W fun e w' => e = .returned (.string (segK ln)) ∧ w' = W := fun W => segment_calls ln HLN.out.2 W
    have HSK := Aside0.mk (show segZ m.last = segK ln by unfold segZ; rw [← HLN.out.1, Int.toNat_natCast])
    clear hrc hCD hS hlt hj HRD HRC HST1
    go_upto_region 13 with fail
    refine wpIn_wide.2 ?_
    go_upto_region 14 with (go_at_call 25; refine (hseg _).mono ?_; rintro e w2 ⟨rfl, rfl⟩; clear hseg d3)
    obtain ⟨o, hlk⟩ : ∃ o, lk (segK ln) Dn.L = o := ⟨_, rfl⟩
    have HLK := Aside0.mk hlk
    cases o with
    | none =>
     have hrd := HS.out.read_none (segK ln) hlk
     clear hlk
     go_upto_region 15 with (go_at_call 34; refine (show Calls _ _ _ _ _ from hrd).mono ?_; rintro e w3 ⟨rfl, hb⟩; have HS3 := Aside0.mk (HS.out.below hb); have HK3 := Aside0.mk (HKP.out.trans (KeepT.below hb)); clear hb hrd d0 d1)
     have HFIN := Aside0.mk (fun o' => clean_fin 0 HS3.out (HKW.out.trans HK3.out) (HK3.out.oth _ _ HDF.out rfl) HSZ.out o')
     go_wp2_with fail
     refine ⟨by simp, .inl ⟨_, _, rfl, run_takeDeferred (HK3.out.oth _ _ HDF.out rfl), ?_⟩⟩
     exact ⟨.int .i64 0, by simp [results, Tryz.results20, go_sem], by rw [HRP.out, ← HRC2.out]; unfold rclean2; rw [HSK.out, HLK.out]; exact HFIN.out _⟩
    | some f =>
     have hrd := HS.out.read_some (segK ln) hlk
     clear hlk
     obtain ⟨bl, hbl⟩ : ∃ bl, f.b.length = bl := ⟨_, rfl⟩
     have HBL := Aside0.mk hbl
     rw [hbl] at hrd
     clear hbl
     go_upto_region 17 with (go_at_call 34; refine (show Calls _ _ _ _ _ from hrd).mono ?_; rintro e w3 ⟨⟨fA, fc, rfl, hR⟩, hb⟩; have HS3 := Aside0.mk (HS.out.below hb); have HK3 := Aside0.mk (HKP.out.trans (KeepT.below hb)); clear hR hb hrd d0 d1)
     have d1 : w3.cell? ⟨w.heap.size, 0, none⟩ = some (.pointer (some ⟨g, 0, none⟩)) := blk_cell (HK3.out.blk _ _ _ HBX.out ⟨by decide, by decide, by decide, by decide⟩) 0
     have HBX3 := Aside0.mk (HK3.out.blk _ _ _ HBX.out ⟨by decide, by decide, by decide, by decide⟩)
     have d5 : w3.cell? ⟨g, 5, none⟩ = some (.int .i64 m.tail) := (blk_cell HS3.out.blk 5).trans rfl
     have d0 : w3.cell? ⟨g, 0, none⟩ = some (.pointer (some ⟨s, 0, none⟩)) := (blk_cell HS3.out.blk 0).trans rfl
     have hrc : (if (bl : Int) > m.tail then (if (Dn.cut (segK ln) m.tail).2 = 0 then (Dn.cut (segK ln) m.tail).1.sync (segK ln) else Dn.cut (segK ln) m.tail) else Dn.sync (segK ln)) = rp := by
      rw [← HRC2.out, ← HBL.out]; unfold rclean2; rw [HSK.out, HLK.out]
     by_cases hgt : (bl : Int) > m.tail
     ·rw [if_pos hgt] at hrc
      have hdg : decide ((bl : Int) > m.tail) = true := decide_eq_true hgt
      have hcp := (HS3.out.below (below_drew1 (Below.refl _ w3))).disk (fun F' hd => Cut_disk w3.drew s F' Dn (segK ln) m.tail hd)
      generalize Dn.cut (segK ln) m.tail = r4 at hcp hrc
      obtain ⟨D4, e4⟩ := r4
      simp only at hrc
      have HRC3 := Aside0.mk hrc
      have HSD := Aside0.mk (HS3.out.below (below_drew1 (Below.refl _ w3)))
      clear hrc hgt
      go_upto_region 18 with fail
      clear d1 d5 d0
      refine wp_mono (Q := fun e a w => e = .normal ∧ _) ?_ (fun e a w h => h.2)
      refine start_ (n := 11) (S := fun w' => w'.cell? ⟨w.heap.size, 0, none⟩ = some (.pointer (some ⟨g, 0, none⟩)) ∧ w'.cell? ⟨g, 0, none⟩ = some (.pointer (some ⟨s, 0, none⟩)) ∧ w'.cell? ⟨g, 5, none⟩ = some (.int .i64 m.tail)) (ds := []) #[ff,ff,ff,ff,ff,ff,ff,ff,ff,ff,ff] (by kernel_rfl) rfl rfl ⟨((blk_cell (blk_drew HBX3.out) 0).trans rfl), ((blk_cell HSD.out.blk 0).trans rfl), ((blk_cell HSD.out.blk 5).trans rfl)⟩ (fun hHeld => ?_)
      refine with_tabW q20.tab18 q20.bits18 (fun HT_ HW_ => ?_)
      refine pure_ (i := 4) (N := some 69) (v := ?_) (a' := ?_) #[ff,ff,ff,ff,tt,ff,ff,ff,ff,ff,ff] rfl rfl (any_of HT_.out (by kernel_rfl)) (fun _ _ _ h => nomatch h.1) (Or.inl ⟨by rfl, ?_⟩) ?_ ?_
      rotate_left
      ·intro w'
       go_simp
       with_reducible rfl
      rotate_left
      ·simp only [Act.put, sA, sB, sC, i64_w, i32_w]
       rfl
      refine take_ (i := 0) (N := some 65) (v := ?_) (a' := ?_) #[tt,ff,ff,ff,tt,ff,ff,ff,ff,ff,ff] rfl rfl (take_ofW HT_.out HW_.out (by kernel_rfl)) (fun _ _ _ h => nomatch h.1) (Or.inl ⟨by rfl, ?_⟩) hHeld ?_ ?_
      rotate_left
      ·rintro w' ⟨s0, s1, s2⟩
       go_simp
       with_reducible rfl
      rotate_left
      ·simp only [Act.put, sA, sB, sC, i64_w, i32_w]
       rfl
      refine pure_ (i := 1) (N := some 66) (v := ?_) (a' := ?_) #[tt,tt,ff,ff,tt,ff,ff,ff,ff,ff,ff] rfl rfl (any_of HT_.out (by kernel_rfl)) (fun _ _ _ h => nomatch h.1) (Or.inl ⟨by rfl, ?_⟩) ?_ ?_
      rotate_left
      ·intro w'
       go_simp
       with_reducible rfl
      rotate_left
      ·simp only [Act.put, sA, sB, sC, i64_w, i32_w]
       rfl
      refine pure_ (i := 2) (N := some 67) (v := ?_) (a' := ?_) #[tt,tt,tt,ff,tt,ff,ff,ff,ff,ff,ff] rfl rfl (any_of HT_.out (by kernel_rfl)) (fun _ _ _ h => nomatch h.1) (Or.inl ⟨by rfl, ?_⟩) ?_ ?_
      rotate_left
      ·intro w'
       go_simp
       with_reducible rfl
      rotate_left
      ·simp only [Act.put, sA, sB, sC, i64_w, i32_w]
       rfl
      refine take_ (i := 3) (N := some 68) (v := ?_) (a' := ?_) #[tt,tt,tt,tt,tt,ff,ff,ff,ff,ff,ff] rfl rfl (take_ofW HT_.out HW_.out (by kernel_rfl)) (fun _ _ _ h => nomatch h.1) (Or.inl ⟨by rfl, ?_⟩) hHeld ?_ ?_
      rotate_left
      ·rintro w' ⟨s0, s1, s2⟩
       go_simp
       with_reducible rfl
      rotate_left
      ·simp only [Act.put, sA, sB, sC, i64_w, i32_w]
       rfl
      refine take_ (i := 5) (N := some 70) (v := ?_) (a' := ?_) #[tt,tt,tt,tt,tt,tt,ff,ff,ff,ff,ff] rfl rfl (take_ofW HT_.out HW_.out (by kernel_rfl)) (fun _ _ _ h => nomatch h.1) (Or.inl ⟨by rfl, ?_⟩) hHeld ?_ ?_
      rotate_left
      ·rintro w' ⟨s0, s1, s2⟩
       go_simp
       with_reducible rfl
      rotate_left
      ·simp only [Act.put, sA, sB, sC, i64_w, i32_w]
       rfl
      refine pure_ (i := 6) (N := some 71) (v := ?_) (a' := ?_) #[tt,tt,tt,tt,tt,tt,tt,ff,ff,ff,ff] rfl rfl (any_of HT_.out (by kernel_rfl)) (fun _ _ _ h => nomatch h.1) (Or.inl ⟨by rfl, ?_⟩) ?_ ?_
      rotate_left
      ·intro w'
       go_simp
       with_reducible rfl
      rotate_left
      ·simp only [Act.put, sA, sB, sC, i64_w, i32_w]
       rfl
      refine pure_ (i := 7) (N := some 72) (v := ?_) (a' := ?_) #[tt,tt,tt,tt,tt,tt,tt,tt,ff,ff,ff] rfl rfl (any_of HT_.out (by kernel_rfl)) (fun _ _ _ h => nomatch h.1) (Or.inl ⟨by rfl, ?_⟩) ?_ ?_
      rotate_left
      ·intro w'
       go_simp
       with_reducible rfl
      rotate_left
      ·simp only [Act.put, sA, sB, sC, i64_w, i32_w]
       rfl
      refine take_ (i := 8) (N := some 73) (v := ?_) (a' := ?_) #[tt,tt,tt,tt,tt,tt,tt,tt,tt,ff,ff] rfl rfl (take_ofW HT_.out HW_.out (by kernel_rfl)) (fun _ _ _ h => nomatch h.1) (Or.inl ⟨by rfl, ?_⟩) hHeld ?_ ?_
      rotate_left
      ·rintro w' ⟨s0, s1, s2⟩
       go_simp
       with_reducible rfl
      rotate_left
      ·simp only [Act.put, sA, sB, sC, i64_w, i32_w]
       rfl
      refine one_ (i := 9) (N := some 74) #[tt,tt,tt,tt,tt,tt,tt,tt,tt,tt,ff] rfl rfl (one_of HT_.out (by kernel_rfl)) (by decide) (fun K hK => ?_)
      refine goes_ Tryz.func43 (by kernel_rfl) rfl #[.pointer (some ⟨s, 0, none⟩), .string (segK ln), .int .i64 m.tail] (by rfl) rfl rfl (by simp only [List.map_toArray, List.map_cons, List.map_nil]; rfl) ?_
      with_reducible refine ((show Calls _ _ _ _ _ from hcp)).mono ?_
      rintro e w9x ⟨rfl, hst, hkp⟩
      refine ⟨_, rfl, ?_⟩
      have s_S := Aside0.mk hst
      have s_K := Aside0.mk (HK3.out.trans ((KeepT.below (below_drew1 (Below.refl _ w3))).trans hkp))
      clear hst hkp hcp
      refine hK.out _ _ ⟨((blk_cell (s_K.out.blk _ _ _ HBX.out ⟨by decide, by decide, by decide, by decide⟩) 0).trans rfl), ((blk_cell s_S.out.blk 0).trans rfl), ((blk_cell s_S.out.blk 5).trans rfl)⟩ (fun hHeld => ?_)
      clear hK K
      refine norm_ (a' := ?_) ?_ ?_
      rotate_left
      ·show Act.put _ (some 74) _ = _
       simp only [Act.put, sA, sB, sC, i64_w, i32_w]
       rfl
      refine pure_ (i := 10) (N := some 11) (v := ?_) (a' := ?_) #[tt,tt,tt,tt,tt,tt,tt,tt,tt,tt,tt] rfl rfl (any_of HT_.out (by kernel_rfl)) (fun _ _ _ h => nomatch h.1) (Or.inl ⟨by rfl, ?_⟩) ?_ ?_
      rotate_left
      ·intro w'
       go_simp
       with_reducible rfl
      rotate_left
      ·simp only [Act.put, sA, sB, sC, i64_w, i32_w]
       rfl
      refine done_ (done_of HT_.out (by kernel_rfl)) ?_
      refine ⟨rfl, ?_⟩
      clear hHeld HT_ HW_
      generalize w9x = w9 at s_S s_K ⊢
      have d1 : w9.cell? ⟨w.heap.size, 0, none⟩ = some (.pointer (some ⟨g, 0, none⟩)) := blk_cell (s_K.out.blk _ _ _ HBX.out ⟨by decide, by decide, by decide, by decide⟩) 0
      have d0 : w9.cell? ⟨g, 0, none⟩ = some (.pointer (some ⟨s, 0, none⟩)) := (blk_cell s_S.out.blk 0).trans rfl
      by_cases h4 : e4 = 0
      ·subst h4
       have hrc := HRC3.out
       simp only [if_pos trivial] at hrc
       have HRC4 := Aside0.mk hrc
       clear hrc
       go_upto_region 21 with fail
       have hsp := s_S.out.disk (fun F' hd => Sync_disk _ s F' D4 (segK ln) hd)
       have hrc := HRC4.out
       generalize D4.sync (segK ln) = r5 at hsp hrc
       obtain ⟨D5, e5⟩ := r5
       have HRC5 := Aside0.mk hrc
       clear hrc
       go_wp2_with (go_at_call 26; refine (show Calls _ _ _ _ _ from hsp).mono ?_; rintro e w10 ⟨rfl, hst, hkp⟩; have HS10 := Aside0.mk hst; have HK10 := Aside0.mk (s_K.out.trans hkp); clear hst hkp hsp d0 d1)
       have HFIN := Aside0.mk (fun o' => clean_fin e5 HS10.out (HKW.out.trans HK10.out) (HK10.out.oth _ _ HDF.out rfl) HSZ.out o')
       refine ⟨by simp, .inl ⟨_, _, rfl, run_takeDeferred (HK10.out.oth _ _ HDF.out rfl), ?_⟩⟩
       exact ⟨.int .i64 e5, by simp [results, Tryz.results20, go_sem], by rw [HRP.out, ← HRC5.out]; exact HFIN.out _⟩
      ·have hb4 : (e4 != 0) = true := by simpa using h4
       have hrc := HRC3.out
       rw [if_neg h4] at hrc
       have HRC4 := Aside0.mk hrc
       clear hrc d0 d1
       have HFIN := Aside0.mk (fun o' => clean_fin e4 s_S.out (HKW.out.trans s_K.out) (s_K.out.oth _ _ HDF.out rfl) HSZ.out o')
       go_wp2_with fail
       refine ⟨by simp, .inl ⟨_, _, rfl, run_takeDeferred (s_K.out.oth _ _ HDF.out rfl), ?_⟩⟩
       exact ⟨.int .i64 e4, by simp [results, Tryz.results20, go_sem], by rw [HRP.out, ← HRC4.out]; exact HFIN.out _⟩
     ·rw [if_neg hgt] at hrc
      have hdg : decide ((bl : Int) > m.tail) = false := decide_eq_false hgt
      have HRC4 := Aside0.mk hrc
      clear hrc hgt
      go_upto_region 21 with fail
      have hsp := HS3.out.disk (fun F' hd => Sync_disk _ s F' Dn (segK ln) hd)
      have hrc := HRC4.out
      generalize Dn.sync (segK ln) = r5 at hsp hrc
      obtain ⟨D5, e5⟩ := r5
      have HRC5 := Aside0.mk hrc
      clear hrc
      go_wp2_with (go_at_call 26; refine (show Calls _ _ _ _ _ from hsp).mono ?_; rintro e w10 ⟨rfl, hst, hkp⟩; have HS10 := Aside0.mk hst; have HK10 := Aside0.mk (HK3.out.trans hkp); clear hst hkp hsp d0 d1)
      have HFIN := Aside0.mk (fun o' => clean_fin e5 HS10.out (HKW.out.trans HK10.out) (HK10.out.oth _ _ HDF.out rfl) HSZ.out o')
      refine ⟨by simp, .inl ⟨_, _, rfl, run_takeDeferred (HK10.out.oth _ _ HDF.out rfl), ?_⟩⟩
      exact ⟨.int .i64 e5, by simp [results, Tryz.results20, go_sem], by rw [HRP.out, ← HRC5.out]; exact HFIN.out _⟩
 case stop =>
  rintro D' pre W hD hp hI
  exact hI.elim
end Go.Proofs.YtdooajmgfoobfaaGreatDoor.H

