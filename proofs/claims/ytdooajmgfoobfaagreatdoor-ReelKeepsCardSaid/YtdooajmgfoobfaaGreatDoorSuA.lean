/- A disk: Append. Laid by wip/su3_bl.py. -/
import Derived.Test.YtdooajmgfoobfaaGreatDoorZz
import Derived.Test.YtdooajmgfoobfaaGreatDoorSuC
import Derived.Lib.SlBuf
namespace Go.Proofs.YtdooajmgfoobfaaGreatDoor.H
attribute [local go_sem] Oper.semAt_some
open Go.RowKit Go.Shelf Go.Proofs.YtdooajmgfoobfaaGreatDoor.PA Go.Proofs.YtdooajmgfoobfaaGreatDoorW.PrintWords Go.Proofs.YtdooajmgfoobfaaGreatDoorW.PrintLast Go.Proofs.YtdooajmgfoobfaaGreatDoorW.PrintMore
set_option linter.unusedVariables false
set_option linter.unusedSimpArgs false
theorem cut_at (A : Option Addr) (n c : Nat) (m : Nat) (hm : m ≤ n) (W : World) : (Instr.slice 22 (.slice A n c) (some (.int .i64 (m : Int))) none none).run Tryz.prog W = .ok (.slice (if c = m then A else A.map (·.add m)) (n - m) (c - m)) W := by
 obtain ⟨i, hi, hsz⟩ := infoB
 have hel : Tryz.prog.elem 22 = 5 := by simp [Program.elem, Tryz.underlying22]
 have hu : Tryz.prog.underlying 22 = some (.slice (Tryz.prog.elem 22)) := by rw [hel]; exact Tryz.underlying22
 rw [run_slice_l W 22 A n c hu .i64 (m : Int) (Int.natCast_nonneg _) (by omega), hel]
 simp [sizeOf, typeInfo, hi, hsz, sliced, Result.andThen]
theorem C_mut {F : Nat → Prop} {w w' : World} {A : Option Addr} {n : Nat} {xs : List Int} (h : Kd.C (Kd.int .u8) w A n xs) (hm : Mut F w w') (hA : ∀ ad, A = some ad → ¬ F ad.block) : Kd.C (Kd.int .u8) w' A n xs := by
 have h := reads_of_C h
 refine C_of_reads ⟨h.1, h.2.1, fun hn => ?_⟩
 obtain ⟨ad, e, hc⟩ := h.2.2 hn
 refine ⟨ad, e, fun j hj => ?_⟩
 have hb := World.block_lt_of_cell? _ _ (hc j hj)
 rw [add_block] at hb
 exact (cell_congr (by rw [add_block]; exact hm.block _ hb (hA ad e))).trans (hc j hj)
theorem add_off (g k : Nat) : (⟨g, 0, none⟩ : Addr).add k = ⟨g, k, none⟩ := by unfold Addr.add; split <;> simp_all
theorem int1 : ∀ (x : Int), (Value.int .u8 x).oneCell' = true := fun _ => rfl
/-- Bytes are copied into a row of one's own, behind the first k. -/
theorem copy_into {w : World} {base g n cap k c dl : Nat} {xs ys : List Int} {A : Option Addr} {ad : Option Addr} (ty : TypeId) (h : Kd.R (Kd.int .u8) 5 w base (fun _ => True) (.slice (some ⟨g, 0, none⟩) n cap) xs) (hC : Kd.C (Kd.int .u8) w A ys.length ys)
  (hk : k + ys.length ≤ n) (hdl : ys.length ≤ dl) (had : 0 < ys.length → ad = some ⟨g, k, none⟩) :
  ∃ w1, (Builtin.copy_ #[22, 22] ty #[.slice ad dl (cap - k), .slice A ys.length c]).run Tryz.prog w = .ok (.int .i64 (ys.length : Int)) w1 ∧ Kd.R (Kd.int .u8) 5 w1 base (fun _ => True) (.slice (some ⟨g, 0, none⟩) n cap) (xs.take k ++ ys ++ xs.drop (k + ys.length)) ∧ w.grownBy w1 (some g) := by
 have hsz : (Tryz.prog.info? 5).map (·.size) = some 1 := by kernel_rfl
 have hown : w.ownsRow base 5 1 (.slice (some ⟨g, 0, none⟩) n cap) xs.length (encs (Value.int .u8) xs) := Kd.own_of_R (h1 := int1) h
 by_cases h0 : ys.length = 0
 ·have hy : ys = [] := List.eq_nil_of_length_eq_zero h0
  subst hy
  refine ⟨w, ?_, by simpa using h, World.grownBy.refl w _⟩
  exact run_copy_none w _ _ ty _ ad A dl (cap - k) _ c Tryz.underlying22 hsz (by simp)
 ·have hpos : 0 < ys.length := by omega
  have had := had hpos
  subst had
  have hR := reads_of_C hC
  obtain ⟨sa, hA, hc⟩ := hR.2.2 hpos
  subst hA
  rcases hown.2 with ⟨e, _⟩ | ⟨g', cap', cur, e, hb, hh, hnc, hcm, hcs, htake⟩
  ·cases e
  ·cases e
   have hkl : (encs (Value.int .u8) ys).length = ys.length := encs_length _
   have hr := run_copy_cells (P := Tryz.prog) w 22 22 ty 5 g k dl (cap - k) sa ys.length c (encs (Value.int .u8) ys) Tryz.underlying22 hsz (by rw [hkl]; exact (Nat.min_eq_left hdl).symm)
    (fun j u hu => by
     have hj : j < ys.length := by
      rcases Nat.lt_or_ge j ys.length with hh | hh
      ·exact hh
      ·rw [List.getElem?_eq_none (by rw [hkl]; exact hh)] at hu; cases hu
     rw [encs_get (d := 0) _ j hj] at hu
     rw [hc j hj, ← hu])
    (fun j hj => by rw [cell_of_row w g _ cur 5 (0, 0) hh]; simp; rw [hkl] at hj; omega) (fun j _ => blk_frozen hh _) (by intro u hu; simp only [encs, List.mem_map] at hu; obtain ⟨q, _, rfl⟩ := hu; rfl)
   obtain ⟨cur', h3, h4, h5⟩ := setCells_row (encs (Value.int .u8) ys) k w cur hh (by rw [hkl]; omega)
   obtain ⟨s1, s2, s3, s4⟩ := setCells_same g (encs (Value.int .u8) ys) k w
   refine ⟨_, by rw [hr, hkl]; rfl, Kd.R_of_own (h1 := int1) ?_ (fun _ _ => trivial), ⟨s1, s2, s3, by rw [s4]; exact Nat.le_refl _, fun i _ hi => setCells_far _ _ i (fun he => hi (by rw [he]))⟩⟩
   have hlen : (xs.take k ++ ys ++ xs.drop (k + ys.length)).length = xs.length := by rw [List.length_append, List.length_append, List.length_take, List.length_drop]; omega
   refine ⟨by rw [encs_length]; omega, .inr ⟨g, cap, cur', by rw [hlen], hb, h3, by rw [hlen]; exact hnc, hcm, by rw [h4]; exact hcs, ?_⟩⟩
   rw [hlen, h5, hkl]
   have ht : cur.toList.take xs.length = encs (Value.int .u8) xs := by simpa using htake
   have hcl : xs.length ≤ cur.toList.length := by have : cur.toList.length = cur.size := Array.length_toList; omega
   have e1 : cur.toList.take k = (encs (Value.int .u8) xs).take k := by rw [← ht, List.take_take, Nat.min_eq_left (by omega)]
   have e2 : (cur.toList.drop (k + ys.length)).take (xs.length - (k + ys.length)) = (encs (Value.int .u8) xs).drop (k + ys.length) := by rw [← ht, List.drop_take]
   have e3 : encs (Value.int .u8) (xs.take k ++ ys ++ xs.drop (k + ys.length)) = (encs (Value.int .u8) xs).take k ++ encs (Value.int .u8) ys ++ (encs (Value.int .u8) xs).drop (k + ys.length) := by simp [encs]
   have hal : (cur.toList.take k ++ encs (Value.int .u8) ys).length = k + ys.length := by rw [List.length_append, List.length_take, hkl]; omega
   rw [e3, ← e2, ← e1, Nat.mul_one, List.take_append, hal, List.take_of_length_le (by omega)]
def q24.T4 : Bool × List (List Nat × List Nat) := (true, [([], []), ([0], [0]), ([], []), ([2], [2]), ([3], [3]), ([4], [4]), ([], []), ([6], [6]), ([5, 7], [5, 7]), ([1, 8], [1, 8]), ([9, 7], [9]), ([10], [10]), ([11, 10], [10, 11]), ([12, 10, 10], [10, 12]), ([13], [13]), ([14, 13], [13, 14]), ([15, 13], [13, 15]), ([16, 13], [13, 16]), ([17, 13, 13], [13, 17]), ([18, 13], [13, 18]), ([13, 19, 10], [10, 13, 19]), ([10, 20], [10, 20])])
def q24.B4 : List Nat := [0, 1, 0, 4, 12, 28, 0, 64, 252, 511, 1023, 2047, 4095, 8191, 16383, 32767, 65535, 131071, 262143, 524287, 1048575, 2097151]
theorem q24.tab4 : rtab .any (opsOf Tryz.f24 4) = q24.T4 := by kernel_rfl
theorem q24.bits4 : waitsOk q24.T4.2 q24.B4 = true := by kernel_rfl
def q24.T10 : Bool × List (List Nat × List Nat) := (true, [([], []), ([0], [0]), ([1], [1]), ([2], [2]), ([], []), ([], []), ([], []), ([6], [6]), ([5, 7], [5, 7]), ([3, 4, 8], [3, 4, 8])])
def q24.B10 : List Nat := [0, 1, 3, 7, 0, 0, 0, 64, 224, 511]
theorem q24.tab10 : rtab .any (opsOf Tryz.f24 10) = q24.T10 := by kernel_rfl
theorem q24.bits10 : waitsOk q24.T10.2 q24.B10 = true := by kernel_rfl
theorem append_full {D : Dk} {k : ByteArray} {b : List Int} (h : (b.length : Int) > D.lim - usedL D.L ∨ (lk k D.L = none ∧ 16 ≤ D.L.length)) : D.append k b = (D, 3) := by unfold Dk.append; rw [if_pos h]
theorem append_down {D : Dk} {k : ByteArray} {b : List Int} (h : ¬ ((b.length : Int) > D.lim - usedL D.L ∨ (lk k D.L = none ∧ 16 ≤ D.L.length))) (hs : D.step = none) : D.append k b = (D, 23) := by unfold Dk.append; rw [if_neg h, hs]
theorem append_ok {D D1 : Dk} {k : ByteArray} {b : List Int} (h : ¬ ((b.length : Int) > D.lim - usedL D.L ∨ (lk k D.L = none ∧ 16 ≤ D.L.length))) (hs : D.step = some D1) : D.append k b = (D1.put k ⟨(Fl.orNone (lk k D.L)).b ++ b, (Fl.orNone (lk k D.L)).s⟩, 0) := by unfold Dk.append; rw [if_neg h, hs]
theorem orNone_ok {D : Dk} (ok : DkOk D) (k : ByteArray) : FlOk (Fl.orNone (lk k D.L)) := by
 cases e : lk k D.L with
 | none => exact ⟨by simp [Fl.orNone], by simp [Fl.orNone], by simp [Fl.orNone]⟩
 | some f => exact lk_ok ok e
theorem orNone_len {D : Dk} (k : ByteArray) : ((Fl.orNone (lk k D.L)).b.length : Int) = lenAt k D.L := by
 unfold lenAt
 cases e : lk k D.L with
 | none => simp [Fl.orNone]
 | some f => rfl
theorem append_put_ok {D D1 : Dk} {k : ByteArray} {b : List Int} (ok : DkOk D) (hb : ∀ x ∈ b, 0 ≤ x ∧ x ≤ 255) (h : ¬ ((b.length : Int) > D.lim - usedL D.L ∨ (lk k D.L = none ∧ 16 ≤ D.L.length))) (hs : D.step = some D1) : DkOk (D1.put k ⟨(Fl.orNone (lk k D.L)).b ++ b, (Fl.orNone (lk k D.L)).s⟩) := by
 obtain ⟨ok1, hL, hl⟩ := step_ok ok hs
 have hf := orNone_ok ok k
 refine put_ok ok1 ⟨fun x hx => ?_, hf.s0, ?_⟩ ?_ ?_
 ·rcases List.mem_append.1 hx with hx | hx
  ·exact hf.u8 x hx
  ·exact hb x hx
 ·have := hf.s1; simp only [List.length_append]; omega
 ·have := orNone_len (D := D) k
  rw [hL, hl]
  have h2 : ¬ ((b.length : Int) > D.lim - usedL D.L) := fun hh => h (.inl hh)
  simp only [List.length_append]
  omega
 ·rw [hL]
  cases e : lk k D.L with
  | none => right; have h3 : ¬ 16 ≤ D.L.length := fun h16 => h (.inr ⟨e, h16⟩); omega
  | some f => left; rfl
theorem R_shape {w : World} {base : Nat} {ok : Nat → Prop} {v : Value} {xs : List Int} (hr : Kd.R (Kd.int .u8) 5 w base ok v xs) {b : Nat} (hat : v.ownBlock = some b) : ∃ cap, v = .slice (some ⟨b, 0, none⟩) xs.length cap ∧ xs.length ≤ cap ∧ base ≤ b := by
 have ho := Kd.own_of_R (h1 := int1) hr
 rcases ho.2 with ⟨e, _⟩ | ⟨g, cap, cur, e, hb, hh, hnc, hcm, hcs, htake⟩
 ·rw [e] at hat; cases hat
 ·rw [e] at hat
  cases hat
  exact ⟨cap, e, hnc, hb⟩
theorem fv_none (w : World) : FvAt w ⟨none, 0, 0, 0⟩ ⟨[], 0⟩ := ⟨rfl, rfl, Nat.le_refl _, Kd.C_nil _ _, fun _ => rfl, fun ad h => by cases h⟩
set_option maxRecDepth 100000 in
set_option maxHeartbeats 8000000 in
theorem Append_disk (w : World) (s : Nat) (F : Nat → Prop) (D : Dk) (k : ByteArray) (A : Option Addr) (c : Nat) (b : List Int) (hn : Named k) (hC : Kd.C (Kd.int .u8) w A b.length b) (hc : b.length ≤ c) (hu : ∀ x ∈ b, 0 ≤ x ∧ x ≤ 255) (hl : b.length ≤ 1000000000) (hA : ∀ ad, A = some ad → ¬ F ad.block) (h : SumpAt w s F D) :
  Calls Tryz.prog 24 #[.pointer (some ⟨s, 0, none⟩), .string k, .slice A b.length c] w (SumpOut s F (D.append k b) w) := by
 have HS := Aside0.mk h
 have HN := Aside0.mk hn
 have HC := Aside0.mk hC
 have HL := Aside0.mk hl
 have HA := Aside0.mk hA
 have HUB := Aside0.mk hu
 obtain ⟨nb, hnb⟩ : ∃ nb, nb = b.length := ⟨_, rfl⟩
 have HNB := Aside0.mk hnb
 rw [← hnb]
 obtain ⟨lim, hlim⟩ : ∃ lim, lim = D.lim := ⟨_, rfl⟩
 obtain ⟨ud, hud⟩ : ∃ ud, ud = usedL D.L := ⟨_, rfl⟩
 obtain ⟨fl, hfl⟩ : ∃ fl, fl = Fl.orNone (lk k D.L) := ⟨_, rfl⟩
 obtain ⟨th, hth⟩ : ∃ th, th = (lk k D.L).isSome := ⟨_, rfl⟩
 have HE := Aside0.mk (And.intro hlim (And.intro hud (And.intro hfl hth)))
 have HRG := Aside0.mk (show 0 ≤ ud ∧ ud ≤ lim ∧ lim ≤ 1048576 by have := used_nonneg D.L; have := h.ok.used; have := h.ok.lim1; omega)
 obtain ⟨fr, hfr⟩ : ∃ fr, fr = lim - ud := ⟨_, rfl⟩
 have hw0 : wrap64 (lim - ud) = fr := by rw [hfr]; exact wrap_in (by have := HRG.out; omega) (by have := HRG.out; omega)
 have HFR := Aside0.mk hfr
 have hg : ∃ (rk : Nat) (T : Tr FV) (u : FV), w.heap[s]? = some (.cells (sumpC D.lim rk D.fused D.steps) 54 (0, 0)) ∧ FvAt w u fl ∧ (∀ W, Below w.heap.size w W → Calls Tryz.prog 47 #[.pointer (some ⟨rk, 0, none⟩), .string k] W fun e w' => e = .returned (.tuple #[u.val, .bool th]) ∧ Below W.heap.size W w') ∧ ∀ W, Below w.heap.size w W → Calls Tryz.prog 49 #[.pointer (some ⟨rk, 0, none⟩)] W fun e w' => e = .returned (.int .i64 (D.L.length : Int)) ∧ w' = W := by
  obtain ⟨rk, T, hb, hr, hv, hF⟩ := h.ex
  refine ⟨rk, T, FV.orZero (lk k T.toL), hb, ?_, fun W hW => ?_, fun W hW => by have := Len_calls W rk T (hr.below hW); rwa [hv.length] at this⟩
  ·rcases hv.lk k with ⟨e1, e2⟩ | ⟨u, f, e1, e2, hu⟩
   ·rw [hfl, e1, e2]; exact fv_none w
   ·rw [hfl, e1, e2]; exact hu
  ·have := Get_calls W rk T k (hr.below hW)
   have e : (lk k T.toL).isSome = th := by
    rcases hv.lk k with ⟨e1, e2⟩ | ⟨u, f, e1, e2, hu⟩
    ·rw [hth, e1, e2]; rfl
    ·rw [hth, e1, e2]; rfl
   rw [e] at this
   exact this
 obtain ⟨rk, T, u, hb, hfu, hg, hln⟩ := hg
 have HLN := Aside0.mk hln
 clear hln
 have HBK := Aside0.mk hb
 have HFU := Aside0.mk hfu
 clear hn hC hu hl hA h hnb hlim hud hfl hth hb hfu hfr
 simp only [FV.val] at hg
 have HG := Aside0.mk hg
 clear hg
 go_enter Tryz.func24, Tryz.ntmps24
 go_upto_region 4 with (first
  | (go_at_call 46; refine (HN.out _).mono ?_; rintro e w1 ⟨rfl, hb⟩; have HB1 := Aside0.mk hb; have d1 : w1.cell? ⟨s, 1, none⟩ = some (.pointer (some ⟨rk, 0, none⟩)) := ((blk_cell (blk_below HBK.out hb) 1).trans rfl); have hg1 := HG.out w1 hb; clear hb)
  | (go_at_call 47; refine hg1.mono ?_; rintro e w2 ⟨rfl, hb⟩; have HB2 := Aside0.mk (HB1.out.trans (hb.mono HB1.out.size)); clear hb d1 hg1))
 have HB := Aside0.mk (HB2.out.alloc HB2.out.size (.cells #[.slice u.A u.n u.c, .int .i64 u.s] 51))
 have HBX := Aside0.mk (heap_alloc_new w2 (.cells #[.slice u.A u.n u.c, .int .i64 u.s] 51))
 obtain ⟨bx, hbx⟩ : ∃ bx, bx = w2.heap.size := ⟨_, rfl⟩
 have HBXE := Aside0.mk (show w.heap.size ≤ bx by have := HB2.out.size; omega)
 rw [← hbx] at HBX ⊢
 clear hbx HB1 HB2 HG
 generalize w2.alloc (.cells #[.slice u.A u.n u.c, .int .i64 u.s] 51) = W at HB HBX ⊢
 have n_S := Aside0.mk (HS.out.below (below_drew1 HB.out))
 have n_BX := Aside0.mk (blk_drew HBX.out)
 have n_B := Aside0.mk (below_drew1 HB.out)
 have n_K := Aside0.mk (blk_drew (blk_below HBK.out HB.out))
 clear HB HBX
 have hus : Calls Tryz.prog 48 #[.pointer (some ⟨s, 0, none⟩)] W.drew fun e w' => e = .returned (.int .i64 ud) ∧ Below W.drew.heap.size W.drew w' := by rw [HE.out.2.1]; exact Used_calls W.drew s F D n_S.out
 have HUS := Aside0.mk hus
 clear hus
 by_cases hfull : (nb : Int) > fr
 ·have hb1 : decide (fr < (nb : Int)) = true := decide_eq_true hfull
  have HFULL := Aside0.mk (append_full (D := D) (k := k) (b := b) (.inl (by have := HNB.out; have := HE.out; have := HFR.out; omega)))
  refine wp_mono (Q := fun e a w => e = .normal ∧ _) ?_ (fun e a w h => h.2)
  refine start_ (n := 22) (S := fun w' => w'.cell? ⟨s, 0, none⟩ = some (.int .i64 lim) ∧ w'.cell? ⟨s, 1, none⟩ = some (.pointer (some ⟨rk, 0, none⟩))) (ds := []) #[ff,ff,ff,ff,ff,ff,ff,ff,ff,ff,ff,ff,ff,ff,ff,ff,ff,ff,ff,ff,ff,ff] (by kernel_rfl) rfl rfl ⟨((blk_cell n_K.out 0).trans (by rw [HE.out.1]; rfl)), ((blk_cell n_K.out 1).trans rfl)⟩ (fun hHeld => ?_)
  refine with_tabW q24.tab4 q24.bits4 (fun HT_ HW_ => ?_)
  refine pure_ (i := 0) (N := some 22) (v := ?_) (a' := ?_) #[tt,ff,ff,ff,ff,ff,ff,ff,ff,ff,ff,ff,ff,ff,ff,ff,ff,ff,ff,ff,ff,ff] rfl rfl (any_of HT_.out (by kernel_rfl)) (fun _ _ _ h => nomatch h.1) (Or.inl ⟨by rfl, ?_⟩) ?_ ?_
  rotate_left
  ·intro w'
   go_simp
   with_reducible rfl
  rotate_left
  ·simp only [Act.put, sA, sB, sC, i64_w, i32_w]
   rfl
  refine pure_ (i := 1) (N := some 23) (v := ?_) (a' := ?_) #[tt,tt,ff,ff,ff,ff,ff,ff,ff,ff,ff,ff,ff,ff,ff,ff,ff,ff,ff,ff,ff,ff] rfl rfl (any_of HT_.out (by kernel_rfl)) (fun _ _ _ h => nomatch h.1) (Or.inl ⟨by rfl, ?_⟩) ?_ ?_
  rotate_left
  ·intro w'
   go_simp
   with_reducible rfl
  rotate_left
  ·simp only [Act.put, sA, sB, sC, i64_w, i32_w]
   rfl
  refine pure_ (i := 2) (N := some 24) (v := ?_) (a' := ?_) #[tt,tt,tt,ff,ff,ff,ff,ff,ff,ff,ff,ff,ff,ff,ff,ff,ff,ff,ff,ff,ff,ff] rfl rfl (any_of HT_.out (by kernel_rfl)) (fun _ _ _ h => nomatch h.1) (Or.inl ⟨by rfl, ?_⟩) ?_ ?_
  rotate_left
  ·intro w'
   go_simp
   with_reducible rfl
  rotate_left
  ·simp only [Act.put, sA, sB, sC, i64_w, i32_w]
   rfl
  refine pure_ (i := 3) (N := some 25) (v := ?_) (a' := ?_) #[tt,tt,tt,tt,ff,ff,ff,ff,ff,ff,ff,ff,ff,ff,ff,ff,ff,ff,ff,ff,ff,ff] rfl rfl (any_of HT_.out (by kernel_rfl)) (fun _ _ _ h => nomatch h.1) (Or.inl ⟨by rfl, ?_⟩) ?_ ?_
  rotate_left
  ·intro w'
   go_simp
   with_reducible rfl
  rotate_left
  ·simp only [Act.put, sA, sB, sC, i64_w, i32_w]
   rfl
  refine pure_ (i := 4) (N := some 26) (v := ?_) (a' := ?_) #[tt,tt,tt,tt,tt,ff,ff,ff,ff,ff,ff,ff,ff,ff,ff,ff,ff,ff,ff,ff,ff,ff] rfl rfl (any_of HT_.out (by kernel_rfl)) (fun _ _ _ h => nomatch h.1) (Or.inl ⟨by rfl, ?_⟩) ?_ ?_
  rotate_left
  ·intro w'
   go_simp
   with_reducible rfl
  rotate_left
  ·simp only [Act.put, sA, sB, sC, i64_w, i32_w]
   rfl
  refine pure_ (i := 6) (N := some 28) (v := ?_) (a' := ?_) #[tt,tt,tt,tt,tt,ff,tt,ff,ff,ff,ff,ff,ff,ff,ff,ff,ff,ff,ff,ff,ff,ff] rfl rfl (any_of HT_.out (by kernel_rfl)) (fun _ _ _ h => nomatch h.1) (Or.inl ⟨by rfl, ?_⟩) ?_ ?_
  rotate_left
  ·intro w'
   go_simp
   with_reducible rfl
  rotate_left
  ·simp only [Act.put, sA, sB, sC, i64_w, i32_w]
   rfl
  refine take_ (i := 5) (N := some 27) (v := ?_) (a' := ?_) #[tt,tt,tt,tt,tt,tt,tt,ff,ff,ff,ff,ff,ff,ff,ff,ff,ff,ff,ff,ff,ff,ff] rfl rfl (take_ofW HT_.out HW_.out (by kernel_rfl)) (fun _ _ _ h => nomatch h.1) (Or.inl ⟨by rfl, ?_⟩) hHeld ?_ ?_
  rotate_left
  ·rintro w' ⟨s0, s1⟩
   go_simp
   with_reducible rfl
  rotate_left
  ·simp only [Act.put, sA, sB, sC, i64_w, i32_w]
   rfl
  refine one_ (i := 7) (N := some 29) #[tt,tt,tt,tt,tt,tt,tt,tt,ff,ff,ff,ff,ff,ff,ff,ff,ff,ff,ff,ff,ff,ff] rfl rfl (one_of HT_.out (by kernel_rfl)) (by decide) (fun K hK => ?_)
  refine goes_ Tryz.func48 (by kernel_rfl) rfl #[.pointer (some ⟨s, 0, none⟩)] (by rfl) rfl rfl (by simp only [List.map_toArray, List.map_cons, List.map_nil]; rfl) ?_
  with_reducible refine (HUS.out).mono ?_
  rintro e w3 ⟨rfl, hb3⟩
  refine ⟨_, rfl, ?_⟩
  have p_S := Aside0.mk (n_S.out.below hb3)
  have p_BX := Aside0.mk (blk_below n_BX.out hb3)
  have p_B := Aside0.mk (n_B.out.trans (hb3.mono n_B.out.size))
  have p_K := Aside0.mk (blk_below n_K.out hb3)
  clear hb3 n_S n_BX n_B n_K HUS
  refine hK.out _ _ ⟨((blk_cell p_K.out 0).trans (by rw [HE.out.1]; rfl)), ((blk_cell p_K.out 1).trans rfl)⟩ (fun hHeld => ?_)
  clear hK K
  refine norm_ (a' := ?_) ?_ ?_
  rotate_left
  ·show Act.put _ (some 29) _ = _
   simp only [Act.put, sA, sB, sC, i64_w, i32_w]
   rfl
  refine pure_ (i := 8) (N := some 30) (v := ?_) (a' := ?_) #[tt,tt,tt,tt,tt,tt,tt,tt,tt,ff,ff,ff,ff,ff,ff,ff,ff,ff,ff,ff,ff,ff] rfl rfl (any_of HT_.out (by kernel_rfl)) (fun _ _ _ h => nomatch h.1) (Or.inl ⟨by rfl, ?_⟩) ?_ ?_
  rotate_left
  ·intro w'
   go_simp
   with_reducible rfl
  rotate_left
  ·simp only [Act.put, sA, sB, sC, i64_w, i32_w]
   rfl
  refine pure_ (i := 9) (N := some 31) (v := ?_) (a' := ?_) #[tt,tt,tt,tt,tt,tt,tt,tt,tt,tt,ff,ff,ff,ff,ff,ff,ff,ff,ff,ff,ff,ff] rfl rfl (any_of HT_.out (by kernel_rfl)) (fun _ _ _ h => nomatch h.1) (Or.inl ⟨by rfl, ?_⟩) ?_ ?_
  rotate_left
  ·intro w'
   go_simp
   with_reducible rfl
  rotate_left
  ·simp only [Act.put, sA, sB, sC, i64_w, i32_w]
   rfl
  refine pure_ (i := 10) (N := some 32) (v := ?_) (a' := ?_) #[tt,tt,tt,tt,tt,tt,tt,tt,tt,tt,tt,ff,ff,ff,ff,ff,ff,ff,ff,ff,ff,ff] rfl rfl (any_of HT_.out (by kernel_rfl)) (fun _ _ _ h => nomatch h.1) (Or.inl ⟨by rfl, ?_⟩) ?_ ?_
  rotate_left
  ·intro w'
   go_simp
   with_reducible rfl
  rotate_left
  ·simp only [Act.put, sA, sB, sC, i64_w, i32_w]
   rfl
  refine pure_ (i := 11) (N := some 33) (v := undef) (a' := ?_) #[tt,tt,tt,tt,tt,tt,tt,tt,tt,tt,tt,tt,ff,ff,ff,ff,ff,ff,ff,ff,ff,ff] rfl rfl (any_of HT_.out (by kernel_rfl)) (fun _ _ _ h => nomatch h.1) (Or.inr ⟨by rfl, rfl⟩) ?_ ?_
  rotate_left
  ·simp only [Act.put, sA, sB, sC, i64_w, i32_w]
   rfl
  refine pure_ (i := 12) (N := some 34) (v := undef) (a' := ?_) #[tt,tt,tt,tt,tt,tt,tt,tt,tt,tt,tt,tt,tt,ff,ff,ff,ff,ff,ff,ff,ff,ff] rfl rfl (any_of HT_.out (by kernel_rfl)) (fun _ _ _ h => nomatch h.1) (Or.inr ⟨by rfl, rfl⟩) ?_ ?_
  rotate_left
  ·simp only [Act.put, sA, sB, sC, i64_w, i32_w]
   rfl
  refine pure_ (i := 13) (N := some 35) (v := undef) (a' := ?_) #[tt,tt,tt,tt,tt,tt,tt,tt,tt,tt,tt,tt,tt,tt,ff,ff,ff,ff,ff,ff,ff,ff] rfl rfl (any_of HT_.out (by kernel_rfl)) (fun _ _ _ h => nomatch h.1) (Or.inr ⟨by rfl, rfl⟩) ?_ ?_
  rotate_left
  ·simp only [Act.put, sA, sB, sC, i64_w, i32_w]
   rfl
  refine pure_ (i := 14) (N := some 36) (v := undef) (a' := ?_) #[tt,tt,tt,tt,tt,tt,tt,tt,tt,tt,tt,tt,tt,tt,tt,ff,ff,ff,ff,ff,ff,ff] rfl rfl (any_of HT_.out (by kernel_rfl)) (fun _ _ _ h => nomatch h.1) (Or.inr ⟨by rfl, rfl⟩) ?_ ?_
  rotate_left
  ·simp only [Act.put, sA, sB, sC, i64_w, i32_w]
   rfl
  refine pure_ (i := 15) (N := some 37) (v := undef) (a' := ?_) #[tt,tt,tt,tt,tt,tt,tt,tt,tt,tt,tt,tt,tt,tt,tt,tt,ff,ff,ff,ff,ff,ff] rfl rfl (any_of HT_.out (by kernel_rfl)) (fun _ _ _ h => nomatch h.1) (Or.inr ⟨by rfl, rfl⟩) ?_ ?_
  rotate_left
  ·simp only [Act.put, sA, sB, sC, i64_w, i32_w]
   rfl
  refine pure_ (i := 16) (N := some 38) (v := undef) (a' := ?_) #[tt,tt,tt,tt,tt,tt,tt,tt,tt,tt,tt,tt,tt,tt,tt,tt,tt,ff,ff,ff,ff,ff] rfl rfl (any_of HT_.out (by kernel_rfl)) (fun _ _ _ h => nomatch h.1) (Or.inr ⟨by rfl, rfl⟩) ?_ ?_
  rotate_left
  ·simp only [Act.put, sA, sB, sC, i64_w, i32_w]
   rfl
  refine pure_ (i := 17) (N := some 39) (v := undef) (a' := ?_) #[tt,tt,tt,tt,tt,tt,tt,tt,tt,tt,tt,tt,tt,tt,tt,tt,tt,tt,ff,ff,ff,ff] rfl rfl (any_of HT_.out (by kernel_rfl)) (fun _ _ _ h => nomatch h.1) (Or.inr ⟨by rfl, rfl⟩) ?_ ?_
  rotate_left
  ·simp only [Act.put, sA, sB, sC, i64_w, i32_w]
   rfl
  refine pure_ (i := 18) (N := some 40) (v := undef) (a' := ?_) #[tt,tt,tt,tt,tt,tt,tt,tt,tt,tt,tt,tt,tt,tt,tt,tt,tt,tt,tt,ff,ff,ff] rfl rfl (any_of HT_.out (by kernel_rfl)) (fun _ _ _ h => nomatch h.1) (Or.inr ⟨by rfl, rfl⟩) ?_ ?_
  rotate_left
  ·simp only [Act.put, sA, sB, sC, i64_w, i32_w]
   rfl
  refine pure_ (i := 19) (N := some 41) (v := undef) (a' := ?_) #[tt,tt,tt,tt,tt,tt,tt,tt,tt,tt,tt,tt,tt,tt,tt,tt,tt,tt,tt,tt,ff,ff] rfl rfl (any_of HT_.out (by kernel_rfl)) (fun _ _ _ h => nomatch h.1) (Or.inr ⟨by rfl, rfl⟩) ?_ ?_
  rotate_left
  ·simp only [Act.put, sA, sB, sC, i64_w, i32_w]
   rfl
  refine pure_ (i := 20) (N := some 42) (v := undef) (a' := ?_) #[tt,tt,tt,tt,tt,tt,tt,tt,tt,tt,tt,tt,tt,tt,tt,tt,tt,tt,tt,tt,tt,ff] rfl rfl (any_of HT_.out (by kernel_rfl)) (fun _ _ _ h => nomatch h.1) (Or.inr ⟨by rfl, rfl⟩) ?_ ?_
  rotate_left
  ·simp only [Act.put, sA, sB, sC, i64_w, i32_w]
   rfl
  refine pure_ (i := 21) (N := some 43) (v := ?_) (a' := ?_) #[tt,tt,tt,tt,tt,tt,tt,tt,tt,tt,tt,tt,tt,tt,tt,tt,tt,tt,tt,tt,tt,tt] rfl rfl (any_of HT_.out (by kernel_rfl)) (fun _ _ _ h => nomatch h.1) (Or.inl ⟨by rfl, ?_⟩) ?_ ?_
  rotate_left
  ·intro w'
   go_simp
   with_reducible rfl
  rotate_left
  ·simp only [Act.put, sA, sB, sC, i64_w, i32_w]
   rfl
  refine done_ (done_of HT_.out (by kernel_rfl)) ?_
  refine ⟨rfl, ?_⟩
  clear hHeld HT_ HW_
  go_wp2
  refine bodyPost_ret (v := .int .i64 3) (by simp [results, Tryz.results24, go_sem]) rfl ?_
  rw [HFULL.out]
  exact ⟨rfl, Mut.of_below p_B.out, F, p_S.out, fun _ h => .inl h⟩
 ·have hb1 : decide (fr < (nb : Int)) = false := decide_eq_false hfull
  cases th with
  | true =>
   have HNF := Aside0.mk (show ¬ ((b.length : Int) > D.lim - usedL D.L ∨ (lk k D.L = none ∧ 16 ≤ D.L.length)) by
    have h1 := HNB.out; have h2 := HE.out; have h3 := HFR.out
    rintro (h | ⟨h, _⟩)
    ·omega
    ·have h4 := h2.2.2.2; rw [h] at h4; cases h4)
   refine wp_mono (Q := fun e a w => e = .normal ∧ _) ?_ (fun e a w h => h.2)
   refine start_ (n := 22) (S := fun w' => w'.cell? ⟨s, 0, none⟩ = some (.int .i64 lim) ∧ w'.cell? ⟨s, 1, none⟩ = some (.pointer (some ⟨rk, 0, none⟩))) (ds := []) #[ff,ff,ff,ff,ff,ff,ff,ff,ff,ff,ff,ff,ff,ff,ff,ff,ff,ff,ff,ff,ff,ff] (by kernel_rfl) rfl rfl ⟨((blk_cell n_K.out 0).trans (by rw [HE.out.1]; rfl)), ((blk_cell n_K.out 1).trans rfl)⟩ (fun hHeld => ?_)
   refine with_tabW q24.tab4 q24.bits4 (fun HT_ HW_ => ?_)
   refine pure_ (i := 0) (N := some 22) (v := ?_) (a' := ?_) #[tt,ff,ff,ff,ff,ff,ff,ff,ff,ff,ff,ff,ff,ff,ff,ff,ff,ff,ff,ff,ff,ff] rfl rfl (any_of HT_.out (by kernel_rfl)) (fun _ _ _ h => nomatch h.1) (Or.inl ⟨by rfl, ?_⟩) ?_ ?_
   rotate_left
   ·intro w'
    go_simp
    with_reducible rfl
   rotate_left
   ·simp only [Act.put, sA, sB, sC, i64_w, i32_w]
    rfl
   refine pure_ (i := 1) (N := some 23) (v := ?_) (a' := ?_) #[tt,tt,ff,ff,ff,ff,ff,ff,ff,ff,ff,ff,ff,ff,ff,ff,ff,ff,ff,ff,ff,ff] rfl rfl (any_of HT_.out (by kernel_rfl)) (fun _ _ _ h => nomatch h.1) (Or.inl ⟨by rfl, ?_⟩) ?_ ?_
   rotate_left
   ·intro w'
    go_simp
    with_reducible rfl
   rotate_left
   ·simp only [Act.put, sA, sB, sC, i64_w, i32_w]
    rfl
   refine pure_ (i := 2) (N := some 24) (v := ?_) (a' := ?_) #[tt,tt,tt,ff,ff,ff,ff,ff,ff,ff,ff,ff,ff,ff,ff,ff,ff,ff,ff,ff,ff,ff] rfl rfl (any_of HT_.out (by kernel_rfl)) (fun _ _ _ h => nomatch h.1) (Or.inl ⟨by rfl, ?_⟩) ?_ ?_
   rotate_left
   ·intro w'
    go_simp
    with_reducible rfl
   rotate_left
   ·simp only [Act.put, sA, sB, sC, i64_w, i32_w]
    rfl
   refine pure_ (i := 3) (N := some 25) (v := ?_) (a' := ?_) #[tt,tt,tt,tt,ff,ff,ff,ff,ff,ff,ff,ff,ff,ff,ff,ff,ff,ff,ff,ff,ff,ff] rfl rfl (any_of HT_.out (by kernel_rfl)) (fun _ _ _ h => nomatch h.1) (Or.inl ⟨by rfl, ?_⟩) ?_ ?_
   rotate_left
   ·intro w'
    go_simp
    with_reducible rfl
   rotate_left
   ·simp only [Act.put, sA, sB, sC, i64_w, i32_w]
    rfl
   refine pure_ (i := 4) (N := some 26) (v := ?_) (a' := ?_) #[tt,tt,tt,tt,tt,ff,ff,ff,ff,ff,ff,ff,ff,ff,ff,ff,ff,ff,ff,ff,ff,ff] rfl rfl (any_of HT_.out (by kernel_rfl)) (fun _ _ _ h => nomatch h.1) (Or.inl ⟨by rfl, ?_⟩) ?_ ?_
   rotate_left
   ·intro w'
    go_simp
    with_reducible rfl
   rotate_left
   ·simp only [Act.put, sA, sB, sC, i64_w, i32_w]
    rfl
   refine pure_ (i := 6) (N := some 28) (v := ?_) (a' := ?_) #[tt,tt,tt,tt,tt,ff,tt,ff,ff,ff,ff,ff,ff,ff,ff,ff,ff,ff,ff,ff,ff,ff] rfl rfl (any_of HT_.out (by kernel_rfl)) (fun _ _ _ h => nomatch h.1) (Or.inl ⟨by rfl, ?_⟩) ?_ ?_
   rotate_left
   ·intro w'
    go_simp
    with_reducible rfl
   rotate_left
   ·simp only [Act.put, sA, sB, sC, i64_w, i32_w]
    rfl
   refine take_ (i := 5) (N := some 27) (v := ?_) (a' := ?_) #[tt,tt,tt,tt,tt,tt,tt,ff,ff,ff,ff,ff,ff,ff,ff,ff,ff,ff,ff,ff,ff,ff] rfl rfl (take_ofW HT_.out HW_.out (by kernel_rfl)) (fun _ _ _ h => nomatch h.1) (Or.inl ⟨by rfl, ?_⟩) hHeld ?_ ?_
   rotate_left
   ·rintro w' ⟨s0, s1⟩
    go_simp
    with_reducible rfl
   rotate_left
   ·simp only [Act.put, sA, sB, sC, i64_w, i32_w]
    rfl
   refine one_ (i := 7) (N := some 29) #[tt,tt,tt,tt,tt,tt,tt,tt,ff,ff,ff,ff,ff,ff,ff,ff,ff,ff,ff,ff,ff,ff] rfl rfl (one_of HT_.out (by kernel_rfl)) (by decide) (fun K hK => ?_)
   refine goes_ Tryz.func48 (by kernel_rfl) rfl #[.pointer (some ⟨s, 0, none⟩)] (by rfl) rfl rfl (by simp only [List.map_toArray, List.map_cons, List.map_nil]; rfl) ?_
   with_reducible refine (HUS.out).mono ?_
   rintro e w3 ⟨rfl, hb3⟩
   refine ⟨_, rfl, ?_⟩
   have p_S := Aside0.mk (n_S.out.below hb3)
   have p_BX := Aside0.mk (blk_below n_BX.out hb3)
   have p_B := Aside0.mk (n_B.out.trans (hb3.mono n_B.out.size))
   have p_K := Aside0.mk (blk_below n_K.out hb3)
   clear hb3 n_S n_BX n_B n_K HUS
   refine hK.out _ _ ⟨((blk_cell p_K.out 0).trans (by rw [HE.out.1]; rfl)), ((blk_cell p_K.out 1).trans rfl)⟩ (fun hHeld => ?_)
   clear hK K
   refine norm_ (a' := ?_) ?_ ?_
   rotate_left
   ·show Act.put _ (some 29) _ = _
    simp only [Act.put, sA, sB, sC, i64_w, i32_w]
    rfl
   refine pure_ (i := 8) (N := some 30) (v := ?_) (a' := ?_) #[tt,tt,tt,tt,tt,tt,tt,tt,tt,ff,ff,ff,ff,ff,ff,ff,ff,ff,ff,ff,ff,ff] rfl rfl (any_of HT_.out (by kernel_rfl)) (fun _ _ _ h => nomatch h.1) (Or.inl ⟨by rfl, ?_⟩) ?_ ?_
   rotate_left
   ·intro w'
    go_simp
    with_reducible rfl
   rotate_left
   ·simp only [Act.put, sA, sB, sC, i64_w, i32_w]
    rfl
   refine pure_ (i := 9) (N := some 31) (v := ?_) (a' := ?_) #[tt,tt,tt,tt,tt,tt,tt,tt,tt,tt,ff,ff,ff,ff,ff,ff,ff,ff,ff,ff,ff,ff] rfl rfl (any_of HT_.out (by kernel_rfl)) (fun _ _ _ h => nomatch h.1) (Or.inl ⟨by rfl, ?_⟩) ?_ ?_
   rotate_left
   ·intro w'
    go_simp
    with_reducible rfl
   rotate_left
   ·simp only [Act.put, sA, sB, sC, i64_w, i32_w]
    rfl
   refine pure_ (i := 10) (N := some 32) (v := ?_) (a' := ?_) #[tt,tt,tt,tt,tt,tt,tt,tt,tt,tt,tt,ff,ff,ff,ff,ff,ff,ff,ff,ff,ff,ff] rfl rfl (any_of HT_.out (by kernel_rfl)) (fun _ _ _ h => nomatch h.1) (Or.inl ⟨by rfl, ?_⟩) ?_ ?_
   rotate_left
   ·intro w'
    go_simp
    with_reducible rfl
   rotate_left
   ·simp only [Act.put, sA, sB, sC, i64_w, i32_w]
    rfl
   refine pure_ (i := 11) (N := some 33) (v := ?_) (a' := ?_) #[tt,tt,tt,tt,tt,tt,tt,tt,tt,tt,tt,tt,ff,ff,ff,ff,ff,ff,ff,ff,ff,ff] rfl rfl (any_of HT_.out (by kernel_rfl)) (fun _ _ _ h => nomatch h.1) (Or.inl ⟨by rfl, ?_⟩) ?_ ?_
   rotate_left
   ·intro w'
    go_simp
    with_reducible rfl
   rotate_left
   ·simp only [Act.put, sA, sB, sC, i64_w, i32_w]
    rfl
   refine pure_ (i := 12) (N := some 34) (v := ?_) (a' := ?_) #[tt,tt,tt,tt,tt,tt,tt,tt,tt,tt,tt,tt,tt,ff,ff,ff,ff,ff,ff,ff,ff,ff] rfl rfl (any_of HT_.out (by kernel_rfl)) (fun _ _ _ h => nomatch h.1) (Or.inl ⟨by rfl, ?_⟩) ?_ ?_
   rotate_left
   ·intro w'
    go_simp
    with_reducible rfl
   rotate_left
   ·simp only [Act.put, sA, sB, sC, i64_w, i32_w]
    rfl
   refine pure_ (i := 13) (N := some 35) (v := ?_) (a' := ?_) #[tt,tt,tt,tt,tt,tt,tt,tt,tt,tt,tt,tt,tt,tt,ff,ff,ff,ff,ff,ff,ff,ff] rfl rfl (any_of HT_.out (by kernel_rfl)) (fun _ _ _ h => nomatch h.1) (Or.inl ⟨by rfl, ?_⟩) ?_ ?_
   rotate_left
   ·intro w'
    go_simp
    with_reducible rfl
   rotate_left
   ·simp only [Act.put, sA, sB, sC, i64_w, i32_w]
    rfl
   refine pure_ (i := 14) (N := some 36) (v := undef) (a' := ?_) #[tt,tt,tt,tt,tt,tt,tt,tt,tt,tt,tt,tt,tt,tt,tt,ff,ff,ff,ff,ff,ff,ff] rfl rfl (any_of HT_.out (by kernel_rfl)) (fun _ _ _ h => nomatch h.1) (Or.inr ⟨by rfl, rfl⟩) ?_ ?_
   rotate_left
   ·simp only [Act.put, sA, sB, sC, i64_w, i32_w]
    rfl
   refine pure_ (i := 15) (N := some 37) (v := undef) (a' := ?_) #[tt,tt,tt,tt,tt,tt,tt,tt,tt,tt,tt,tt,tt,tt,tt,tt,ff,ff,ff,ff,ff,ff] rfl rfl (any_of HT_.out (by kernel_rfl)) (fun _ _ _ h => nomatch h.1) (Or.inr ⟨by rfl, rfl⟩) ?_ ?_
   rotate_left
   ·simp only [Act.put, sA, sB, sC, i64_w, i32_w]
    rfl
   refine pure_ (i := 16) (N := some 38) (v := undef) (a' := ?_) #[tt,tt,tt,tt,tt,tt,tt,tt,tt,tt,tt,tt,tt,tt,tt,tt,tt,ff,ff,ff,ff,ff] rfl rfl (any_of HT_.out (by kernel_rfl)) (fun _ _ _ h => nomatch h.1) (Or.inr ⟨by rfl, rfl⟩) ?_ ?_
   rotate_left
   ·simp only [Act.put, sA, sB, sC, i64_w, i32_w]
    rfl
   refine pure_ (i := 17) (N := some 39) (v := undef) (a' := ?_) #[tt,tt,tt,tt,tt,tt,tt,tt,tt,tt,tt,tt,tt,tt,tt,tt,tt,tt,ff,ff,ff,ff] rfl rfl (any_of HT_.out (by kernel_rfl)) (fun _ _ _ h => nomatch h.1) (Or.inr ⟨by rfl, rfl⟩) ?_ ?_
   rotate_left
   ·simp only [Act.put, sA, sB, sC, i64_w, i32_w]
    rfl
   refine pure_ (i := 18) (N := some 40) (v := undef) (a' := ?_) #[tt,tt,tt,tt,tt,tt,tt,tt,tt,tt,tt,tt,tt,tt,tt,tt,tt,tt,tt,ff,ff,ff] rfl rfl (any_of HT_.out (by kernel_rfl)) (fun _ _ _ h => nomatch h.1) (Or.inr ⟨by rfl, rfl⟩) ?_ ?_
   rotate_left
   ·simp only [Act.put, sA, sB, sC, i64_w, i32_w]
    rfl
   refine pure_ (i := 19) (N := some 41) (v := undef) (a' := ?_) #[tt,tt,tt,tt,tt,tt,tt,tt,tt,tt,tt,tt,tt,tt,tt,tt,tt,tt,tt,tt,ff,ff] rfl rfl (any_of HT_.out (by kernel_rfl)) (fun _ _ _ h => nomatch h.1) (Or.inr ⟨by rfl, rfl⟩) ?_ ?_
   rotate_left
   ·simp only [Act.put, sA, sB, sC, i64_w, i32_w]
    rfl
   refine pure_ (i := 20) (N := some 42) (v := ?_) (a' := ?_) #[tt,tt,tt,tt,tt,tt,tt,tt,tt,tt,tt,tt,tt,tt,tt,tt,tt,tt,tt,tt,tt,ff] rfl rfl (any_of HT_.out (by kernel_rfl)) (fun _ _ _ h => nomatch h.1) (Or.inl ⟨by rfl, ?_⟩) ?_ ?_
   rotate_left
   ·intro w'
    go_simp
    with_reducible rfl
   rotate_left
   ·simp only [Act.put, sA, sB, sC, i64_w, i32_w]
    rfl
   refine pure_ (i := 21) (N := some 43) (v := ?_) (a' := ?_) #[tt,tt,tt,tt,tt,tt,tt,tt,tt,tt,tt,tt,tt,tt,tt,tt,tt,tt,tt,tt,tt,tt] rfl rfl (any_of HT_.out (by kernel_rfl)) (fun _ _ _ h => nomatch h.1) (Or.inl ⟨by rfl, ?_⟩) ?_ ?_
   rotate_left
   ·intro w'
    go_simp
    with_reducible rfl
   rotate_left
   ·simp only [Act.put, sA, sB, sC, i64_w, i32_w]
    rfl
   refine done_ (done_of HT_.out (by kernel_rfl)) ?_
   refine ⟨rfl, ?_⟩
   clear hHeld HT_ HW_
   go_upto_region 6 with fail
   have hcs := step_calls w3 s F D p_S.out
   have HSUB := Aside0.mk (fun i (e : i = s) => (show F i by obtain ⟨rk, T, _, _, _, hF⟩ := HS.out.ex; exact (hF i).2 (.inl e)))
   cases hst : D.step with
   | none =>
    have HE2 := Aside0.mk (append_down HNF.out hst)
    have HST := Aside0.mk hst
    clear hst
    go_wp2_with (go_at_call 50; refine hcs.mono ?_; rintro e w4 ⟨hret, hmu, hdk⟩; rw [HST.out] at hret; simp only [Option.isSome] at hret; subst hret; have HMU := Aside0.mk hmu; have HDK := Aside0.mk (hdk D (.inl ⟨rfl, HST.out⟩)); clear hcs hmu hdk)
    refine bodyPost_ret (v := .int .i64 23) (by simp [results, Tryz.results24, go_sem]) rfl ?_
    rw [HE2.out]
    exact SumpOut.of (Mut.of_below p_B.out) ⟨rfl, HMU.out.mono (fun i e _ => HSUB.out i e), F, HDK.out, fun _ h => .inl h⟩
   | some D1 =>
    have HE2 := Aside0.mk (append_ok HNF.out hst)
    have HPO := Aside0.mk (append_put_ok HS.out.ok HUB.out HNF.out hst)
    have HST := Aside0.mk hst
    clear hst
    go_upto_region 8 with (go_at_call 50; refine hcs.mono ?_; rintro e w4 ⟨hret, hmu, hdk⟩; rw [HST.out] at hret; simp only [Option.isSome] at hret; subst hret; have HMU := Aside0.mk hmu; have HDK := Aside0.mk (hdk D1 (.inr HST.out)); clear hcs hmu hdk)
    have hnx : bx ≠ s := fun e => by have := HS.out.s_lt; have := HBXE.out; omega
    have q_BX := Aside0.mk (HMU.out.blk p_BX.out hnx)
    have d0 := blk_cell q_BX.out 0
    have hun : u.n = fl.b.length := HFU.out.n
    have hus : u.s = fl.s := HFU.out.s
    obtain ⟨m, hm⟩ : ∃ m : Nat, m = u.n + nb := ⟨_, rfl⟩
    have hfl : fl.b.length ≤ 1048576 := by
     have h1 := HE.out.2.2.1; have h2 := orNone_len (D := D) k; have h3 := HRG.out; have h4 := HE.out.2.1
     rw [h1]
     have h5 : lenAt k D.L ≤ usedL D.L := by
      unfold lenAt
      cases e : lk k D.L with
      | none => exact used_nonneg _
      | some f => exact used_mem ((lk_mem _ HS.out.ok.rise).1 e)
     omega
    have hnbl : nb ≤ 1000000000 := by have := HNB.out; have := HL.out; omega
    have hwq : wrap64 ((u.n : Int) + (nb : Int)) = (m : Int) := by rw [wrap_in (by omega) (by omega), hm]; omega
    have HWQ := Aside0.mk hwq
    have HM := Aside0.mk (And.intro hm (And.intro hun (And.intro hus (And.intro hfl hnbl))))
    have p_FU := Aside0.mk ((HFU.out.keep (fun i cs hc => p_B.out.block i (blk_lt hc))).mut HMU.out (fun i e hi => by subst e; obtain ⟨cs, t, hc, ht⟩ := p_S.out.foot i (HSUB.out _ rfl); exact ⟨cs, t, hc, ht⟩))
    have p_CB := Aside0.mk (C_mut (F := fun i => i = s) (Kd.C_below HC.out p_B.out) HMU.out (fun ad e h => HA.out ad e (HSUB.out _ h)))
    clear hnx hm hun hus hfl hnbl
    go_upto_region 9 with (at_make; go_loud (refine Kd.R_make (Kd.int .u8) (w0 := w4) w4.heap.size 5 rfl rfl 22 (.tmp 52) (.tmp 52) rfl (wrap64 ((u.n : Int) + (nb : Int))) rfl rfl Tryz.underlying22 (.int .u8 0) 1 info5 rfl (by decide) (by omega) 0 (ok := fun _ => True) (okp := fun _ => False) rfl (fun _ _ => trivial) trivial (by rw [HWQ.out]; exact Int.natCast_nonneg _) (by have := HM.out; rw [HWQ.out, Int.toNat_natCast]; omega) (Below.refl _ w4) (Nat.le_refl _) ?_; intro v1 w5 hr hb hg hat; obtain ⟨g, hg0, hg1⟩ := hat; rw [HWQ.out, Int.toNat_natCast] at hr; obtain ⟨cap, hv1, hcap, hbg⟩ := R_shape hr hg0; rw [List.length_replicate] at hv1 hcap; subst hv1; have HR5 := Aside0.mk hr; have HB5 := Aside0.mk hb; have HCAP := Aside0.mk (And.intro hcap hbg); clear hr hb hg hg0 hg1 hcap hbg d0))
    have hm := HM.out
    obtain ⟨w6, run1, hr6, hg6⟩ := copy_into (k := 0) (dl := m) (ad := some ⟨g, 0, none⟩) 3 HR5.out (Kd.C_below p_FU.out.rd HB5.out) (by omega) (by omega) (fun _ => rfl) (c := u.c)
    rw [Nat.sub_zero, ← hm.2.1] at run1
    have hb6 : Below w4.heap.size w4 w6 := HB5.out.grown hg6 HB5.out.size (fun i hi => by cases hi; exact HCAP.out.2)
    have hcut := cut_at (some ⟨g, 0, none⟩) m cap u.n (by omega)
    obtain ⟨ad2, had2⟩ : ∃ ad2, ad2 = (if cap = u.n then some ⟨g, 0, none⟩ else (some (⟨g, 0, none⟩ : Addr)).map (·.add u.n)) := ⟨_, rfl⟩
    rw [← had2] at hcut
    obtain ⟨w7, run2, hr7, hg7⟩ := copy_into (k := u.n) (dl := m - u.n) (ad := ad2) 3 hr6 (Kd.C_below p_CB.out hb6) (by have := HNB.out; omega) (by have := HNB.out; omega) (fun h => by rw [had2, if_neg (by have := HCAP.out; have := HNB.out; omega)]; exact congrArg some (add_off g u.n)) (c := c)
    rw [← HNB.out] at run2
    have hb7 : Below w4.heap.size w4 w7 := hb6.grown hg7 hb6.size (fun i hi => by cases hi; exact HCAP.out.2)
    have hlist : (List.take u.n (List.take 0 (List.replicate m (0 : Int)) ++ fl.b ++ List.drop (0 + fl.b.length) (List.replicate m 0)) ++ b ++ List.drop (u.n + b.length) (List.take 0 (List.replicate m (0 : Int)) ++ fl.b ++ List.drop (0 + fl.b.length) (List.replicate m 0))) = fl.b ++ b := by
     have hz : List.drop (u.n + b.length) (List.take 0 (List.replicate m (0 : Int)) ++ fl.b ++ List.drop (0 + fl.b.length) (List.replicate m 0)) = [] := by
      apply List.drop_eq_nil_of_le
      have := HNB.out
      simp only [List.take_zero, List.nil_append, List.length_append, List.length_drop, List.length_replicate]
      omega
     rw [hz, List.append_nil, List.take_zero, List.nil_append, hm.2.1, List.take_left]
    rw [hlist] at hr7
    have HB7 := Aside0.mk hb7
    obtain ⟨u7, hu7, hs7, hv7⟩ := FvAt.of_own (f := ⟨fl.b ++ b, fl.s⟩) hr7
    obtain rfl : u7 = ⟨some ⟨g, 0, none⟩, m, cap, u.s⟩ := by
     obtain ⟨a1, a2, a3, a4⟩ := u7
     cases hu7
     simp only at hs7
     rw [hm.2.2.1.trans hs7.symm]
    have HV7 := Aside0.mk hv7
    clear hr6 hr7 hg6 hg7 hb6 hb7 had2 hlist hv7 hs7 hu7 hm
    have d0 := blk_cell (blk_below q_BX.out HB5.out) 0
    go_upto_region 10 with (first | (at_builtin; refine Lib.wpList_copy_run _ rfl (.tmp 55) (.tmp 57) 22 22 rfl _ _ rfl rfl run1 ?_; clear run1) | (at_builtin; refine Lib.wpList_copy_run _ rfl (.tmp 59) (.tmp 60) 22 22 rfl _ _ rfl rfl run2 ?_; clear run2 hcut))
    have HD7 := Aside0.mk ((HDK.out.below HB7.out).below (w' := w7.drew) ⟨rfl, rfl, rfl, Nat.le_refl _, fun _ _ => rfl⟩)
    have r_BX := Aside0.mk (blk_drew (blk_below q_BX.out HB7.out))
    have HV8 := Aside0.mk (HV7.out.keep (w' := w7.drew) (fun _ _ _ => rfl))
    obtain ⟨rk4, T4, hb4, hr4, hv4, hF4⟩ := HD7.out.ex
    have r_K := Aside0.mk hb4
    have hfew4 := SumpAt.few (rk := rk4) (w := w7.drew) (s := s) (F := F) HD7.out.ok hv4
    have hc := Put_calls w7.drew rk4 T4 k ⟨some ⟨g, 0, none⟩, m, cap, u.s⟩ hr4 (by omega)
    have H4 := Aside0.mk (And.intro hr4 (And.intro hv4 hF4))
    have HMD := Aside0.mk ((HMU.out.mono (F' := F) (fun i e _ => HSUB.out i e)).trans (F := F) (Mut.of_below (F := F) HB7.out).drew (fun _ e => e) (fun i e _ => e))
    clear hb4 hr4 hv4 hF4 hfew4 d0
    refine wp_mono (Q := fun e a w => e = .normal ∧ _) ?_ (fun e a w h => h.2)
    refine start_ (n := 10) (S := fun w' => w'.cell? ⟨s, 1, none⟩ = some (.pointer (some ⟨rk4, 0, none⟩)) ∧ w'.cell? ⟨bx, 1, none⟩ = some (.int .i64 u.s)) (ds := []) #[ff,ff,ff,ff,ff,ff,ff,ff,ff,ff] (by kernel_rfl) rfl rfl ⟨((blk_cell r_K.out 1).trans rfl), ((blk_cell r_BX.out 1).trans rfl)⟩ (fun hHeld => ?_)
    refine with_tabW q24.tab10 q24.bits10 (fun HT_ HW_ => ?_)
    refine pure_ (i := 0) (N := some 62) (v := ?_) (a' := ?_) #[tt,ff,ff,ff,ff,ff,ff,ff,ff,ff] rfl rfl (any_of HT_.out (by kernel_rfl)) (fun _ _ _ h => nomatch h.1) (Or.inl ⟨by rfl, ?_⟩) ?_ ?_
    rotate_left
    ·intro w'
     go_simp
     with_reducible rfl
    rotate_left
    ·simp only [Act.put, sA, sB, sC, i64_w, i32_w]
     rfl
    refine pure_ (i := 1) (N := some 63) (v := ?_) (a' := ?_) #[tt,tt,ff,ff,ff,ff,ff,ff,ff,ff] rfl rfl (any_of HT_.out (by kernel_rfl)) (fun _ _ _ h => nomatch h.1) (Or.inl ⟨by rfl, ?_⟩) ?_ ?_
    rotate_left
    ·intro w'
     go_simp
     with_reducible rfl
    rotate_left
    ·simp only [Act.put, sA, sB, sC, i64_w, i32_w]
     rfl
    refine pure_ (i := 2) (N := some 64) (v := ?_) (a' := ?_) #[tt,tt,tt,ff,ff,ff,ff,ff,ff,ff] rfl rfl (any_of HT_.out (by kernel_rfl)) (fun _ _ _ h => nomatch h.1) (Or.inl ⟨by rfl, ?_⟩) ?_ ?_
    rotate_left
    ·intro w'
     go_simp
     with_reducible rfl
    rotate_left
    ·simp only [Act.put, sA, sB, sC, i64_w, i32_w]
     rfl
    refine pure_ (i := 4) (N := some 66) (v := ?_) (a' := ?_) #[tt,tt,tt,ff,tt,ff,ff,ff,ff,ff] rfl rfl (any_of HT_.out (by kernel_rfl)) (fun _ _ _ h => nomatch h.1) (Or.inl ⟨by rfl, ?_⟩) ?_ ?_
    rotate_left
    ·intro w'
     go_simp
     with_reducible rfl
    rotate_left
    ·simp only [Act.put, sA, sB, sC, i64_w, i32_w]
     rfl
    refine pure_ (i := 5) (N := some 67) (v := ?_) (a' := ?_) #[tt,tt,tt,ff,tt,tt,ff,ff,ff,ff] rfl rfl (any_of HT_.out (by kernel_rfl)) (fun _ _ _ h => nomatch h.1) (Or.inl ⟨by rfl, ?_⟩) ?_ ?_
    rotate_left
    ·intro w'
     go_simp
     with_reducible rfl
    rotate_left
    ·simp only [Act.put, sA, sB, sC, i64_w, i32_w]
     rfl
    refine pure_ (i := 6) (N := some 68) (v := ?_) (a' := ?_) #[tt,tt,tt,ff,tt,tt,tt,ff,ff,ff] rfl rfl (any_of HT_.out (by kernel_rfl)) (fun _ _ _ h => nomatch h.1) (Or.inl ⟨by rfl, ?_⟩) ?_ ?_
    rotate_left
    ·intro w'
     go_simp
     with_reducible rfl
    rotate_left
    ·simp only [Act.put, sA, sB, sC, i64_w, i32_w]
     rfl
    refine take_ (i := 3) (N := some 65) (v := ?_) (a' := ?_) #[tt,tt,tt,tt,tt,tt,tt,ff,ff,ff] rfl rfl (take_ofW HT_.out HW_.out (by kernel_rfl)) (fun _ _ _ h => nomatch h.1) (Or.inl ⟨by rfl, ?_⟩) hHeld ?_ ?_
    rotate_left
    ·rintro w' ⟨s0, s1⟩
     go_simp
     with_reducible rfl
    rotate_left
    ·simp only [Act.put, sA, sB, sC, i64_w, i32_w]
     rfl
    refine take_ (i := 7) (N := some 69) (v := ?_) (a' := ?_) #[tt,tt,tt,tt,tt,tt,tt,tt,ff,ff] rfl rfl (take_ofW HT_.out HW_.out (by kernel_rfl)) (fun _ _ _ h => nomatch h.1) (Or.inl ⟨by rfl, ?_⟩) hHeld ?_ ?_
    rotate_left
    ·rintro w' ⟨s0, s1⟩
     go_simp
     with_reducible rfl
    rotate_left
    ·simp only [Act.put, sA, sB, sC, i64_w, i32_w]
     rfl
    refine pure_ (i := 8) (N := some 70) (v := ?_) (a' := ?_) #[tt,tt,tt,tt,tt,tt,tt,tt,tt,ff] rfl rfl (any_of HT_.out (by kernel_rfl)) (fun _ _ _ h => nomatch h.1) (Or.inl ⟨by rfl, ?_⟩) ?_ ?_
    rotate_left
    ·intro w'
     go_simp
     with_reducible rfl
    rotate_left
    ·simp only [Act.put, sA, sB, sC, i64_w, i32_w]
     rfl
    refine one_ (i := 9) (N := some 71) #[tt,tt,tt,tt,tt,tt,tt,tt,tt,tt] rfl rfl (one_of HT_.out (by kernel_rfl)) (by decide) (fun K hK => ?_)
    refine goes_ Tryz.func32 (by kernel_rfl) rfl #[.pointer (some ⟨rk4, 0, none⟩), .string k, FV.val ⟨some ⟨g, 0, none⟩, m, cap, u.s⟩] (by rfl) rfl rfl (by simp only [List.map_toArray, List.map_cons, List.map_nil]; rfl) ?_
    with_reducible refine (hc).mono ?_
    rintro e w9 ⟨rfl, hm, ht⟩
    refine ⟨_, rfl, ?_⟩
    have HM9 := Aside0.mk hm
    have HT9 := Aside0.mk ht
    have hns : ¬ RF rk4 T4 s := fun e => by
     obtain ⟨cs, t, hc, ht⟩ := RF_typed H4.out.1 s e
     rw [r_K.out] at hc
     cases hc
     rcases ht with ht | ht <;> exact absurd ht (by decide)
    have hnx : ¬ RF rk4 T4 bx := fun e => by
     obtain ⟨cs, t, hc, ht⟩ := RF_typed H4.out.1 bx e
     rw [r_BX.out] at hc
     cases hc
     rcases ht with ht | ht <;> exact absurd ht (by decide)
    have t_K := Aside0.mk (hm.blk r_K.out hns)
    have t_BX := Aside0.mk (hm.blk r_BX.out hnx)
    clear hm ht hc hns hnx
    refine hK.out _ _ ⟨((blk_cell t_K.out 1).trans rfl), ((blk_cell t_BX.out 1).trans rfl)⟩ (fun hHeld => ?_)
    clear hK K
    refine norm_ (a' := ?_) ?_ ?_
    rotate_left
    ·show Act.put _ (some 71) _ = _
     simp only [Act.put, sA, sB, sC, i64_w, i32_w]
     rfl
    refine done_ (done_of HT_.out (by kernel_rfl)) ?_
    refine ⟨rfl, ?_⟩
    clear hHeld HT_ HW_
    go_wp2
    refine bodyPost_ret (v := .int .i64 0) (by simp [results, Tryz.results24, go_sem]) rfl ?_
    rw [HE2.out, ← HE.out.2.2.1]
    obtain ⟨F5, hd5, hsub5⟩ := disk_put r_K.out H4.out.1 H4.out.2.1 H4.out.2.2 (by rw [← HE.out.2.2.1] at HPO; exact HPO.out) HV8.out HM9.out HT9.out
    refine SumpOut.of (Mut.of_below p_B.out) ⟨rfl, HMD.out.trans HM9.out (fun _ e => e) (fun i e _ => (H4.out.2.2 i).2 (.inr e)), F5, hd5, fun i e => (hsub5 i e).imp id (fun h => ?_)⟩
    have hz := HMD.out.size
    omega
  | false =>
   obtain ⟨ln, hln⟩ : ∃ ln, ln = D.L.length := ⟨_, rfl⟩
   have HLE := Aside0.mk hln
   have hlc := HLN.out
   rw [← hln] at hlc
   have HLC := Aside0.mk hlc
   clear hln hlc
   have HNON := Aside0.mk (show lk k D.L = none by
    have h4 := HE.out.2.2.2
    cases e : lk k D.L with
    | none => rfl
    | some f => rw [e] at h4; cases h4)
   by_cases h16 : (16 : Int) ≤ (ln : Int)
   ·have hb2 : decide ((16 : Int) ≤ (ln : Int)) = true := decide_eq_true h16
    have HFULL := Aside0.mk (append_full (D := D) (k := k) (b := b) (.inr ⟨HNON.out, by have := HLE.out; omega⟩))
    refine wp_mono (Q := fun e a w => e = .normal ∧ _) ?_ (fun e a w h => h.2)
    refine start_ (n := 22) (S := fun w' => w'.cell? ⟨s, 0, none⟩ = some (.int .i64 lim) ∧ w'.cell? ⟨s, 1, none⟩ = some (.pointer (some ⟨rk, 0, none⟩))) (ds := []) #[ff,ff,ff,ff,ff,ff,ff,ff,ff,ff,ff,ff,ff,ff,ff,ff,ff,ff,ff,ff,ff,ff] (by kernel_rfl) rfl rfl ⟨((blk_cell n_K.out 0).trans (by rw [HE.out.1]; rfl)), ((blk_cell n_K.out 1).trans rfl)⟩ (fun hHeld => ?_)
    refine with_tabW q24.tab4 q24.bits4 (fun HT_ HW_ => ?_)
    refine pure_ (i := 0) (N := some 22) (v := ?_) (a' := ?_) #[tt,ff,ff,ff,ff,ff,ff,ff,ff,ff,ff,ff,ff,ff,ff,ff,ff,ff,ff,ff,ff,ff] rfl rfl (any_of HT_.out (by kernel_rfl)) (fun _ _ _ h => nomatch h.1) (Or.inl ⟨by rfl, ?_⟩) ?_ ?_
    rotate_left
    ·intro w'
     go_simp
     with_reducible rfl
    rotate_left
    ·simp only [Act.put, sA, sB, sC, i64_w, i32_w]
     rfl
    refine pure_ (i := 1) (N := some 23) (v := ?_) (a' := ?_) #[tt,tt,ff,ff,ff,ff,ff,ff,ff,ff,ff,ff,ff,ff,ff,ff,ff,ff,ff,ff,ff,ff] rfl rfl (any_of HT_.out (by kernel_rfl)) (fun _ _ _ h => nomatch h.1) (Or.inl ⟨by rfl, ?_⟩) ?_ ?_
    rotate_left
    ·intro w'
     go_simp
     with_reducible rfl
    rotate_left
    ·simp only [Act.put, sA, sB, sC, i64_w, i32_w]
     rfl
    refine pure_ (i := 2) (N := some 24) (v := ?_) (a' := ?_) #[tt,tt,tt,ff,ff,ff,ff,ff,ff,ff,ff,ff,ff,ff,ff,ff,ff,ff,ff,ff,ff,ff] rfl rfl (any_of HT_.out (by kernel_rfl)) (fun _ _ _ h => nomatch h.1) (Or.inl ⟨by rfl, ?_⟩) ?_ ?_
    rotate_left
    ·intro w'
     go_simp
     with_reducible rfl
    rotate_left
    ·simp only [Act.put, sA, sB, sC, i64_w, i32_w]
     rfl
    refine pure_ (i := 3) (N := some 25) (v := ?_) (a' := ?_) #[tt,tt,tt,tt,ff,ff,ff,ff,ff,ff,ff,ff,ff,ff,ff,ff,ff,ff,ff,ff,ff,ff] rfl rfl (any_of HT_.out (by kernel_rfl)) (fun _ _ _ h => nomatch h.1) (Or.inl ⟨by rfl, ?_⟩) ?_ ?_
    rotate_left
    ·intro w'
     go_simp
     with_reducible rfl
    rotate_left
    ·simp only [Act.put, sA, sB, sC, i64_w, i32_w]
     rfl
    refine pure_ (i := 4) (N := some 26) (v := ?_) (a' := ?_) #[tt,tt,tt,tt,tt,ff,ff,ff,ff,ff,ff,ff,ff,ff,ff,ff,ff,ff,ff,ff,ff,ff] rfl rfl (any_of HT_.out (by kernel_rfl)) (fun _ _ _ h => nomatch h.1) (Or.inl ⟨by rfl, ?_⟩) ?_ ?_
    rotate_left
    ·intro w'
     go_simp
     with_reducible rfl
    rotate_left
    ·simp only [Act.put, sA, sB, sC, i64_w, i32_w]
     rfl
    refine pure_ (i := 6) (N := some 28) (v := ?_) (a' := ?_) #[tt,tt,tt,tt,tt,ff,tt,ff,ff,ff,ff,ff,ff,ff,ff,ff,ff,ff,ff,ff,ff,ff] rfl rfl (any_of HT_.out (by kernel_rfl)) (fun _ _ _ h => nomatch h.1) (Or.inl ⟨by rfl, ?_⟩) ?_ ?_
    rotate_left
    ·intro w'
     go_simp
     with_reducible rfl
    rotate_left
    ·simp only [Act.put, sA, sB, sC, i64_w, i32_w]
     rfl
    refine take_ (i := 5) (N := some 27) (v := ?_) (a' := ?_) #[tt,tt,tt,tt,tt,tt,tt,ff,ff,ff,ff,ff,ff,ff,ff,ff,ff,ff,ff,ff,ff,ff] rfl rfl (take_ofW HT_.out HW_.out (by kernel_rfl)) (fun _ _ _ h => nomatch h.1) (Or.inl ⟨by rfl, ?_⟩) hHeld ?_ ?_
    rotate_left
    ·rintro w' ⟨s0, s1⟩
     go_simp
     with_reducible rfl
    rotate_left
    ·simp only [Act.put, sA, sB, sC, i64_w, i32_w]
     rfl
    refine one_ (i := 7) (N := some 29) #[tt,tt,tt,tt,tt,tt,tt,tt,ff,ff,ff,ff,ff,ff,ff,ff,ff,ff,ff,ff,ff,ff] rfl rfl (one_of HT_.out (by kernel_rfl)) (by decide) (fun K hK => ?_)
    refine goes_ Tryz.func48 (by kernel_rfl) rfl #[.pointer (some ⟨s, 0, none⟩)] (by rfl) rfl rfl (by simp only [List.map_toArray, List.map_cons, List.map_nil]; rfl) ?_
    with_reducible refine (HUS.out).mono ?_
    rintro e w3 ⟨rfl, hb3⟩
    refine ⟨_, rfl, ?_⟩
    have p_S := Aside0.mk (n_S.out.below hb3)
    have p_BX := Aside0.mk (blk_below n_BX.out hb3)
    have p_B := Aside0.mk (n_B.out.trans (hb3.mono n_B.out.size))
    have p_K := Aside0.mk (blk_below n_K.out hb3)
    clear hb3 n_S n_BX n_B n_K HUS
    refine hK.out _ _ ⟨((blk_cell p_K.out 0).trans (by rw [HE.out.1]; rfl)), ((blk_cell p_K.out 1).trans rfl)⟩ (fun hHeld => ?_)
    clear hK K
    refine norm_ (a' := ?_) ?_ ?_
    rotate_left
    ·show Act.put _ (some 29) _ = _
     simp only [Act.put, sA, sB, sC, i64_w, i32_w]
     rfl
    refine pure_ (i := 8) (N := some 30) (v := ?_) (a' := ?_) #[tt,tt,tt,tt,tt,tt,tt,tt,tt,ff,ff,ff,ff,ff,ff,ff,ff,ff,ff,ff,ff,ff] rfl rfl (any_of HT_.out (by kernel_rfl)) (fun _ _ _ h => nomatch h.1) (Or.inl ⟨by rfl, ?_⟩) ?_ ?_
    rotate_left
    ·intro w'
     go_simp
     with_reducible rfl
    rotate_left
    ·simp only [Act.put, sA, sB, sC, i64_w, i32_w]
     rfl
    refine pure_ (i := 9) (N := some 31) (v := ?_) (a' := ?_) #[tt,tt,tt,tt,tt,tt,tt,tt,tt,tt,ff,ff,ff,ff,ff,ff,ff,ff,ff,ff,ff,ff] rfl rfl (any_of HT_.out (by kernel_rfl)) (fun _ _ _ h => nomatch h.1) (Or.inl ⟨by rfl, ?_⟩) ?_ ?_
    rotate_left
    ·intro w'
     go_simp
     with_reducible rfl
    rotate_left
    ·simp only [Act.put, sA, sB, sC, i64_w, i32_w]
     rfl
    refine pure_ (i := 10) (N := some 32) (v := ?_) (a' := ?_) #[tt,tt,tt,tt,tt,tt,tt,tt,tt,tt,tt,ff,ff,ff,ff,ff,ff,ff,ff,ff,ff,ff] rfl rfl (any_of HT_.out (by kernel_rfl)) (fun _ _ _ h => nomatch h.1) (Or.inl ⟨by rfl, ?_⟩) ?_ ?_
    rotate_left
    ·intro w'
     go_simp
     with_reducible rfl
    rotate_left
    ·simp only [Act.put, sA, sB, sC, i64_w, i32_w]
     rfl
    refine pure_ (i := 11) (N := some 33) (v := ?_) (a' := ?_) #[tt,tt,tt,tt,tt,tt,tt,tt,tt,tt,tt,tt,ff,ff,ff,ff,ff,ff,ff,ff,ff,ff] rfl rfl (any_of HT_.out (by kernel_rfl)) (fun _ _ _ h => nomatch h.1) (Or.inl ⟨by rfl, ?_⟩) ?_ ?_
    rotate_left
    ·intro w'
     go_simp
     with_reducible rfl
    rotate_left
    ·simp only [Act.put, sA, sB, sC, i64_w, i32_w]
     rfl
    refine pure_ (i := 12) (N := some 34) (v := ?_) (a' := ?_) #[tt,tt,tt,tt,tt,tt,tt,tt,tt,tt,tt,tt,tt,ff,ff,ff,ff,ff,ff,ff,ff,ff] rfl rfl (any_of HT_.out (by kernel_rfl)) (fun _ _ _ h => nomatch h.1) (Or.inl ⟨by rfl, ?_⟩) ?_ ?_
    rotate_left
    ·intro w'
     go_simp
     with_reducible rfl
    rotate_left
    ·simp only [Act.put, sA, sB, sC, i64_w, i32_w]
     rfl
    refine pure_ (i := 13) (N := some 35) (v := ?_) (a' := ?_) #[tt,tt,tt,tt,tt,tt,tt,tt,tt,tt,tt,tt,tt,tt,ff,ff,ff,ff,ff,ff,ff,ff] rfl rfl (any_of HT_.out (by kernel_rfl)) (fun _ _ _ h => nomatch h.1) (Or.inl ⟨by rfl, ?_⟩) ?_ ?_
    rotate_left
    ·intro w'
     go_simp
     with_reducible rfl
    rotate_left
    ·simp only [Act.put, sA, sB, sC, i64_w, i32_w]
     rfl
    refine pure_ (i := 14) (N := some 36) (v := ?_) (a' := ?_) #[tt,tt,tt,tt,tt,tt,tt,tt,tt,tt,tt,tt,tt,tt,tt,ff,ff,ff,ff,ff,ff,ff] rfl rfl (any_of HT_.out (by kernel_rfl)) (fun _ _ _ h => nomatch h.1) (Or.inl ⟨by rfl, ?_⟩) ?_ ?_
    rotate_left
    ·intro w'
     go_simp
     with_reducible rfl
    rotate_left
    ·simp only [Act.put, sA, sB, sC, i64_w, i32_w]
     rfl
    refine pure_ (i := 15) (N := some 37) (v := ?_) (a' := ?_) #[tt,tt,tt,tt,tt,tt,tt,tt,tt,tt,tt,tt,tt,tt,tt,tt,ff,ff,ff,ff,ff,ff] rfl rfl (any_of HT_.out (by kernel_rfl)) (fun _ _ _ h => nomatch h.1) (Or.inl ⟨by rfl, ?_⟩) ?_ ?_
    rotate_left
    ·intro w'
     go_simp
     with_reducible rfl
    rotate_left
    ·simp only [Act.put, sA, sB, sC, i64_w, i32_w]
     rfl
    refine pure_ (i := 16) (N := some 38) (v := ?_) (a' := ?_) #[tt,tt,tt,tt,tt,tt,tt,tt,tt,tt,tt,tt,tt,tt,tt,tt,tt,ff,ff,ff,ff,ff] rfl rfl (any_of HT_.out (by kernel_rfl)) (fun _ _ _ h => nomatch h.1) (Or.inl ⟨by rfl, ?_⟩) ?_ ?_
    rotate_left
    ·intro w'
     go_simp
     with_reducible rfl
    rotate_left
    ·simp only [Act.put, sA, sB, sC, i64_w, i32_w]
     rfl
    refine take_ (i := 17) (N := some 39) (v := ?_) (a' := ?_) #[tt,tt,tt,tt,tt,tt,tt,tt,tt,tt,tt,tt,tt,tt,tt,tt,tt,tt,ff,ff,ff,ff] rfl rfl (take_ofW HT_.out HW_.out (by kernel_rfl)) (fun _ _ _ h => nomatch h.1) (Or.inl ⟨by rfl, ?_⟩) hHeld ?_ ?_
    rotate_left
    ·rintro w' ⟨s0, s1⟩
     go_simp
     with_reducible rfl
    rotate_left
    ·simp only [Act.put, sA, sB, sC, i64_w, i32_w]
     rfl
    refine one_ (i := 18) (N := some 40) #[tt,tt,tt,tt,tt,tt,tt,tt,tt,tt,tt,tt,tt,tt,tt,tt,tt,tt,tt,ff,ff,ff] rfl rfl (one_of HT_.out (by kernel_rfl)) (by decide) (fun K hK => ?_)
    refine goes_ Tryz.func49 (by kernel_rfl) rfl #[.pointer (some ⟨rk, 0, none⟩)] (by rfl) rfl rfl (by simp only [List.map_toArray, List.map_cons, List.map_nil]; rfl) ?_
    with_reducible refine (HLC.out _ p_B.out).mono ?_
    rintro e w4 ⟨rfl, hw⟩
    obtain rfl : w3 = w4 := hw.symm
    refine ⟨_, rfl, ?_⟩
    refine hK.out _ _ ⟨((blk_cell p_K.out 0).trans (by rw [HE.out.1]; rfl)), ((blk_cell p_K.out 1).trans rfl)⟩ (fun hHeld => ?_)
    clear hK K
    refine norm_ (a' := ?_) ?_ ?_
    rotate_left
    ·show Act.put _ (some 40) _ = _
     simp only [Act.put, sA, sB, sC, i64_w, i32_w]
     rfl
    refine pure_ (i := 19) (N := some 41) (v := ?_) (a' := ?_) #[tt,tt,tt,tt,tt,tt,tt,tt,tt,tt,tt,tt,tt,tt,tt,tt,tt,tt,tt,tt,ff,ff] rfl rfl (any_of HT_.out (by kernel_rfl)) (fun _ _ _ h => nomatch h.1) (Or.inl ⟨by rfl, ?_⟩) ?_ ?_
    rotate_left
    ·intro w'
     go_simp
     with_reducible rfl
    rotate_left
    ·simp only [Act.put, sA, sB, sC, i64_w, i32_w]
     rfl
    refine pure_ (i := 20) (N := some 42) (v := ?_) (a' := ?_) #[tt,tt,tt,tt,tt,tt,tt,tt,tt,tt,tt,tt,tt,tt,tt,tt,tt,tt,tt,tt,tt,ff] rfl rfl (any_of HT_.out (by kernel_rfl)) (fun _ _ _ h => nomatch h.1) (Or.inl ⟨by rfl, ?_⟩) ?_ ?_
    rotate_left
    ·intro w'
     go_simp
     with_reducible rfl
    rotate_left
    ·simp only [Act.put, sA, sB, sC, i64_w, i32_w]
     rfl
    refine pure_ (i := 21) (N := some 43) (v := ?_) (a' := ?_) #[tt,tt,tt,tt,tt,tt,tt,tt,tt,tt,tt,tt,tt,tt,tt,tt,tt,tt,tt,tt,tt,tt] rfl rfl (any_of HT_.out (by kernel_rfl)) (fun _ _ _ h => nomatch h.1) (Or.inl ⟨by rfl, ?_⟩) ?_ ?_
    rotate_left
    ·intro w'
     go_simp
     with_reducible rfl
    rotate_left
    ·simp only [Act.put, sA, sB, sC, i64_w, i32_w]
     rfl
    refine done_ (done_of HT_.out (by kernel_rfl)) ?_
    refine ⟨rfl, ?_⟩
    clear hHeld HT_ HW_
    go_wp2
    refine bodyPost_ret (v := .int .i64 3) (by simp [results, Tryz.results24, go_sem]) rfl ?_
    rw [HFULL.out]
    exact ⟨rfl, Mut.of_below p_B.out, F, p_S.out, fun _ h => .inl h⟩
   ·have hb2 : decide ((16 : Int) ≤ (ln : Int)) = false := decide_eq_false h16
    have HNF := Aside0.mk (show ¬ ((b.length : Int) > D.lim - usedL D.L ∨ (lk k D.L = none ∧ 16 ≤ D.L.length)) by
     have h1 := HNB.out; have h2 := HE.out; have h3 := HFR.out; have h5 := HLE.out
     rintro (h | ⟨_, h⟩)
     ·omega
     ·omega)
    refine wp_mono (Q := fun e a w => e = .normal ∧ _) ?_ (fun e a w h => h.2)
    refine start_ (n := 22) (S := fun w' => w'.cell? ⟨s, 0, none⟩ = some (.int .i64 lim) ∧ w'.cell? ⟨s, 1, none⟩ = some (.pointer (some ⟨rk, 0, none⟩))) (ds := []) #[ff,ff,ff,ff,ff,ff,ff,ff,ff,ff,ff,ff,ff,ff,ff,ff,ff,ff,ff,ff,ff,ff] (by kernel_rfl) rfl rfl ⟨((blk_cell n_K.out 0).trans (by rw [HE.out.1]; rfl)), ((blk_cell n_K.out 1).trans rfl)⟩ (fun hHeld => ?_)
    refine with_tabW q24.tab4 q24.bits4 (fun HT_ HW_ => ?_)
    refine pure_ (i := 0) (N := some 22) (v := ?_) (a' := ?_) #[tt,ff,ff,ff,ff,ff,ff,ff,ff,ff,ff,ff,ff,ff,ff,ff,ff,ff,ff,ff,ff,ff] rfl rfl (any_of HT_.out (by kernel_rfl)) (fun _ _ _ h => nomatch h.1) (Or.inl ⟨by rfl, ?_⟩) ?_ ?_
    rotate_left
    ·intro w'
     go_simp
     with_reducible rfl
    rotate_left
    ·simp only [Act.put, sA, sB, sC, i64_w, i32_w]
     rfl
    refine pure_ (i := 1) (N := some 23) (v := ?_) (a' := ?_) #[tt,tt,ff,ff,ff,ff,ff,ff,ff,ff,ff,ff,ff,ff,ff,ff,ff,ff,ff,ff,ff,ff] rfl rfl (any_of HT_.out (by kernel_rfl)) (fun _ _ _ h => nomatch h.1) (Or.inl ⟨by rfl, ?_⟩) ?_ ?_
    rotate_left
    ·intro w'
     go_simp
     with_reducible rfl
    rotate_left
    ·simp only [Act.put, sA, sB, sC, i64_w, i32_w]
     rfl
    refine pure_ (i := 2) (N := some 24) (v := ?_) (a' := ?_) #[tt,tt,tt,ff,ff,ff,ff,ff,ff,ff,ff,ff,ff,ff,ff,ff,ff,ff,ff,ff,ff,ff] rfl rfl (any_of HT_.out (by kernel_rfl)) (fun _ _ _ h => nomatch h.1) (Or.inl ⟨by rfl, ?_⟩) ?_ ?_
    rotate_left
    ·intro w'
     go_simp
     with_reducible rfl
    rotate_left
    ·simp only [Act.put, sA, sB, sC, i64_w, i32_w]
     rfl
    refine pure_ (i := 3) (N := some 25) (v := ?_) (a' := ?_) #[tt,tt,tt,tt,ff,ff,ff,ff,ff,ff,ff,ff,ff,ff,ff,ff,ff,ff,ff,ff,ff,ff] rfl rfl (any_of HT_.out (by kernel_rfl)) (fun _ _ _ h => nomatch h.1) (Or.inl ⟨by rfl, ?_⟩) ?_ ?_
    rotate_left
    ·intro w'
     go_simp
     with_reducible rfl
    rotate_left
    ·simp only [Act.put, sA, sB, sC, i64_w, i32_w]
     rfl
    refine pure_ (i := 4) (N := some 26) (v := ?_) (a' := ?_) #[tt,tt,tt,tt,tt,ff,ff,ff,ff,ff,ff,ff,ff,ff,ff,ff,ff,ff,ff,ff,ff,ff] rfl rfl (any_of HT_.out (by kernel_rfl)) (fun _ _ _ h => nomatch h.1) (Or.inl ⟨by rfl, ?_⟩) ?_ ?_
    rotate_left
    ·intro w'
     go_simp
     with_reducible rfl
    rotate_left
    ·simp only [Act.put, sA, sB, sC, i64_w, i32_w]
     rfl
    refine pure_ (i := 6) (N := some 28) (v := ?_) (a' := ?_) #[tt,tt,tt,tt,tt,ff,tt,ff,ff,ff,ff,ff,ff,ff,ff,ff,ff,ff,ff,ff,ff,ff] rfl rfl (any_of HT_.out (by kernel_rfl)) (fun _ _ _ h => nomatch h.1) (Or.inl ⟨by rfl, ?_⟩) ?_ ?_
    rotate_left
    ·intro w'
     go_simp
     with_reducible rfl
    rotate_left
    ·simp only [Act.put, sA, sB, sC, i64_w, i32_w]
     rfl
    refine take_ (i := 5) (N := some 27) (v := ?_) (a' := ?_) #[tt,tt,tt,tt,tt,tt,tt,ff,ff,ff,ff,ff,ff,ff,ff,ff,ff,ff,ff,ff,ff,ff] rfl rfl (take_ofW HT_.out HW_.out (by kernel_rfl)) (fun _ _ _ h => nomatch h.1) (Or.inl ⟨by rfl, ?_⟩) hHeld ?_ ?_
    rotate_left
    ·rintro w' ⟨s0, s1⟩
     go_simp
     with_reducible rfl
    rotate_left
    ·simp only [Act.put, sA, sB, sC, i64_w, i32_w]
     rfl
    refine one_ (i := 7) (N := some 29) #[tt,tt,tt,tt,tt,tt,tt,tt,ff,ff,ff,ff,ff,ff,ff,ff,ff,ff,ff,ff,ff,ff] rfl rfl (one_of HT_.out (by kernel_rfl)) (by decide) (fun K hK => ?_)
    refine goes_ Tryz.func48 (by kernel_rfl) rfl #[.pointer (some ⟨s, 0, none⟩)] (by rfl) rfl rfl (by simp only [List.map_toArray, List.map_cons, List.map_nil]; rfl) ?_
    with_reducible refine (HUS.out).mono ?_
    rintro e w3 ⟨rfl, hb3⟩
    refine ⟨_, rfl, ?_⟩
    have p_S := Aside0.mk (n_S.out.below hb3)
    have p_BX := Aside0.mk (blk_below n_BX.out hb3)
    have p_B := Aside0.mk (n_B.out.trans (hb3.mono n_B.out.size))
    have p_K := Aside0.mk (blk_below n_K.out hb3)
    clear hb3 n_S n_BX n_B n_K HUS
    refine hK.out _ _ ⟨((blk_cell p_K.out 0).trans (by rw [HE.out.1]; rfl)), ((blk_cell p_K.out 1).trans rfl)⟩ (fun hHeld => ?_)
    clear hK K
    refine norm_ (a' := ?_) ?_ ?_
    rotate_left
    ·show Act.put _ (some 29) _ = _
     simp only [Act.put, sA, sB, sC, i64_w, i32_w]
     rfl
    refine pure_ (i := 8) (N := some 30) (v := ?_) (a' := ?_) #[tt,tt,tt,tt,tt,tt,tt,tt,tt,ff,ff,ff,ff,ff,ff,ff,ff,ff,ff,ff,ff,ff] rfl rfl (any_of HT_.out (by kernel_rfl)) (fun _ _ _ h => nomatch h.1) (Or.inl ⟨by rfl, ?_⟩) ?_ ?_
    rotate_left
    ·intro w'
     go_simp
     with_reducible rfl
    rotate_left
    ·simp only [Act.put, sA, sB, sC, i64_w, i32_w]
     rfl
    refine pure_ (i := 9) (N := some 31) (v := ?_) (a' := ?_) #[tt,tt,tt,tt,tt,tt,tt,tt,tt,tt,ff,ff,ff,ff,ff,ff,ff,ff,ff,ff,ff,ff] rfl rfl (any_of HT_.out (by kernel_rfl)) (fun _ _ _ h => nomatch h.1) (Or.inl ⟨by rfl, ?_⟩) ?_ ?_
    rotate_left
    ·intro w'
     go_simp
     with_reducible rfl
    rotate_left
    ·simp only [Act.put, sA, sB, sC, i64_w, i32_w]
     rfl
    refine pure_ (i := 10) (N := some 32) (v := ?_) (a' := ?_) #[tt,tt,tt,tt,tt,tt,tt,tt,tt,tt,tt,ff,ff,ff,ff,ff,ff,ff,ff,ff,ff,ff] rfl rfl (any_of HT_.out (by kernel_rfl)) (fun _ _ _ h => nomatch h.1) (Or.inl ⟨by rfl, ?_⟩) ?_ ?_
    rotate_left
    ·intro w'
     go_simp
     with_reducible rfl
    rotate_left
    ·simp only [Act.put, sA, sB, sC, i64_w, i32_w]
     rfl
    refine pure_ (i := 11) (N := some 33) (v := ?_) (a' := ?_) #[tt,tt,tt,tt,tt,tt,tt,tt,tt,tt,tt,tt,ff,ff,ff,ff,ff,ff,ff,ff,ff,ff] rfl rfl (any_of HT_.out (by kernel_rfl)) (fun _ _ _ h => nomatch h.1) (Or.inl ⟨by rfl, ?_⟩) ?_ ?_
    rotate_left
    ·intro w'
     go_simp
     with_reducible rfl
    rotate_left
    ·simp only [Act.put, sA, sB, sC, i64_w, i32_w]
     rfl
    refine pure_ (i := 12) (N := some 34) (v := ?_) (a' := ?_) #[tt,tt,tt,tt,tt,tt,tt,tt,tt,tt,tt,tt,tt,ff,ff,ff,ff,ff,ff,ff,ff,ff] rfl rfl (any_of HT_.out (by kernel_rfl)) (fun _ _ _ h => nomatch h.1) (Or.inl ⟨by rfl, ?_⟩) ?_ ?_
    rotate_left
    ·intro w'
     go_simp
     with_reducible rfl
    rotate_left
    ·simp only [Act.put, sA, sB, sC, i64_w, i32_w]
     rfl
    refine pure_ (i := 13) (N := some 35) (v := ?_) (a' := ?_) #[tt,tt,tt,tt,tt,tt,tt,tt,tt,tt,tt,tt,tt,tt,ff,ff,ff,ff,ff,ff,ff,ff] rfl rfl (any_of HT_.out (by kernel_rfl)) (fun _ _ _ h => nomatch h.1) (Or.inl ⟨by rfl, ?_⟩) ?_ ?_
    rotate_left
    ·intro w'
     go_simp
     with_reducible rfl
    rotate_left
    ·simp only [Act.put, sA, sB, sC, i64_w, i32_w]
     rfl
    refine pure_ (i := 14) (N := some 36) (v := ?_) (a' := ?_) #[tt,tt,tt,tt,tt,tt,tt,tt,tt,tt,tt,tt,tt,tt,tt,ff,ff,ff,ff,ff,ff,ff] rfl rfl (any_of HT_.out (by kernel_rfl)) (fun _ _ _ h => nomatch h.1) (Or.inl ⟨by rfl, ?_⟩) ?_ ?_
    rotate_left
    ·intro w'
     go_simp
     with_reducible rfl
    rotate_left
    ·simp only [Act.put, sA, sB, sC, i64_w, i32_w]
     rfl
    refine pure_ (i := 15) (N := some 37) (v := ?_) (a' := ?_) #[tt,tt,tt,tt,tt,tt,tt,tt,tt,tt,tt,tt,tt,tt,tt,tt,ff,ff,ff,ff,ff,ff] rfl rfl (any_of HT_.out (by kernel_rfl)) (fun _ _ _ h => nomatch h.1) (Or.inl ⟨by rfl, ?_⟩) ?_ ?_
    rotate_left
    ·intro w'
     go_simp
     with_reducible rfl
    rotate_left
    ·simp only [Act.put, sA, sB, sC, i64_w, i32_w]
     rfl
    refine pure_ (i := 16) (N := some 38) (v := ?_) (a' := ?_) #[tt,tt,tt,tt,tt,tt,tt,tt,tt,tt,tt,tt,tt,tt,tt,tt,tt,ff,ff,ff,ff,ff] rfl rfl (any_of HT_.out (by kernel_rfl)) (fun _ _ _ h => nomatch h.1) (Or.inl ⟨by rfl, ?_⟩) ?_ ?_
    rotate_left
    ·intro w'
     go_simp
     with_reducible rfl
    rotate_left
    ·simp only [Act.put, sA, sB, sC, i64_w, i32_w]
     rfl
    refine take_ (i := 17) (N := some 39) (v := ?_) (a' := ?_) #[tt,tt,tt,tt,tt,tt,tt,tt,tt,tt,tt,tt,tt,tt,tt,tt,tt,tt,ff,ff,ff,ff] rfl rfl (take_ofW HT_.out HW_.out (by kernel_rfl)) (fun _ _ _ h => nomatch h.1) (Or.inl ⟨by rfl, ?_⟩) hHeld ?_ ?_
    rotate_left
    ·rintro w' ⟨s0, s1⟩
     go_simp
     with_reducible rfl
    rotate_left
    ·simp only [Act.put, sA, sB, sC, i64_w, i32_w]
     rfl
    refine one_ (i := 18) (N := some 40) #[tt,tt,tt,tt,tt,tt,tt,tt,tt,tt,tt,tt,tt,tt,tt,tt,tt,tt,tt,ff,ff,ff] rfl rfl (one_of HT_.out (by kernel_rfl)) (by decide) (fun K hK => ?_)
    refine goes_ Tryz.func49 (by kernel_rfl) rfl #[.pointer (some ⟨rk, 0, none⟩)] (by rfl) rfl rfl (by simp only [List.map_toArray, List.map_cons, List.map_nil]; rfl) ?_
    with_reducible refine (HLC.out _ p_B.out).mono ?_
    rintro e w4 ⟨rfl, hw⟩
    obtain rfl : w3 = w4 := hw.symm
    refine ⟨_, rfl, ?_⟩
    refine hK.out _ _ ⟨((blk_cell p_K.out 0).trans (by rw [HE.out.1]; rfl)), ((blk_cell p_K.out 1).trans rfl)⟩ (fun hHeld => ?_)
    clear hK K
    refine norm_ (a' := ?_) ?_ ?_
    rotate_left
    ·show Act.put _ (some 40) _ = _
     simp only [Act.put, sA, sB, sC, i64_w, i32_w]
     rfl
    refine pure_ (i := 19) (N := some 41) (v := ?_) (a' := ?_) #[tt,tt,tt,tt,tt,tt,tt,tt,tt,tt,tt,tt,tt,tt,tt,tt,tt,tt,tt,tt,ff,ff] rfl rfl (any_of HT_.out (by kernel_rfl)) (fun _ _ _ h => nomatch h.1) (Or.inl ⟨by rfl, ?_⟩) ?_ ?_
    rotate_left
    ·intro w'
     go_simp
     with_reducible rfl
    rotate_left
    ·simp only [Act.put, sA, sB, sC, i64_w, i32_w]
     rfl
    refine pure_ (i := 20) (N := some 42) (v := ?_) (a' := ?_) #[tt,tt,tt,tt,tt,tt,tt,tt,tt,tt,tt,tt,tt,tt,tt,tt,tt,tt,tt,tt,tt,ff] rfl rfl (any_of HT_.out (by kernel_rfl)) (fun _ _ _ h => nomatch h.1) (Or.inl ⟨by rfl, ?_⟩) ?_ ?_
    rotate_left
    ·intro w'
     go_simp
     with_reducible rfl
    rotate_left
    ·simp only [Act.put, sA, sB, sC, i64_w, i32_w]
     rfl
    refine pure_ (i := 21) (N := some 43) (v := ?_) (a' := ?_) #[tt,tt,tt,tt,tt,tt,tt,tt,tt,tt,tt,tt,tt,tt,tt,tt,tt,tt,tt,tt,tt,tt] rfl rfl (any_of HT_.out (by kernel_rfl)) (fun _ _ _ h => nomatch h.1) (Or.inl ⟨by rfl, ?_⟩) ?_ ?_
    rotate_left
    ·intro w'
     go_simp
     with_reducible rfl
    rotate_left
    ·simp only [Act.put, sA, sB, sC, i64_w, i32_w]
     rfl
    refine done_ (done_of HT_.out (by kernel_rfl)) ?_
    refine ⟨rfl, ?_⟩
    clear hHeld HT_ HW_
    go_upto_region 6 with fail
    have hcs := step_calls w3 s F D p_S.out
    have HSUB := Aside0.mk (fun i (e : i = s) => (show F i by obtain ⟨rk, T, _, _, _, hF⟩ := HS.out.ex; exact (hF i).2 (.inl e)))
    cases hst : D.step with
    | none =>
     have HE2 := Aside0.mk (append_down HNF.out hst)
     have HST := Aside0.mk hst
     clear hst
     go_wp2_with (go_at_call 50; refine hcs.mono ?_; rintro e w4 ⟨hret, hmu, hdk⟩; rw [HST.out] at hret; simp only [Option.isSome] at hret; subst hret; have HMU := Aside0.mk hmu; have HDK := Aside0.mk (hdk D (.inl ⟨rfl, HST.out⟩)); clear hcs hmu hdk)
     refine bodyPost_ret (v := .int .i64 23) (by simp [results, Tryz.results24, go_sem]) rfl ?_
     rw [HE2.out]
     exact SumpOut.of (Mut.of_below p_B.out) ⟨rfl, HMU.out.mono (fun i e _ => HSUB.out i e), F, HDK.out, fun _ h => .inl h⟩
    | some D1 =>
     have HE2 := Aside0.mk (append_ok HNF.out hst)
     have HPO := Aside0.mk (append_put_ok HS.out.ok HUB.out HNF.out hst)
     have HST := Aside0.mk hst
     clear hst
     go_upto_region 8 with (go_at_call 50; refine hcs.mono ?_; rintro e w4 ⟨hret, hmu, hdk⟩; rw [HST.out] at hret; simp only [Option.isSome] at hret; subst hret; have HMU := Aside0.mk hmu; have HDK := Aside0.mk (hdk D1 (.inr HST.out)); clear hcs hmu hdk)
     have hnx : bx ≠ s := fun e => by have := HS.out.s_lt; have := HBXE.out; omega
     have q_BX := Aside0.mk (HMU.out.blk p_BX.out hnx)
     have d0 := blk_cell q_BX.out 0
     have hun : u.n = fl.b.length := HFU.out.n
     have hus : u.s = fl.s := HFU.out.s
     obtain ⟨m, hm⟩ : ∃ m : Nat, m = u.n + nb := ⟨_, rfl⟩
     have hfl : fl.b.length ≤ 1048576 := by
      have h1 := HE.out.2.2.1; have h2 := orNone_len (D := D) k; have h3 := HRG.out; have h4 := HE.out.2.1
      rw [h1]
      have h5 : lenAt k D.L ≤ usedL D.L := by
       unfold lenAt
       cases e : lk k D.L with
       | none => exact used_nonneg _
       | some f => exact used_mem ((lk_mem _ HS.out.ok.rise).1 e)
      omega
     have hnbl : nb ≤ 1000000000 := by have := HNB.out; have := HL.out; omega
     have hwq : wrap64 ((u.n : Int) + (nb : Int)) = (m : Int) := by rw [wrap_in (by omega) (by omega), hm]; omega
     have HWQ := Aside0.mk hwq
     have HM := Aside0.mk (And.intro hm (And.intro hun (And.intro hus (And.intro hfl hnbl))))
     have p_FU := Aside0.mk ((HFU.out.keep (fun i cs hc => p_B.out.block i (blk_lt hc))).mut HMU.out (fun i e hi => by subst e; obtain ⟨cs, t, hc, ht⟩ := p_S.out.foot i (HSUB.out _ rfl); exact ⟨cs, t, hc, ht⟩))
     have p_CB := Aside0.mk (C_mut (F := fun i => i = s) (Kd.C_below HC.out p_B.out) HMU.out (fun ad e h => HA.out ad e (HSUB.out _ h)))
     clear hnx hm hun hus hfl hnbl
     go_upto_region 9 with (at_make; go_loud (refine Kd.R_make (Kd.int .u8) (w0 := w4) w4.heap.size 5 rfl rfl 22 (.tmp 52) (.tmp 52) rfl (wrap64 ((u.n : Int) + (nb : Int))) rfl rfl Tryz.underlying22 (.int .u8 0) 1 info5 rfl (by decide) (by omega) 0 (ok := fun _ => True) (okp := fun _ => False) rfl (fun _ _ => trivial) trivial (by rw [HWQ.out]; exact Int.natCast_nonneg _) (by have := HM.out; rw [HWQ.out, Int.toNat_natCast]; omega) (Below.refl _ w4) (Nat.le_refl _) ?_; intro v1 w5 hr hb hg hat; obtain ⟨g, hg0, hg1⟩ := hat; rw [HWQ.out, Int.toNat_natCast] at hr; obtain ⟨cap, hv1, hcap, hbg⟩ := R_shape hr hg0; rw [List.length_replicate] at hv1 hcap; subst hv1; have HR5 := Aside0.mk hr; have HB5 := Aside0.mk hb; have HCAP := Aside0.mk (And.intro hcap hbg); clear hr hb hg hg0 hg1 hcap hbg d0))
     have hm := HM.out
     obtain ⟨w6, run1, hr6, hg6⟩ := copy_into (k := 0) (dl := m) (ad := some ⟨g, 0, none⟩) 3 HR5.out (Kd.C_below p_FU.out.rd HB5.out) (by omega) (by omega) (fun _ => rfl) (c := u.c)
     rw [Nat.sub_zero, ← hm.2.1] at run1
     have hb6 : Below w4.heap.size w4 w6 := HB5.out.grown hg6 HB5.out.size (fun i hi => by cases hi; exact HCAP.out.2)
     have hcut := cut_at (some ⟨g, 0, none⟩) m cap u.n (by omega)
     obtain ⟨ad2, had2⟩ : ∃ ad2, ad2 = (if cap = u.n then some ⟨g, 0, none⟩ else (some (⟨g, 0, none⟩ : Addr)).map (·.add u.n)) := ⟨_, rfl⟩
     rw [← had2] at hcut
     obtain ⟨w7, run2, hr7, hg7⟩ := copy_into (k := u.n) (dl := m - u.n) (ad := ad2) 3 hr6 (Kd.C_below p_CB.out hb6) (by have := HNB.out; omega) (by have := HNB.out; omega) (fun h => by rw [had2, if_neg (by have := HCAP.out; have := HNB.out; omega)]; exact congrArg some (add_off g u.n)) (c := c)
     rw [← HNB.out] at run2
     have hb7 : Below w4.heap.size w4 w7 := hb6.grown hg7 hb6.size (fun i hi => by cases hi; exact HCAP.out.2)
     have hlist : (List.take u.n (List.take 0 (List.replicate m (0 : Int)) ++ fl.b ++ List.drop (0 + fl.b.length) (List.replicate m 0)) ++ b ++ List.drop (u.n + b.length) (List.take 0 (List.replicate m (0 : Int)) ++ fl.b ++ List.drop (0 + fl.b.length) (List.replicate m 0))) = fl.b ++ b := by
      have hz : List.drop (u.n + b.length) (List.take 0 (List.replicate m (0 : Int)) ++ fl.b ++ List.drop (0 + fl.b.length) (List.replicate m 0)) = [] := by
       apply List.drop_eq_nil_of_le
       have := HNB.out
       simp only [List.take_zero, List.nil_append, List.length_append, List.length_drop, List.length_replicate]
       omega
      rw [hz, List.append_nil, List.take_zero, List.nil_append, hm.2.1, List.take_left]
     rw [hlist] at hr7
     have HB7 := Aside0.mk hb7
     obtain ⟨u7, hu7, hs7, hv7⟩ := FvAt.of_own (f := ⟨fl.b ++ b, fl.s⟩) hr7
     obtain rfl : u7 = ⟨some ⟨g, 0, none⟩, m, cap, u.s⟩ := by
      obtain ⟨a1, a2, a3, a4⟩ := u7
      cases hu7
      simp only at hs7
      rw [hm.2.2.1.trans hs7.symm]
     have HV7 := Aside0.mk hv7
     clear hr6 hr7 hg6 hg7 hb6 hb7 had2 hlist hv7 hs7 hu7 hm
     have d0 := blk_cell (blk_below q_BX.out HB5.out) 0
     go_upto_region 10 with (first | (at_builtin; refine Lib.wpList_copy_run _ rfl (.tmp 55) (.tmp 57) 22 22 rfl _ _ rfl rfl run1 ?_; clear run1) | (at_builtin; refine Lib.wpList_copy_run _ rfl (.tmp 59) (.tmp 60) 22 22 rfl _ _ rfl rfl run2 ?_; clear run2 hcut))
     have HD7 := Aside0.mk ((HDK.out.below HB7.out).below (w' := w7.drew) ⟨rfl, rfl, rfl, Nat.le_refl _, fun _ _ => rfl⟩)
     have r_BX := Aside0.mk (blk_drew (blk_below q_BX.out HB7.out))
     have HV8 := Aside0.mk (HV7.out.keep (w' := w7.drew) (fun _ _ _ => rfl))
     obtain ⟨rk4, T4, hb4, hr4, hv4, hF4⟩ := HD7.out.ex
     have r_K := Aside0.mk hb4
     have hfew4 := SumpAt.few (rk := rk4) (w := w7.drew) (s := s) (F := F) HD7.out.ok hv4
     have hc := Put_calls w7.drew rk4 T4 k ⟨some ⟨g, 0, none⟩, m, cap, u.s⟩ hr4 (by omega)
     have H4 := Aside0.mk (And.intro hr4 (And.intro hv4 hF4))
     have HMD := Aside0.mk ((HMU.out.mono (F' := F) (fun i e _ => HSUB.out i e)).trans (F := F) (Mut.of_below (F := F) HB7.out).drew (fun _ e => e) (fun i e _ => e))
     clear hb4 hr4 hv4 hF4 hfew4 d0
     refine wp_mono (Q := fun e a w => e = .normal ∧ _) ?_ (fun e a w h => h.2)
     refine start_ (n := 10) (S := fun w' => w'.cell? ⟨s, 1, none⟩ = some (.pointer (some ⟨rk4, 0, none⟩)) ∧ w'.cell? ⟨bx, 1, none⟩ = some (.int .i64 u.s)) (ds := []) #[ff,ff,ff,ff,ff,ff,ff,ff,ff,ff] (by kernel_rfl) rfl rfl ⟨((blk_cell r_K.out 1).trans rfl), ((blk_cell r_BX.out 1).trans rfl)⟩ (fun hHeld => ?_)
     refine with_tabW q24.tab10 q24.bits10 (fun HT_ HW_ => ?_)
     refine pure_ (i := 0) (N := some 62) (v := ?_) (a' := ?_) #[tt,ff,ff,ff,ff,ff,ff,ff,ff,ff] rfl rfl (any_of HT_.out (by kernel_rfl)) (fun _ _ _ h => nomatch h.1) (Or.inl ⟨by rfl, ?_⟩) ?_ ?_
     rotate_left
     ·intro w'
      go_simp
      with_reducible rfl
     rotate_left
     ·simp only [Act.put, sA, sB, sC, i64_w, i32_w]
      rfl
     refine pure_ (i := 1) (N := some 63) (v := ?_) (a' := ?_) #[tt,tt,ff,ff,ff,ff,ff,ff,ff,ff] rfl rfl (any_of HT_.out (by kernel_rfl)) (fun _ _ _ h => nomatch h.1) (Or.inl ⟨by rfl, ?_⟩) ?_ ?_
     rotate_left
     ·intro w'
      go_simp
      with_reducible rfl
     rotate_left
     ·simp only [Act.put, sA, sB, sC, i64_w, i32_w]
      rfl
     refine pure_ (i := 2) (N := some 64) (v := ?_) (a' := ?_) #[tt,tt,tt,ff,ff,ff,ff,ff,ff,ff] rfl rfl (any_of HT_.out (by kernel_rfl)) (fun _ _ _ h => nomatch h.1) (Or.inl ⟨by rfl, ?_⟩) ?_ ?_
     rotate_left
     ·intro w'
      go_simp
      with_reducible rfl
     rotate_left
     ·simp only [Act.put, sA, sB, sC, i64_w, i32_w]
      rfl
     refine pure_ (i := 4) (N := some 66) (v := ?_) (a' := ?_) #[tt,tt,tt,ff,tt,ff,ff,ff,ff,ff] rfl rfl (any_of HT_.out (by kernel_rfl)) (fun _ _ _ h => nomatch h.1) (Or.inl ⟨by rfl, ?_⟩) ?_ ?_
     rotate_left
     ·intro w'
      go_simp
      with_reducible rfl
     rotate_left
     ·simp only [Act.put, sA, sB, sC, i64_w, i32_w]
      rfl
     refine pure_ (i := 5) (N := some 67) (v := ?_) (a' := ?_) #[tt,tt,tt,ff,tt,tt,ff,ff,ff,ff] rfl rfl (any_of HT_.out (by kernel_rfl)) (fun _ _ _ h => nomatch h.1) (Or.inl ⟨by rfl, ?_⟩) ?_ ?_
     rotate_left
     ·intro w'
      go_simp
      with_reducible rfl
     rotate_left
     ·simp only [Act.put, sA, sB, sC, i64_w, i32_w]
      rfl
     refine pure_ (i := 6) (N := some 68) (v := ?_) (a' := ?_) #[tt,tt,tt,ff,tt,tt,tt,ff,ff,ff] rfl rfl (any_of HT_.out (by kernel_rfl)) (fun _ _ _ h => nomatch h.1) (Or.inl ⟨by rfl, ?_⟩) ?_ ?_
     rotate_left
     ·intro w'
      go_simp
      with_reducible rfl
     rotate_left
     ·simp only [Act.put, sA, sB, sC, i64_w, i32_w]
      rfl
     refine take_ (i := 3) (N := some 65) (v := ?_) (a' := ?_) #[tt,tt,tt,tt,tt,tt,tt,ff,ff,ff] rfl rfl (take_ofW HT_.out HW_.out (by kernel_rfl)) (fun _ _ _ h => nomatch h.1) (Or.inl ⟨by rfl, ?_⟩) hHeld ?_ ?_
     rotate_left
     ·rintro w' ⟨s0, s1⟩
      go_simp
      with_reducible rfl
     rotate_left
     ·simp only [Act.put, sA, sB, sC, i64_w, i32_w]
      rfl
     refine take_ (i := 7) (N := some 69) (v := ?_) (a' := ?_) #[tt,tt,tt,tt,tt,tt,tt,tt,ff,ff] rfl rfl (take_ofW HT_.out HW_.out (by kernel_rfl)) (fun _ _ _ h => nomatch h.1) (Or.inl ⟨by rfl, ?_⟩) hHeld ?_ ?_
     rotate_left
     ·rintro w' ⟨s0, s1⟩
      go_simp
      with_reducible rfl
     rotate_left
     ·simp only [Act.put, sA, sB, sC, i64_w, i32_w]
      rfl
     refine pure_ (i := 8) (N := some 70) (v := ?_) (a' := ?_) #[tt,tt,tt,tt,tt,tt,tt,tt,tt,ff] rfl rfl (any_of HT_.out (by kernel_rfl)) (fun _ _ _ h => nomatch h.1) (Or.inl ⟨by rfl, ?_⟩) ?_ ?_
     rotate_left
     ·intro w'
      go_simp
      with_reducible rfl
     rotate_left
     ·simp only [Act.put, sA, sB, sC, i64_w, i32_w]
      rfl
     refine one_ (i := 9) (N := some 71) #[tt,tt,tt,tt,tt,tt,tt,tt,tt,tt] rfl rfl (one_of HT_.out (by kernel_rfl)) (by decide) (fun K hK => ?_)
     refine goes_ Tryz.func32 (by kernel_rfl) rfl #[.pointer (some ⟨rk4, 0, none⟩), .string k, FV.val ⟨some ⟨g, 0, none⟩, m, cap, u.s⟩] (by rfl) rfl rfl (by simp only [List.map_toArray, List.map_cons, List.map_nil]; rfl) ?_
     with_reducible refine (hc).mono ?_
     rintro e w9 ⟨rfl, hm, ht⟩
     refine ⟨_, rfl, ?_⟩
     have HM9 := Aside0.mk hm
     have HT9 := Aside0.mk ht
     have hns : ¬ RF rk4 T4 s := fun e => by
      obtain ⟨cs, t, hc, ht⟩ := RF_typed H4.out.1 s e
      rw [r_K.out] at hc
      cases hc
      rcases ht with ht | ht <;> exact absurd ht (by decide)
     have hnx : ¬ RF rk4 T4 bx := fun e => by
      obtain ⟨cs, t, hc, ht⟩ := RF_typed H4.out.1 bx e
      rw [r_BX.out] at hc
      cases hc
      rcases ht with ht | ht <;> exact absurd ht (by decide)
     have t_K := Aside0.mk (hm.blk r_K.out hns)
     have t_BX := Aside0.mk (hm.blk r_BX.out hnx)
     clear hm ht hc hns hnx
     refine hK.out _ _ ⟨((blk_cell t_K.out 1).trans rfl), ((blk_cell t_BX.out 1).trans rfl)⟩ (fun hHeld => ?_)
     clear hK K
     refine norm_ (a' := ?_) ?_ ?_
     rotate_left
     ·show Act.put _ (some 71) _ = _
      simp only [Act.put, sA, sB, sC, i64_w, i32_w]
      rfl
     refine done_ (done_of HT_.out (by kernel_rfl)) ?_
     refine ⟨rfl, ?_⟩
     clear hHeld HT_ HW_
     go_wp2
     refine bodyPost_ret (v := .int .i64 0) (by simp [results, Tryz.results24, go_sem]) rfl ?_
     rw [HE2.out, ← HE.out.2.2.1]
     obtain ⟨F5, hd5, hsub5⟩ := disk_put r_K.out H4.out.1 H4.out.2.1 H4.out.2.2 (by rw [← HE.out.2.2.1] at HPO; exact HPO.out) HV8.out HM9.out HT9.out
     refine SumpOut.of (Mut.of_below p_B.out) ⟨rfl, HMD.out.trans HM9.out (fun _ e => e) (fun i e _ => (H4.out.2.2 i).2 (.inr e)), F5, hd5, fun i e => (hsub5 i e).imp id (fun h => ?_)⟩
     have hz := HMD.out.size
     omega
end Go.Proofs.YtdooajmgfoobfaaGreatDoor.H
