/- The walk of ReelKeeps. Laid by wip/rq_k.py. -/
import Derived.Test.YtdooajmgfoobfaaGreatDoorZz
import Derived.Test.YtdooajmgfoobfaaGreatDoorRqX
namespace Go.Proofs.YtdooajmgfoobfaaGreatDoor.H
attribute [local go_sem] Oper.semAt_some
open Go.RowKit Go.Shelf Go.Proofs.YtdooajmgfoobfaaGreatDoor.PA Go.Proofs.YtdooajmgfoobfaaGreatDoorW.PrintWords Go.Proofs.YtdooajmgfoobfaaGreatDoorW.PrintLast Go.Proofs.YtdooajmgfoobfaaGreatDoorW.PrintMore
set_option linter.unusedVariables false
set_option linter.unusedSimpArgs false
theorem LvOut.flat {lo g s i : Nat} {W W' : World} {roll : Int} {im im2 : ByteArray} {rs rs2 : List ByteArray} {e : Ending} (h : LvOut lo g s roll i im rs im2 rs2 W e W') : ∃ er, e = .returned (.int .i64 er) ∧ ((er = 0 ∧ Live W' lo g s roll (i + 1) im2 rs2) ∨ (er = 3 ∧ Live W' lo g s roll (i + 1) im rs) ∨ (er = 23 ∧ Dead W' lo g s (i + 1) (fun a l => (a = im ∧ l = rs) ∨ (a = im2 ∧ l = rs2)))) := by
  rcases h.out with ⟨h1, h2⟩ | ⟨h1, h2⟩ | ⟨h1, h2⟩
  · exact ⟨_, h1, .inl ⟨rfl, h2⟩⟩
  · exact ⟨_, h1, .inr (.inl ⟨rfl, h2⟩)⟩
  · exact ⟨_, h1, .inr (.inr ⟨rfl, h2⟩)⟩
theorem live_new {lo g s : Nat} {W : World} {roll : Int} (h : Rn W lo g s (openM roll 1 []) ⟨3000, false, 0, []⟩) : Live W lo g s roll 0 ⟨#[]⟩ [] := ⟨1, [], [], _, h, neat_new 3000 0 false, rfl, rfl, rfl⟩
/-- Where ReelKeeps' loop stands. -/
structure KpSt (w : World) (roll : Int) (i s g : Nat) (im nim : ByteArray) (v nv : Value) (dn : Bool) (W : World) : Prop where
  hb : Below w.heap.size w W
  ex : ∃ rs nrs, Kd.R Kd.string 9 W w.heap.size (fun _ => True) v rs ∧ Kd.R Kd.string 9 W w.heap.size (fun _ => True) nv nrs ∧ rs.length ≤ i ∧ nrs.length ≤ i ∧
    ((dn = false ∧ Live W w.heap.size g s roll i im rs) ∨ (dn = true ∧ Dead W w.heap.size g s i (fun a l => (a = im ∧ l = rs) ∨ (a = nim ∧ l = nrs))))
theorem KpSt.below {w W W' : World} {roll : Int} {i s g : Nat} {im nim : ByteArray} {v nv : Value} {dn : Bool} (h : KpSt w roll i s g im nim v nv dn W) (hb : Below W.heap.size W W') : KpSt w roll i s g im nim v nv dn W' := by
  obtain ⟨rs, nrs, h1, h2, l1, l2, h3⟩ := h.ex
  exact ⟨h.hb.trans (hb.mono h.hb.size), rs, nrs, Kd.R_below h1 hb, Kd.R_below h2 hb, l1, l2, h3.imp (fun ⟨a, b⟩ => ⟨a, b.below hb⟩) (fun ⟨a, b⟩ => ⟨a, b.below hb⟩)⟩
theorem KpSt.up {w W : World} {roll : Int} {i s g : Nat} {im nim : ByteArray} {v nv : Value} {dn : Bool} (h : KpSt w roll i s g im nim v nv dn W) {j : Nat} (h1 : i ≤ j) (h2 : j ≤ 98) : KpSt w roll j s g im nim v nv dn W := by
  obtain ⟨rs, nrs, k1, k2, l1, l2, k3⟩ := h.ex
  exact ⟨h.hb, rs, nrs, k1, k2, Nat.le_trans l1 h1, Nat.le_trans l2 h1, k3.imp (fun ⟨a, b⟩ => ⟨a, b.up h1 h2⟩) (fun ⟨a, b⟩ => ⟨a, b.up h1 h2⟩)⟩
theorem StOut.mono {i : Nat} {S S' : What} {W W' : World} {e : Ending} (h : StOut i S W e W') (hS : ∀ a l, S a l → S' a l) : StOut i S' W e W' := by
  obtain ⟨hb, s2, h1, E, first, img, pss, h2, h3, h4, h5, h6, h7⟩ := h
  exact ⟨hb, s2, h1, E, first, img, pss, h2, h3, h4, h5, h6, hS _ _ h7⟩
/-- In the middle of what is wanted: the records' copy, the new record's row. -/
structure KMid (U : World) (rs : List ByteArray) (rn : Nat) (k : ByteArray) (s_ : Nat × Nat × Option Addr × Nat) (W : World) : Prop where
  hb : Below U.heap.size U W
  r : Kd.R Kd.string 9 W U.heap.size (fun _ => True) (.slice s_.2.2.1 rn s_.2.2.2) rs
  b : W.heap[s_.2.1]? = some (.cells #[.string k] 9 (0, 0))
theorem one_str {W : World} {b : Nat} {k : ByteArray} (h : W.heap[b]? = some (.cells #[.string k] 9 (0, 0))) : Kd.C Kd.string W (some ⟨b, 0, none⟩) 1 [k] := by
  refine Kd.C_of_reads (enc := Value.string) (d := ByteArray.empty) (h1 := fun _ => rfl) ⟨rfl, by omega, fun _ => ⟨⟨b, 0, none⟩, rfl, fun j hj => ?_⟩⟩
  obtain rfl : j = 0 := by omega
  exact blk_cell h 0
set_option maxRecDepth 100000 in
set_option maxHeartbeats 6400000 in
theorem keeps_few (w : World) (roll : Int) (A : Option Addr) (c : Nat) (l : List SAct) (hro : 0 ≤ roll ∧ roll ≤ 65535) (hC : Kd.C kAct w A l.length l) (hu : ∀ x ∈ l, ∀ y ∈ x.f2, 0 ≤ y ∧ y ≤ 255) (hF : FewP l) (hfw : ∀ W, Below w.heap.size w W → Calls Tryz.prog 14 #[.slice A l.length c] W fun e w' => e = .returned (.bool true) ∧ Below W.heap.size W w') (hE : Ev w.heap.size w) :
    Calls Tryz.prog 4 #[.int .u16 roll, .slice A l.length c] w fun e w' => e = .returned (.bool true) ∧ Below w.heap.size w w' := by
  have HE := Aside0.mk hE
  have HC := Aside0.mk hC
  have HU := Aside0.mk hu
  have HF := Aside0.mk hF
  obtain ⟨n, hn⟩ : ∃ n, l.length = n := ⟨_, rfl⟩
  have HN := Aside0.mk hn
  have HL := Aside0.mk (show n ≤ 40 by have := hF.n; omega)
  have HRO := Aside0.mk hro
  rw [hn] at hfw ⊢
  have hnew := new_dn (W := w) 3000 (by decide) (by decide)
  clear hE hC hu hF hn hro
  go_enter Tryz.func4, Tryz.ntmps4
  go_upto_region 2 with (go_at_call 6; go_loud (refine (show Calls _ _ _ _ _ from hnew).mono ?_; rintro e w1 ⟨s, rfl, hb, hd⟩; have HB1 := Aside0.mk hb; have HD1 := Aside0.mk hd; clear hb hd hnew))
  have hE1 := HE.out.step HB1.out
  have haw := awake_calls w1 (hE1.up HB1.out.size (Nat.le_refl _))
  go_upto_region 4 with (first
    | (go_at_call 7; refine (show Calls _ _ _ _ _ from haw).mono ?_; rintro e w2 ⟨rfl, hb⟩; have HB2 := Aside0.mk (HB1.out.trans (hb.mono HB1.out.size)); have HD2 := Aside0.mk (HD1.out.below hb); clear hb haw hE1 HD1)
    | (go_at_call 14; refine (show Calls _ _ _ _ _ from hfw _ HB2.out).mono ?_; rintro e w2b ⟨rfl, hb⟩; have HB2b := Aside0.mk (HB2.out.trans (hb.mono HB2.out.size)); have HD2b := Aside0.mk (HD2.out.below hb); clear hb hfw))
  obtain ⟨z1, hz1⟩ : ∃ z1, wrap64 (roll.tmod 1000) = z1 := ⟨_, rfl⟩
  obtain ⟨kz, hkz⟩ : ∃ kz, wrap64 (1 + z1) = kz := ⟨_, rfl⟩
  have HKZ := Aside0.mk (show 1 ≤ kz ∧ kz ≤ 60000 by
    have h6 : roll.tmod 1000 = roll % 1000 := Int.tmod_eq_emod_of_nonneg HRO.out.1
    have h7 : z1 = roll % 1000 := by rw [← hz1, h6]; exact wrap_in (by omega) (by omega)
    have h8 : kz = 1 + roll % 1000 := by rw [← hkz, h7]; exact wrap_in (by omega) (by omega)
    omega)
  go_upto_region 5 with fail
  rw [hkz]
  clear hz1 hkz
  have hop := open_rn HD2b.out (HE.out.step HB2b.out) kz HKZ.out (rec_new 3000 false 0)
  rw [clean_new] at hop
  go_upto_region 6 with (go_at_call 8; go_loud (refine (show Calls _ _ _ _ _ from hop).mono ?_; rintro e w3 ho; obtain ⟨g, B, d, B2, d2, rfl, hrn, hx1, hx2⟩ := ho.ok rfl; have HL3 := Aside0.mk (live_new hrn); have HB3 := Aside0.mk (HB2b.out.trans ho.st.hb); clear ho hrn hop hx1 hx2 HD2b))
  go_upto_region 11 with fail
  have hb4 : Below w3.heap.size w3 (w3.alloc (.cells #[] 9)) := (Below.refl _ w3).alloc (Nat.le_refl _) _
  have hb5 : Below (w3.alloc (.cells #[] 9)).heap.size (w3.alloc (.cells #[] 9)) ((w3.alloc (.cells #[] 9)).alloc (.cells #[] 9)) := (Below.refl _ _).alloc (Nat.le_refl _) _
  have hb6 := HB3.out.trans (hb4.mono HB3.out.size)
  have HST := Aside0.mk (show KpSt w kz 0 s g ⟨#[]⟩ ⟨#[]⟩ (.slice (some ⟨w3.heap.size, 0, none⟩) 0 0) (.slice (some ⟨(w3.alloc (.cells #[] 9)).heap.size, 0, none⟩) 0 0) false ((w3.alloc (.cells #[] 9)).alloc (.cells #[] 9)) from
    ⟨hb6.trans (hb5.mono hb6.size), [], [], Kd.R_below (lit_s0 w3 w.heap.size HB3.out.size) hb5, lit_s0 _ w.heap.size hb6.size, by simp, by simp, .inl ⟨rfl, (HL3.out.below hb4).below hb5⟩⟩)
  simp only [World.size_alloc] at HST
  generalize (w3.alloc (.cells #[] 9)).alloc (.cells #[] 9) = w4 at HST ⊢
  clear hb4 hb5 hb6 HB1 HB2 HB2b HD2 HB3 HL3
  go_loopw [5, 8, 12, 13, 14, 15, 16, 68] (fun v5 v8 v12 v13 v14 v15 v16 v68 wr => ∃ (i s g : Nat) (im nim : ByteArray) (dn : Bool), v5 = .pointer (some ⟨s, 0, none⟩) ∧ v8 = .pointer (some ⟨g, 0, none⟩) ∧ v12 = .string im ∧ v14 = .string nim ∧ v16 = .bool dn ∧ v68 = .int .i64 i ∧ i ≤ n ∧ KpSt w kz i s g im nim v13 v15 dn wr) (fun _ _ _ _ _ _ _ v68 _ => n - (intOf v68).toNat)
  case atStart => exact ⟨0, s, g, ⟨#[]⟩, ⟨#[]⟩, false, rfl, rfl, rfl, rfl, rfl, rfl, Nat.zero_le _, HST.out⟩
  case round =>
    obtain ⟨i, s5, g5, im, nim, dn, rfl, rfl, rfl, rfl, rfl, rfl, hi, hst⟩ := hrel
    obtain ⟨W0, rfl⟩ : ∃ W0, W0 = wr := ⟨wr, rfl⟩
    have HS := Aside0.mk hst
    by_cases hlt : i < n
    · have hli : i < l.length := by have := HN.out; omega
      obtain ⟨ad, a2, b2, a3, b3, rfl, x0, x1, x2, x3, g2, C2, g3, C3⟩ := at_T43 HC.out (i : Int) (by omega) (by have := HN.out; omega)
      replace x0 := below_cell_eq hst.hb x0
      replace x1 := below_cell_eq hst.hb x1
      replace x2 := below_cell_eq hst.hb x2
      replace x3 := below_cell_eq hst.hb x3
      have hx : rd_T43 l (i : Int) = l[i] := by
        unfold rd_T43
        rw [Int.toNat_natCast, List.getD_eq_getElem?_getD, List.getElem?_eq_getElem hli]
        rfl
      rw [hx] at x0 x1 x2 x3 C2 C3 g3
      rw [Int.toNat_natCast] at x0 x1 x2 x3
      have hxu := HU.out l[i] (List.getElem_mem hli)
      have hxb := HF.out.b l[i] (List.getElem_mem hli)
      generalize l[i] = x at x0 x1 x2 x3 C2 C3 g3 hxu hxb
      obtain ⟨f0, f1, fb, fk⟩ := x
      simp only at x0 x1 x2 x3 C2 C3 g3 hxu hxb
      have HBU := Aside0.mk (And.intro hxu hxb)
      have HCB := Aside0.mk C2
      have HCK := Aside0.mk (And.intro C3 g3)
      have HI := Aside0.mk (And.intro hlt (show i ≤ 39 by have := HL.out; omega))
      obtain ⟨bl, hbl⟩ : ∃ bl, fb.length = bl := ⟨_, rfl⟩
      obtain ⟨kl, hkl⟩ : ∃ kl, fk.length = kl := ⟨_, rfl⟩
      have HBL := Aside0.mk (And.intro hbl hkl)
      rw [hbl] at x2
      rw [hkl] at x3
      obtain ⟨rs, nrs, hR1, hR2, hl1, hl2, hLD⟩ := hst.ex
      obtain ⟨rA, rc, e13⟩ := Kd.R_slice hR1
      obtain ⟨rn, hrn⟩ : ∃ rn, rs.length = rn := ⟨_, rfl⟩
      rw [hrn] at e13
      subst e13
      obtain ⟨nA, nc, e15⟩ := Kd.R_slice hR2
      obtain ⟨nn, hnn⟩ : ∃ nn, nrs.length = nn := ⟨_, rfl⟩
      rw [hnn] at e15
      subst e15
      have HRL := Aside0.mk (And.intro hrn hnn)
      clear hli hx g2 C2 g3 C3 hxu hxb hbl hkl hi hR1 hR2 hl1 hl2 hLD hrn hnn
      go_upto_region 13 with fail
      have hal := heap_alloc_new W0 (.cells #[.int .i64 f0, .int .i64 f1, .slice a2 bl b2, .slice a3 kl b3] 43)
      have hba : Below W0.heap.size W0 (W0.alloc (.cells #[.int .i64 f0, .int .i64 f1, .slice a2 bl b2, .slice a3 kl b3] 43)) := (Below.refl _ W0).alloc (Nat.le_refl _) _
      generalize W0.alloc (.cells #[.int .i64 f0, .int .i64 f1, .slice a2 bl b2, .slice a3 kl b3] 43) = W1 at hal hba ⊢
      obtain ⟨xb, hxb⟩ : ∃ xb, W0.heap.size = xb := ⟨_, rfl⟩
      rw [hxb] at hal ⊢
      have HX1 := Aside0.mk hal
      have HS1 := Aside0.mk (hst.below hba)
      have y0 := (blk_cell hal 0).trans rfl
      have y1 := (blk_cell hal 1).trans rfl
      have y2 := (blk_cell hal 2).trans rfl
      have y3 := (blk_cell hal 3).trans rfl
      clear x0 x1 x2 x3 hal hba hxb HS hst
      by_cases k1 : f0 = 1
      · subst k1
        go_upto_region 16 with fail
        have HXU := Aside0.mk (blk_drew HX1.out)
        have HBU0 := Aside0.mk (HS1.out.hb.trans ((below_drew1 (Below.refl _ W1)).mono HS1.out.hb.size))
        obtain ⟨rs, nrs, hR1, hR2, hl1, hl2, hLD⟩ := HS1.out.ex
        have hrn : rs.length = rn := by have := (Kd.R_reads' hR1).1; omega
        have HRL := Aside0.mk (show rs.length = rn ∧ True from ⟨hrn, trivial⟩)
        have HR1 := Aside0.mk hR1
        have HR2 := Aside0.mk hR2
        have HLD := Aside0.mk hLD
        have HRC := Aside0.mk (fun (W : World) (hb : Below W1.drew.heap.size W1.drew W) => show ReadsRow (fun x cs => cs = [.string x]) Kd.string.sz W rA rn rs from by have := (Kd.R_reads' (Kd.R_below (Kd.R_below hR1 (below_drew1 (Below.refl _ W1))) hb)).2.2; rw [hrn] at this; exact this)
        have HCVU := Aside0.mk (fun (W : World) (hb : Below W1.drew.heap.size W1.drew W) => show (convert 22 9 (.slice a2 bl b2)).run Tryz.prog W = .ok (.string (strOfNums fb)) W from by
          have := Kd.C_string (P := Tryz.prog) (A := a2) (c := b2) Tryz.underlying22 Tryz.underlying5 Tryz.underlying9 (Kd.C_below HCB.out (HBU0.out.trans (hb.mono HBU0.out.size)))
          rw [HBL.out.1] at this
          exact this)
        have HLR := Aside0.mk (show (([] : List ByteArray).length + rn) * 16 ≤ 140737488355328 ∧ (rs.length + 1) * 16 ≤ 140737488355328 by
          have h1 := HI.out
          simp only [List.length_nil]
          omega)
        obtain ⟨rn1, hrn1⟩ : ∃ rn1, (rs ++ [strOfNums fb]).length = rn1 := ⟨_, rfl⟩
        have HRN1 := Aside0.mk hrn1
        have HLE := Aside0.mk (And.intro hl1 hl2)
        clear hR1 hR2 hl1 hl2 hLD hrn hrn1
        refine wp_mono (Q := fun e a w => e = .normal ∧ _) ?_ (fun e a w h => h.2)
        refine start_ (n := 11) (S := fun w' => w'.cell? ⟨xb, 2, none⟩ = some (.slice a2 bl b2) ∧ (convert 22 9 (.slice a2 bl b2)).run Tryz.prog w' = .ok (.string (strOfNums fb)) w') (ds := []) #[ff,ff,ff,ff,ff,ff,ff,ff,ff,ff,ff] (by kernel_rfl) rfl rfl ⟨((blk_cell (blk_below HXU.out (Below.refl _ W1.drew)) 2).trans rfl), (HCVU.out _ (Below.refl _ W1.drew))⟩ (fun hHeld => ?_)
        refine pure_ (i := 0) (N := some 77) (v := ?_) (a' := ?_) #[tt,ff,ff,ff,ff,ff,ff,ff,ff,ff,ff] rfl rfl (by kernel_rfl) (fun _ _ _ h => nomatch h.1) (Or.inl ⟨by rfl, ?_⟩) ?_ ?_
        rotate_left
        · intro w'
          go_simp
          with_reducible rfl
        rotate_left
        · simp only [Act.put, sA, sB, sC, i64_w, i32_w]
          rfl
        refine pure_ (i := 2) (N := some 79) (v := ?_) (a' := ?_) #[tt,ff,tt,ff,ff,ff,ff,ff,ff,ff,ff] rfl rfl (by kernel_rfl) (fun _ _ _ h => nomatch h.1) (Or.inl ⟨by rfl, ?_⟩) ?_ ?_
        rotate_left
        · intro w'
          go_simp
          with_reducible rfl
        rotate_left
        · simp only [Act.put, sA, sB, sC, i64_w, i32_w]
          rfl
        refine pure_ (i := 4) (N := some 81) (v := ?_) (a' := ?_) #[tt,ff,tt,ff,tt,ff,ff,ff,ff,ff,ff] rfl rfl (by kernel_rfl) (fun _ _ _ h => nomatch h.1) (Or.inl ⟨by rfl, ?_⟩) ?_ ?_
        rotate_left
        · intro w'
          go_simp
          with_reducible rfl
        rotate_left
        · simp only [Act.put, sA, sB, sC, i64_w, i32_w]
          rfl
        refine take_ (i := 5) (N := some 82) (v := ?_) (a' := ?_) #[tt,ff,tt,ff,tt,tt,ff,ff,ff,ff,ff] rfl rfl (by kernel_rfl) (fun _ _ _ h => nomatch h.1) (Or.inl ⟨by rfl, ?_⟩) hHeld ?_ ?_
        rotate_left
        · rintro w' ⟨s0, s1⟩
          go_simp
          with_reducible rfl
        rotate_left
        · simp only [Act.put, sA, sB, sC, i64_w, i32_w]
          rfl
        refine take_ (i := 6) (N := some 83) (v := ?_) (a' := ?_) #[tt,ff,tt,ff,tt,tt,tt,ff,ff,ff,ff] rfl rfl (by kernel_rfl) (fun _ _ _ h => nomatch h.1) (Or.inl ⟨by rfl, ?_⟩) hHeld ?_ ?_
        rotate_left
        · rintro w' ⟨s0, s1⟩
          go_simp
          with_reducible rfl
        rotate_left
        · simp only [Act.put, sA, sB, sC, i64_w, i32_w]
          rfl
        refine join_ (σ := Nat × Nat × Option Addr × Nat) 3 #[tt,tt,tt,tt,tt,tt,tt,tt,ff,ff,ff] (fun s_ => [(78, .slice (some ⟨s_.1, 0, none⟩) 0 0), (80, .slice s_.2.2.1 rn s_.2.2.2), (84, .slice (some ⟨s_.2.1, 0, none⟩) 1 1)]) (fun s_ w' => (w'.cell? ⟨xb, 2, none⟩ = some (.slice a2 bl b2) ∧ (convert 22 9 (.slice a2 bl b2)).run Tryz.prog w' = .ok (.string (strOfNums fb)) w') ∧ KMid W1.drew rs rn (strOfNums fb) s_ w') ?_ ?_
        rotate_left
        · intro hCont
          refine two_ (i := 1) (j := 7) (Ni := some 78) (Nj := some 84) #[tt,tt,tt,ff,tt,tt,tt,ff,ff,ff,ff] #[tt,ff,tt,ff,tt,tt,tt,tt,ff,ff,ff] rfl rfl rfl rfl (by kernel_rfl) (by decide) (by decide) (fun K hK => ?_) (fun K hK => ?_)
          · skip
            refine value_ (w1 := ?_) (v := ?_) (by rfl) rfl ?_ ?_
            rotate_left 2
            · go_simp
              constructor
              · rfl
              · rfl
            refine hK.out _ _ ⟨((blk_cell (blk_below HXU.out ((Below.refl _ W1.drew).alloc (Nat.le_refl _) (.cells #[] 9))) 2).trans rfl), (HCVU.out _ ((Below.refl _ W1.drew).alloc (Nat.le_refl _) (.cells #[] 9)))⟩ (fun hHeld => ?_)
            clear hK K
            refine norm_ (a' := ?_) ?_ ?_
            rotate_left
            · show Act.put _ (some 78) _ = _
              simp only [Act.put, sA, sB, sC, i64_w, i32_w]
              rfl
            refine two_ (i := 3) (j := 7) (Ni := some 80) (Nj := some 84) #[tt,tt,tt,tt,tt,tt,tt,ff,ff,ff,ff] #[tt,tt,tt,ff,tt,tt,tt,tt,ff,ff,ff] rfl rfl rfl rfl (by kernel_rfl) (by decide) (by decide) (fun K hK => ?_) (fun K hK => ?_)
            · skip
              refine Kd.R_append_rows_step (Rr := fun x cs => cs = [.string x]) Kd.string (w0 := W1.drew) W1.drew.heap.size (by rfl) (.tmp 78) (.tmp 79) 32 9 (.string ⟨#[]⟩) 16 rfl Tryz.underlying32 infoStrT rfl (by decide) (by decide) (.slice (some ⟨W1.drew.heap.size, 0, none⟩) 0 0) [] rs rA rn rc (fun _ => True) (fun _ => False) rfl rfl (lit_s0 W1.drew W1.drew.heap.size (Nat.le_refl _)) (HRC.out _ ((Below.refl _ W1.drew).alloc (Nat.le_refl _) (.cells #[] 9))) (fun _ _ h => h) (fun _ hk => hk.elim) (fun _ _ => trivial) ((Below.refl _ W1.drew).alloc (Nat.le_refl _) (.cells #[] 9)) (((Below.refl _ W1.drew).alloc (Nat.le_refl _) (.cells #[] 9))).size HLR.out.1 ?_
              intro v1 w5x hr hb hg hat
              rw [List.nil_append] at hr
              obtain ⟨A80, c80, e80⟩ := Kd.R_slice hr
              rw [HRL.out.1] at e80
              subst e80
              have q_R := Aside0.mk hr
              have q_B := Aside0.mk hb
              clear hr hb hg hat
              refine hK.out _ _ ⟨((blk_cell (blk_below HXU.out q_B.out) 2).trans rfl), (HCVU.out _ q_B.out)⟩ (fun hHeld => ?_)
              clear hK K
              refine norm_ (a' := ?_) ?_ ?_
              rotate_left
              · show Act.put _ (some 80) _ = _
                simp only [Act.put, sA, sB, sC, i64_w, i32_w]
                rfl
              refine one_ (i := 7) (N := some 84) #[tt,tt,tt,tt,tt,tt,tt,tt,ff,ff,ff] rfl rfl (by kernel_rfl) (by decide) (fun K hK => ?_)
              refine value_ (w1 := ?_) (v := ?_) (by rfl) rfl ?_ ?_
              rotate_left 2
              · go_simp
                constructor
                · rfl
                · rfl
              refine hK.out _ _ ⟨((blk_cell (blk_below HXU.out (q_B.out.alloc q_B.out.size (.cells #[.string (strOfNums fb)] 9))) 2).trans rfl), (HCVU.out _ (q_B.out.alloc q_B.out.size (.cells #[.string (strOfNums fb)] 9)))⟩ (fun hHeld => ?_)
              clear hK K
              refine norm_ (a' := ?_) ?_ ?_
              rotate_left
              · show Act.put _ (some 84) _ = _
                simp only [Act.put, sA, sB, sC, i64_w, i32_w]
                rfl
              exact norm_ (by first | (simp only [putAll, Act.put, sA, sB, sC, World.size_alloc]; done) | (simp only [putAll, Act.put, sA, sB, sC, World.size_alloc]; rfl)) (hCont (W1.drew.heap.size, w5x.heap.size, A80, c80) _ ⟨⟨((blk_cell (blk_below HXU.out (q_B.out.alloc q_B.out.size (.cells #[.string (strOfNums fb)] 9))) 2).trans rfl), (HCVU.out _ (q_B.out.alloc q_B.out.size (.cells #[.string (strOfNums fb)] 9)))⟩, ⟨q_B.out.alloc q_B.out.size _, Kd.R_below q_R.out ((Below.refl _ _).alloc (Nat.le_refl _) _), heap_alloc_new _ _⟩⟩)
            · skip
              refine value_ (w1 := ?_) (v := ?_) (by rfl) rfl ?_ ?_
              rotate_left 2
              · go_simp
                constructor
                · rfl
                · rfl
              refine hK.out _ _ ⟨((blk_cell (blk_below HXU.out (((Below.refl _ W1.drew).alloc (Nat.le_refl _) (.cells #[] 9)).alloc (by simp) (.cells #[.string (strOfNums fb)] 9))) 2).trans rfl), (HCVU.out _ (((Below.refl _ W1.drew).alloc (Nat.le_refl _) (.cells #[] 9)).alloc (by simp) (.cells #[.string (strOfNums fb)] 9)))⟩ (fun hHeld => ?_)
              clear hK K
              refine norm_ (a' := ?_) ?_ ?_
              rotate_left
              · show Act.put _ (some 84) _ = _
                simp only [Act.put, sA, sB, sC, i64_w, i32_w]
                rfl
              refine one_ (i := 3) (N := some 80) #[tt,tt,tt,tt,tt,tt,tt,tt,ff,ff,ff] rfl rfl (by kernel_rfl) (by decide) (fun K hK => ?_)
              refine Kd.R_append_rows_step (Rr := fun x cs => cs = [.string x]) Kd.string (w0 := W1.drew) W1.drew.heap.size (by rfl) (.tmp 78) (.tmp 79) 32 9 (.string ⟨#[]⟩) 16 rfl Tryz.underlying32 infoStrT rfl (by decide) (by decide) (.slice (some ⟨W1.drew.heap.size, 0, none⟩) 0 0) [] rs rA rn rc (fun _ => True) (fun _ => False) rfl rfl (Kd.R_below (lit_s0 W1.drew W1.drew.heap.size (Nat.le_refl _)) ((Below.refl _ _).alloc (Nat.le_refl _) (.cells #[.string (strOfNums fb)] 9))) (HRC.out _ (((Below.refl _ W1.drew).alloc (Nat.le_refl _) (.cells #[] 9)).alloc (by simp) (.cells #[.string (strOfNums fb)] 9))) (fun _ _ h => h) (fun _ hk => hk.elim) (fun _ _ => trivial) (((Below.refl _ W1.drew).alloc (Nat.le_refl _) (.cells #[] 9)).alloc (by simp) (.cells #[.string (strOfNums fb)] 9)) ((((Below.refl _ W1.drew).alloc (Nat.le_refl _) (.cells #[] 9)).alloc (by simp) (.cells #[.string (strOfNums fb)] 9))).size HLR.out.1 ?_
              intro v1 w5x hr hb hg hat
              rw [List.nil_append] at hr
              obtain ⟨A80, c80, e80⟩ := Kd.R_slice hr
              rw [HRL.out.1] at e80
              subst e80
              have q_R := Aside0.mk hr
              have q_B := Aside0.mk hb
              have q_7 := Aside0.mk (blk_grown (heap_alloc_new (W1.drew.alloc (.cells #[] 9)) (.cells #[.string (strOfNums fb)] 9)) hg (by simp [Value.ownBlock]))
              clear hr hb hg hat
              refine hK.out _ _ ⟨((blk_cell (blk_below HXU.out q_B.out) 2).trans rfl), (HCVU.out _ q_B.out)⟩ (fun hHeld => ?_)
              clear hK K
              refine norm_ (a' := ?_) ?_ ?_
              rotate_left
              · show Act.put _ (some 80) _ = _
                simp only [Act.put, sA, sB, sC, i64_w, i32_w]
                rfl
              exact norm_ (by first | (simp only [putAll, Act.put, sA, sB, sC, World.size_alloc]; done) | (simp only [putAll, Act.put, sA, sB, sC, World.size_alloc]; rfl)) (hCont (W1.drew.heap.size, (W1.drew.alloc (.cells #[] 9)).heap.size, A80, c80) _ ⟨⟨((blk_cell (blk_below HXU.out q_B.out) 2).trans rfl), (HCVU.out _ q_B.out)⟩, ⟨q_B.out, q_R.out, q_7.out⟩⟩)
          · skip
            refine value_ (w1 := ?_) (v := ?_) (by rfl) rfl ?_ ?_
            rotate_left 2
            · go_simp
              constructor
              · rfl
              · rfl
            refine hK.out _ _ ⟨((blk_cell (blk_below HXU.out ((Below.refl _ W1.drew).alloc (Nat.le_refl _) (.cells #[.string (strOfNums fb)] 9))) 2).trans rfl), (HCVU.out _ ((Below.refl _ W1.drew).alloc (Nat.le_refl _) (.cells #[.string (strOfNums fb)] 9)))⟩ (fun hHeld => ?_)
            clear hK K
            refine norm_ (a' := ?_) ?_ ?_
            rotate_left
            · show Act.put _ (some 84) _ = _
              simp only [Act.put, sA, sB, sC, i64_w, i32_w]
              rfl
            refine one_ (i := 1) (N := some 78) #[tt,tt,tt,ff,tt,tt,tt,tt,ff,ff,ff] rfl rfl (by kernel_rfl) (by decide) (fun K hK => ?_)
            refine value_ (w1 := ?_) (v := ?_) (by rfl) rfl ?_ ?_
            rotate_left 2
            · go_simp
              constructor
              · rfl
              · rfl
            refine hK.out _ _ ⟨((blk_cell (blk_below HXU.out (((Below.refl _ W1.drew).alloc (Nat.le_refl _) (.cells #[.string (strOfNums fb)] 9)).alloc (by simp) (.cells #[] 9))) 2).trans rfl), (HCVU.out _ (((Below.refl _ W1.drew).alloc (Nat.le_refl _) (.cells #[.string (strOfNums fb)] 9)).alloc (by simp) (.cells #[] 9)))⟩ (fun hHeld => ?_)
            clear hK K
            refine norm_ (a' := ?_) ?_ ?_
            rotate_left
            · show Act.put _ (some 78) _ = _
              simp only [Act.put, sA, sB, sC, i64_w, i32_w]
              rfl
            refine one_ (i := 3) (N := some 80) #[tt,tt,tt,tt,tt,tt,tt,tt,ff,ff,ff] rfl rfl (by kernel_rfl) (by decide) (fun K hK => ?_)
            refine Kd.R_append_rows_step (Rr := fun x cs => cs = [.string x]) Kd.string (w0 := W1.drew) W1.drew.heap.size (by rfl) (.tmp 78) (.tmp 79) 32 9 (.string ⟨#[]⟩) 16 rfl Tryz.underlying32 infoStrT rfl (by decide) (by decide) (.slice (some ⟨W1.heap.size + 1, 0, none⟩) 0 0) [] rs rA rn rc (fun _ => True) (fun _ => False) rfl rfl (show Kd.R Kd.string 9 ((W1.drew.alloc (.cells #[.string (strOfNums fb)] 9)).alloc (.cells #[] 9)) W1.drew.heap.size (fun _ => True) (.slice (some ⟨W1.heap.size + 1, 0, none⟩) 0 0) [] from by have := lit_s0 (W1.drew.alloc (.cells #[.string (strOfNums fb)] 9)) W1.drew.heap.size (by simp); rw [World.size_alloc] at this; exact this) (HRC.out _ (((Below.refl _ W1.drew).alloc (Nat.le_refl _) (.cells #[.string (strOfNums fb)] 9)).alloc (by simp) (.cells #[] 9))) (fun _ _ h => h) (fun _ hk => hk.elim) (fun _ _ => trivial) (((Below.refl _ W1.drew).alloc (Nat.le_refl _) (.cells #[.string (strOfNums fb)] 9)).alloc (by simp) (.cells #[] 9)) ((((Below.refl _ W1.drew).alloc (Nat.le_refl _) (.cells #[.string (strOfNums fb)] 9)).alloc (by simp) (.cells #[] 9))).size HLR.out.1 ?_
            intro v1 w5x hr hb hg hat
            rw [List.nil_append] at hr
            obtain ⟨A80, c80, e80⟩ := Kd.R_slice hr
            rw [HRL.out.1] at e80
            subst e80
            have q_R := Aside0.mk hr
            have q_B := Aside0.mk hb
            have q_7 := Aside0.mk (blk_grown (blk_below (heap_alloc_new W1.drew (.cells #[.string (strOfNums fb)] 9)) ((Below.refl _ (W1.drew.alloc (.cells #[.string (strOfNums fb)] 9))).alloc (Nat.le_refl _) (.cells #[] 9))) hg (by simp [Value.ownBlock]))
            clear hr hb hg hat
            refine hK.out _ _ ⟨((blk_cell (blk_below HXU.out q_B.out) 2).trans rfl), (HCVU.out _ q_B.out)⟩ (fun hHeld => ?_)
            clear hK K
            refine norm_ (a' := ?_) ?_ ?_
            rotate_left
            · show Act.put _ (some 80) _ = _
              simp only [Act.put, sA, sB, sC, i64_w, i32_w]
              rfl
            exact norm_ (by first | (simp only [putAll, Act.put, sA, sB, sC, World.size_alloc]; done) | (simp only [putAll, Act.put, sA, sB, sC, World.size_alloc]; rfl)) (hCont ((W1.drew.alloc (.cells #[.string (strOfNums fb)] 9)).heap.size, W1.drew.heap.size, A80, c80) _ ⟨⟨((blk_cell (blk_below HXU.out q_B.out) 2).trans rfl), (HCVU.out _ q_B.out)⟩, ⟨q_B.out, q_R.out, q_7.out⟩⟩)
        rintro ⟨b78, b84, A80, c80⟩ w6x ⟨hHeld, hM⟩
        have hMID := Aside0.mk hM
        clear hM
        refine norm_ (a' := ?_) ?_ ?_
        rotate_left
        · simp only [putAll, Act.put, sA, sB, sC]
          rfl
        refine one_ (i := 8) (N := some 85) #[tt,tt,tt,tt,tt,tt,tt,tt,tt,ff,ff] rfl rfl (by kernel_rfl) (by decide) (fun K hK => ?_)
        refine Kd.R_append_rows_step (Rr := fun x cs => cs = [.string x]) Kd.string (w0 := W1.drew) W1.drew.heap.size (by rfl) (.tmp 80) (.tmp 84) 32 9 (.string ⟨#[]⟩) 16 rfl Tryz.underlying32 infoStrT rfl (by decide) (by decide) (.slice A80 rn c80) rs [strOfNums fb] (some ⟨b84, 0, none⟩) 1 1 (fun _ => True) (fun _ => False) rfl rfl hMID.out.r (one_str hMID.out.b) (fun _ _ h => h) (fun _ hk => hk.elim) (fun _ _ => trivial) hMID.out.hb hMID.out.hb.size HLR.out.2 ?_
        intro v8 w7x hr hb hg hat
        obtain ⟨A85, c85, e85⟩ := Kd.R_slice hr
        rw [HRN1.out] at e85
        subst e85
        have k_R := Aside0.mk hr
        have k_B := Aside0.mk hb
        clear hr hb hg hat
        refine hK.out _ _ ⟨((blk_cell (blk_below HXU.out k_B.out) 2).trans rfl), (HCVU.out _ k_B.out)⟩ (fun hHeld => ?_)
        clear hK K
        refine norm_ (a' := ?_) ?_ ?_
        rotate_left
        · show Act.put _ (some 85) _ = _
          simp only [Act.put, sA, sB, sC, i64_w, i32_w]
          rfl
        refine pure_ (i := 9) (N := some 19) (v := ?_) (a' := ?_) #[tt,tt,tt,tt,tt,tt,tt,tt,tt,tt,ff] rfl rfl (by kernel_rfl) (fun _ _ _ h => nomatch h.1) (Or.inl ⟨by rfl, ?_⟩) ?_ ?_
        rotate_left
        · intro w'
          go_simp
          with_reducible rfl
        rotate_left
        · simp only [Act.put, sA, sB, sC, i64_w, i32_w]
          rfl
        refine pure_ (i := 10) (N := some 20) (v := ?_) (a' := ?_) #[tt,tt,tt,tt,tt,tt,tt,tt,tt,tt,tt] rfl rfl (by kernel_rfl) (fun _ _ _ h => nomatch h.1) (Or.inl ⟨by rfl, ?_⟩) ?_ ?_
        rotate_left
        · intro w'
          go_simp
          with_reducible rfl
        rotate_left
        · simp only [Act.put, sA, sB, sC, i64_w, i32_w]
          rfl
        refine done_ (by kernel_rfl) ?_
        refine ⟨rfl, ?_⟩
        clear hHeld
        have hbk : Below W1.heap.size W1 w7x := (below_drew1 (Below.refl _ W1)).trans k_B.out
        have HB2 := Aside0.mk (HS1.out.hb.trans (hbk.mono HS1.out.hb.size))
        have HX2 := Aside0.mk (blk_below HX1.out hbk)
        have HRv := Aside0.mk (Kd.R_below HR1.out hbk)
        have HRn := Aside0.mk (Kd.R_below HR2.out hbk)
        have HRw := Aside0.mk (show Kd.R Kd.string 9 w7x w.heap.size (fun _ => True) (.slice A85 rn1 c85) (rs ++ [strOfNums fb]) from Kd.R_lower k_R.out HS1.out.hb.size)
        have HLD2 := Aside0.mk (HLD.out.imp (fun ⟨a, b⟩ => And.intro a (b.below hbk)) (fun ⟨a, b⟩ => And.intro a (b.below hbk)))
        have hcv := HCVU.out _ k_B.out
        clear hbk y0 y1 y2 y3 HLD HR1 HR2 HS1 HX1 HXU HBU0 HRC HCVU HLR hMID
        generalize w7x = W2 at *
        have y0 := (blk_cell HX2.out 0).trans rfl
        have y2 := (blk_cell HX2.out 2).trans rfl
        clear hcv
        rcases HLD2.out with ⟨rfl, hlv⟩ | ⟨rfl, hdd⟩
        · have hcl := live_app hlv (by have := HI.out; omega) HKZ.out (HE.out.step HB2.out) a2 b2 fb (Kd.C_below HCB.out HB2.out) HBU.out.1 (by have := HBU.out.2; omega)
          rw [HBL.out.1] at hcl
          clear HLD2 hlv
          go_upto_region 22 with (go_at_call 9; go_loud (refine (show Calls _ _ _ _ _ from hcl).mono ?_; rintro e W3 ho; have HS3 := Aside0.mk ho.st; obtain ⟨er, rfl, hx⟩ := ho.flat; have HXX := Aside0.mk hx; clear ho hx hcl y0 y2))
          have HB3 := HB2.out.trans HS3.out.hb
          rcases HXX.out with ⟨rfl, hl⟩ | ⟨rfl, hl⟩ | ⟨rfl, hd⟩
          · have HK9 := Aside0.mk (show KpSt w kz (i + 1) s5 g5 (im) nim (.slice A85 rn1 c85) (.slice nA nn nc) false W3 from ⟨HB3, rs ++ [strOfNums fb], nrs, HS3.out.kp.rdS HRw.out, HS3.out.kp.rdS HRn.out, by have := HLE.out.1; rw [List.length_append, List.length_singleton]; omega, by have := HLE.out.2; omega, .inl ⟨rfl, hl⟩⟩)
            clear HXX hl HB3
            have HJ9 := Aside0.mk (show -9223372036854775808 ≤ (i : Int) + 1 ∧ (i : Int) + 1 ≤ 9223372036854775807 by have := HI.out; omega)
            have hwi : wrap64 ((i : Int) + 1) = (i : Int) + 1 := wrap_in HJ9.out.1 HJ9.out.2
            clear hlt
            go_wp2_with fail
            go_roundw
            case rel => exact ⟨i + 1, _, _, _, _, _, rfl, rfl, rfl, rfl, rfl, by rw [hwi]; rfl, by have := HI.out; omega, HK9.out⟩
            case measure =>
              have hw2 : wrap64 ((i : Int) + ((1 : Nat) : Int)) = ((i + 1 : Nat) : Int) := by rw [show ((1 : Nat) : Int) = 1 from rfl, hwi]; rfl
              exact ms_lt n i 1 (by have := HI.out; clear hwi hw2; omega) hw2
          · have HK9 := Aside0.mk (show KpSt w kz (i + 1) s5 g5 im nim (.slice rA rn rc) (.slice nA nn nc) false W3 from ⟨HB3, rs, nrs, HS3.out.kp.rdS HRv.out, HS3.out.kp.rdS HRn.out, by have := HLE.out.1; omega, by have := HLE.out.2; omega, .inl ⟨rfl, hl⟩⟩)
            clear HXX hl HB3
            have HJ9 := Aside0.mk (show -9223372036854775808 ≤ (i : Int) + 1 ∧ (i : Int) + 1 ≤ 9223372036854775807 by have := HI.out; omega)
            have hwi : wrap64 ((i : Int) + 1) = (i : Int) + 1 := wrap_in HJ9.out.1 HJ9.out.2
            clear hlt
            go_wp2_with fail
            go_roundw
            case rel => exact ⟨i + 1, _, _, _, _, _, rfl, rfl, rfl, rfl, rfl, by rw [hwi]; rfl, by have := HI.out; omega, HK9.out⟩
            case measure =>
              have hw2 : wrap64 ((i : Int) + ((1 : Nat) : Int)) = ((i + 1 : Nat) : Int) := by rw [show ((1 : Nat) : Int) = 1 from rfl, hwi]; rfl
              exact ms_lt n i 1 (by have := HI.out; clear hwi hw2; omega) hw2
          · have HK9 := Aside0.mk (show KpSt w kz (i + 1) s5 g5 im (im) (.slice rA rn rc) (.slice A85 rn1 c85) true W3 from ⟨HB3, rs, rs ++ [strOfNums fb], HS3.out.kp.rdS HRv.out, HS3.out.kp.rdS HRw.out, by have := HLE.out.1; omega, by have := HLE.out.1; rw [List.length_append, List.length_singleton]; omega, .inr ⟨rfl, hd⟩⟩)
            clear HXX hd HB3
            have HJ9 := Aside0.mk (show -9223372036854775808 ≤ (i : Int) + 1 ∧ (i : Int) + 1 ≤ 9223372036854775807 by have := HI.out; omega)
            have hwi : wrap64 ((i : Int) + 1) = (i : Int) + 1 := wrap_in HJ9.out.1 HJ9.out.2
            clear hlt
            go_wp2_with fail
            go_roundw
            case rel => exact ⟨i + 1, _, _, _, _, _, rfl, rfl, rfl, rfl, rfl, by rw [hwi]; rfl, by have := HI.out; omega, HK9.out⟩
            case measure =>
              have hw2 : wrap64 ((i : Int) + ((1 : Nat) : Int)) = ((i + 1 : Nat) : Int) := by rw [show ((1 : Nat) : Int) = 1 from rfl, hwi]; rfl
              exact ms_lt n i 1 (by have := HI.out; clear hwi hw2; omega) hw2
        · have hcl := dead_app hdd (by have := HI.out; omega) (HE.out.step HB2.out) a2 b2 fb (Kd.C_below HCB.out HB2.out) HBU.out.1 (by have := HBU.out.2; omega)
          rw [HBL.out.1] at hcl
          clear HLD2 hdd
          go_upto_region 22 with (go_at_call 9; go_loud (refine (show Calls _ _ _ _ _ from hcl).mono ?_; rintro e W3 ho; obtain rfl := ho.ret; have HK9 := Aside0.mk (show KpSt w kz (i + 1) s5 g5 im nim (.slice rA rn rc) (.slice nA nn nc) true W3 from ⟨HB2.out.trans ho.st.hb, rs, nrs, ho.st.kp.rdS HRv.out, ho.st.kp.rdS HRn.out, by have := HLE.out.1; omega, by have := HLE.out.2; omega, .inr ⟨rfl, ho.dd⟩⟩); clear ho hcl y0 y2))
          have HJ9 := Aside0.mk (show -9223372036854775808 ≤ (i : Int) + 1 ∧ (i : Int) + 1 ≤ 9223372036854775807 by have := HI.out; omega)
          have hwi : wrap64 ((i : Int) + 1) = (i : Int) + 1 := wrap_in HJ9.out.1 HJ9.out.2
          clear hlt
          go_wp2_with fail
          go_roundw
          case rel => exact ⟨i + 1, _, _, _, _, _, rfl, rfl, rfl, rfl, rfl, by rw [hwi]; rfl, by have := HI.out; omega, HK9.out⟩
          case measure =>
            have hw2 : wrap64 ((i : Int) + ((1 : Nat) : Int)) = ((i + 1 : Nat) : Int) := by rw [show ((1 : Nat) : Int) = 1 from rfl, hwi]; rfl
            exact ms_lt n i 1 (by have := HI.out; clear hwi hw2; omega) hw2
      · by_cases k2 : f0 = 2
        · subst k2
          go_upto_region 16 with fail
          have HXU := Aside0.mk (blk_drew HX1.out)
          have HBU0 := Aside0.mk (HS1.out.hb.trans ((below_drew1 (Below.refl _ W1)).mono HS1.out.hb.size))
          obtain ⟨rs, nrs, hR1, hR2, hl1, hl2, hLD⟩ := HS1.out.ex
          have hrn : rs.length = rn := by have := (Kd.R_reads' hR1).1; omega
          have HRL := Aside0.mk (show rs.length = rn ∧ True from ⟨hrn, trivial⟩)
          have HR1 := Aside0.mk hR1
          have HR2 := Aside0.mk hR2
          have HLD := Aside0.mk hLD
          have HRC := Aside0.mk (fun (W : World) (hb : Below W1.drew.heap.size W1.drew W) => show ReadsRow (fun x cs => cs = [.string x]) Kd.string.sz W rA rn rs from by have := (Kd.R_reads' (Kd.R_below (Kd.R_below hR1 (below_drew1 (Below.refl _ W1))) hb)).2.2; rw [hrn] at this; exact this)
          have HCVU := Aside0.mk (fun (W : World) (hb : Below W1.drew.heap.size W1.drew W) => show (convert 22 9 (.slice a2 bl b2)).run Tryz.prog W = .ok (.string (strOfNums fb)) W from by
            have := Kd.C_string (P := Tryz.prog) (A := a2) (c := b2) Tryz.underlying22 Tryz.underlying5 Tryz.underlying9 (Kd.C_below HCB.out (HBU0.out.trans (hb.mono HBU0.out.size)))
            rw [HBL.out.1] at this
            exact this)
          have HLR := Aside0.mk (show (([] : List ByteArray).length + rn) * 16 ≤ 140737488355328 ∧ (rs.length + 1) * 16 ≤ 140737488355328 by
            have h1 := HI.out
            simp only [List.length_nil]
            omega)
          obtain ⟨rn1, hrn1⟩ : ∃ rn1, (rs ++ [strOfNums fb]).length = rn1 := ⟨_, rfl⟩
          have HRN1 := Aside0.mk hrn1
          have HLE := Aside0.mk (And.intro hl1 hl2)
          clear hR1 hR2 hl1 hl2 hLD hrn hrn1
          refine wp_mono (Q := fun e a w => e = .normal ∧ _) ?_ (fun e a w h => h.2)
          refine start_ (n := 11) (S := fun w' => w'.cell? ⟨xb, 2, none⟩ = some (.slice a2 bl b2) ∧ (convert 22 9 (.slice a2 bl b2)).run Tryz.prog w' = .ok (.string (strOfNums fb)) w') (ds := []) #[ff,ff,ff,ff,ff,ff,ff,ff,ff,ff,ff] (by kernel_rfl) rfl rfl ⟨((blk_cell (blk_below HXU.out (Below.refl _ W1.drew)) 2).trans rfl), (HCVU.out _ (Below.refl _ W1.drew))⟩ (fun hHeld => ?_)
          refine pure_ (i := 0) (N := some 77) (v := ?_) (a' := ?_) #[tt,ff,ff,ff,ff,ff,ff,ff,ff,ff,ff] rfl rfl (by kernel_rfl) (fun _ _ _ h => nomatch h.1) (Or.inl ⟨by rfl, ?_⟩) ?_ ?_
          rotate_left
          · intro w'
            go_simp
            with_reducible rfl
          rotate_left
          · simp only [Act.put, sA, sB, sC, i64_w, i32_w]
            rfl
          refine pure_ (i := 2) (N := some 79) (v := ?_) (a' := ?_) #[tt,ff,tt,ff,ff,ff,ff,ff,ff,ff,ff] rfl rfl (by kernel_rfl) (fun _ _ _ h => nomatch h.1) (Or.inl ⟨by rfl, ?_⟩) ?_ ?_
          rotate_left
          · intro w'
            go_simp
            with_reducible rfl
          rotate_left
          · simp only [Act.put, sA, sB, sC, i64_w, i32_w]
            rfl
          refine pure_ (i := 4) (N := some 81) (v := ?_) (a' := ?_) #[tt,ff,tt,ff,tt,ff,ff,ff,ff,ff,ff] rfl rfl (by kernel_rfl) (fun _ _ _ h => nomatch h.1) (Or.inl ⟨by rfl, ?_⟩) ?_ ?_
          rotate_left
          · intro w'
            go_simp
            with_reducible rfl
          rotate_left
          · simp only [Act.put, sA, sB, sC, i64_w, i32_w]
            rfl
          refine take_ (i := 5) (N := some 82) (v := ?_) (a' := ?_) #[tt,ff,tt,ff,tt,tt,ff,ff,ff,ff,ff] rfl rfl (by kernel_rfl) (fun _ _ _ h => nomatch h.1) (Or.inl ⟨by rfl, ?_⟩) hHeld ?_ ?_
          rotate_left
          · rintro w' ⟨s0, s1⟩
            go_simp
            with_reducible rfl
          rotate_left
          · simp only [Act.put, sA, sB, sC, i64_w, i32_w]
            rfl
          refine take_ (i := 6) (N := some 83) (v := ?_) (a' := ?_) #[tt,ff,tt,ff,tt,tt,tt,ff,ff,ff,ff] rfl rfl (by kernel_rfl) (fun _ _ _ h => nomatch h.1) (Or.inl ⟨by rfl, ?_⟩) hHeld ?_ ?_
          rotate_left
          · rintro w' ⟨s0, s1⟩
            go_simp
            with_reducible rfl
          rotate_left
          · simp only [Act.put, sA, sB, sC, i64_w, i32_w]
            rfl
          refine join_ (σ := Nat × Nat × Option Addr × Nat) 3 #[tt,tt,tt,tt,tt,tt,tt,tt,ff,ff,ff] (fun s_ => [(78, .slice (some ⟨s_.1, 0, none⟩) 0 0), (80, .slice s_.2.2.1 rn s_.2.2.2), (84, .slice (some ⟨s_.2.1, 0, none⟩) 1 1)]) (fun s_ w' => (w'.cell? ⟨xb, 2, none⟩ = some (.slice a2 bl b2) ∧ (convert 22 9 (.slice a2 bl b2)).run Tryz.prog w' = .ok (.string (strOfNums fb)) w') ∧ KMid W1.drew rs rn (strOfNums fb) s_ w') ?_ ?_
          rotate_left
          · intro hCont
            refine two_ (i := 1) (j := 7) (Ni := some 78) (Nj := some 84) #[tt,tt,tt,ff,tt,tt,tt,ff,ff,ff,ff] #[tt,ff,tt,ff,tt,tt,tt,tt,ff,ff,ff] rfl rfl rfl rfl (by kernel_rfl) (by decide) (by decide) (fun K hK => ?_) (fun K hK => ?_)
            · skip
              refine value_ (w1 := ?_) (v := ?_) (by rfl) rfl ?_ ?_
              rotate_left 2
              · go_simp
                constructor
                · rfl
                · rfl
              refine hK.out _ _ ⟨((blk_cell (blk_below HXU.out ((Below.refl _ W1.drew).alloc (Nat.le_refl _) (.cells #[] 9))) 2).trans rfl), (HCVU.out _ ((Below.refl _ W1.drew).alloc (Nat.le_refl _) (.cells #[] 9)))⟩ (fun hHeld => ?_)
              clear hK K
              refine norm_ (a' := ?_) ?_ ?_
              rotate_left
              · show Act.put _ (some 78) _ = _
                simp only [Act.put, sA, sB, sC, i64_w, i32_w]
                rfl
              refine two_ (i := 3) (j := 7) (Ni := some 80) (Nj := some 84) #[tt,tt,tt,tt,tt,tt,tt,ff,ff,ff,ff] #[tt,tt,tt,ff,tt,tt,tt,tt,ff,ff,ff] rfl rfl rfl rfl (by kernel_rfl) (by decide) (by decide) (fun K hK => ?_) (fun K hK => ?_)
              · skip
                refine Kd.R_append_rows_step (Rr := fun x cs => cs = [.string x]) Kd.string (w0 := W1.drew) W1.drew.heap.size (by rfl) (.tmp 78) (.tmp 79) 32 9 (.string ⟨#[]⟩) 16 rfl Tryz.underlying32 infoStrT rfl (by decide) (by decide) (.slice (some ⟨W1.drew.heap.size, 0, none⟩) 0 0) [] rs rA rn rc (fun _ => True) (fun _ => False) rfl rfl (lit_s0 W1.drew W1.drew.heap.size (Nat.le_refl _)) (HRC.out _ ((Below.refl _ W1.drew).alloc (Nat.le_refl _) (.cells #[] 9))) (fun _ _ h => h) (fun _ hk => hk.elim) (fun _ _ => trivial) ((Below.refl _ W1.drew).alloc (Nat.le_refl _) (.cells #[] 9)) (((Below.refl _ W1.drew).alloc (Nat.le_refl _) (.cells #[] 9))).size HLR.out.1 ?_
                intro v1 w5x hr hb hg hat
                rw [List.nil_append] at hr
                obtain ⟨A80, c80, e80⟩ := Kd.R_slice hr
                rw [HRL.out.1] at e80
                subst e80
                have q_R := Aside0.mk hr
                have q_B := Aside0.mk hb
                clear hr hb hg hat
                refine hK.out _ _ ⟨((blk_cell (blk_below HXU.out q_B.out) 2).trans rfl), (HCVU.out _ q_B.out)⟩ (fun hHeld => ?_)
                clear hK K
                refine norm_ (a' := ?_) ?_ ?_
                rotate_left
                · show Act.put _ (some 80) _ = _
                  simp only [Act.put, sA, sB, sC, i64_w, i32_w]
                  rfl
                refine one_ (i := 7) (N := some 84) #[tt,tt,tt,tt,tt,tt,tt,tt,ff,ff,ff] rfl rfl (by kernel_rfl) (by decide) (fun K hK => ?_)
                refine value_ (w1 := ?_) (v := ?_) (by rfl) rfl ?_ ?_
                rotate_left 2
                · go_simp
                  constructor
                  · rfl
                  · rfl
                refine hK.out _ _ ⟨((blk_cell (blk_below HXU.out (q_B.out.alloc q_B.out.size (.cells #[.string (strOfNums fb)] 9))) 2).trans rfl), (HCVU.out _ (q_B.out.alloc q_B.out.size (.cells #[.string (strOfNums fb)] 9)))⟩ (fun hHeld => ?_)
                clear hK K
                refine norm_ (a' := ?_) ?_ ?_
                rotate_left
                · show Act.put _ (some 84) _ = _
                  simp only [Act.put, sA, sB, sC, i64_w, i32_w]
                  rfl
                exact norm_ (by first | (simp only [putAll, Act.put, sA, sB, sC, World.size_alloc]; done) | (simp only [putAll, Act.put, sA, sB, sC, World.size_alloc]; rfl)) (hCont (W1.drew.heap.size, w5x.heap.size, A80, c80) _ ⟨⟨((blk_cell (blk_below HXU.out (q_B.out.alloc q_B.out.size (.cells #[.string (strOfNums fb)] 9))) 2).trans rfl), (HCVU.out _ (q_B.out.alloc q_B.out.size (.cells #[.string (strOfNums fb)] 9)))⟩, ⟨q_B.out.alloc q_B.out.size _, Kd.R_below q_R.out ((Below.refl _ _).alloc (Nat.le_refl _) _), heap_alloc_new _ _⟩⟩)
              · skip
                refine value_ (w1 := ?_) (v := ?_) (by rfl) rfl ?_ ?_
                rotate_left 2
                · go_simp
                  constructor
                  · rfl
                  · rfl
                refine hK.out _ _ ⟨((blk_cell (blk_below HXU.out (((Below.refl _ W1.drew).alloc (Nat.le_refl _) (.cells #[] 9)).alloc (by simp) (.cells #[.string (strOfNums fb)] 9))) 2).trans rfl), (HCVU.out _ (((Below.refl _ W1.drew).alloc (Nat.le_refl _) (.cells #[] 9)).alloc (by simp) (.cells #[.string (strOfNums fb)] 9)))⟩ (fun hHeld => ?_)
                clear hK K
                refine norm_ (a' := ?_) ?_ ?_
                rotate_left
                · show Act.put _ (some 84) _ = _
                  simp only [Act.put, sA, sB, sC, i64_w, i32_w]
                  rfl
                refine one_ (i := 3) (N := some 80) #[tt,tt,tt,tt,tt,tt,tt,tt,ff,ff,ff] rfl rfl (by kernel_rfl) (by decide) (fun K hK => ?_)
                refine Kd.R_append_rows_step (Rr := fun x cs => cs = [.string x]) Kd.string (w0 := W1.drew) W1.drew.heap.size (by rfl) (.tmp 78) (.tmp 79) 32 9 (.string ⟨#[]⟩) 16 rfl Tryz.underlying32 infoStrT rfl (by decide) (by decide) (.slice (some ⟨W1.drew.heap.size, 0, none⟩) 0 0) [] rs rA rn rc (fun _ => True) (fun _ => False) rfl rfl (Kd.R_below (lit_s0 W1.drew W1.drew.heap.size (Nat.le_refl _)) ((Below.refl _ _).alloc (Nat.le_refl _) (.cells #[.string (strOfNums fb)] 9))) (HRC.out _ (((Below.refl _ W1.drew).alloc (Nat.le_refl _) (.cells #[] 9)).alloc (by simp) (.cells #[.string (strOfNums fb)] 9))) (fun _ _ h => h) (fun _ hk => hk.elim) (fun _ _ => trivial) (((Below.refl _ W1.drew).alloc (Nat.le_refl _) (.cells #[] 9)).alloc (by simp) (.cells #[.string (strOfNums fb)] 9)) ((((Below.refl _ W1.drew).alloc (Nat.le_refl _) (.cells #[] 9)).alloc (by simp) (.cells #[.string (strOfNums fb)] 9))).size HLR.out.1 ?_
                intro v1 w5x hr hb hg hat
                rw [List.nil_append] at hr
                obtain ⟨A80, c80, e80⟩ := Kd.R_slice hr
                rw [HRL.out.1] at e80
                subst e80
                have q_R := Aside0.mk hr
                have q_B := Aside0.mk hb
                have q_7 := Aside0.mk (blk_grown (heap_alloc_new (W1.drew.alloc (.cells #[] 9)) (.cells #[.string (strOfNums fb)] 9)) hg (by simp [Value.ownBlock]))
                clear hr hb hg hat
                refine hK.out _ _ ⟨((blk_cell (blk_below HXU.out q_B.out) 2).trans rfl), (HCVU.out _ q_B.out)⟩ (fun hHeld => ?_)
                clear hK K
                refine norm_ (a' := ?_) ?_ ?_
                rotate_left
                · show Act.put _ (some 80) _ = _
                  simp only [Act.put, sA, sB, sC, i64_w, i32_w]
                  rfl
                exact norm_ (by first | (simp only [putAll, Act.put, sA, sB, sC, World.size_alloc]; done) | (simp only [putAll, Act.put, sA, sB, sC, World.size_alloc]; rfl)) (hCont (W1.drew.heap.size, (W1.drew.alloc (.cells #[] 9)).heap.size, A80, c80) _ ⟨⟨((blk_cell (blk_below HXU.out q_B.out) 2).trans rfl), (HCVU.out _ q_B.out)⟩, ⟨q_B.out, q_R.out, q_7.out⟩⟩)
            · skip
              refine value_ (w1 := ?_) (v := ?_) (by rfl) rfl ?_ ?_
              rotate_left 2
              · go_simp
                constructor
                · rfl
                · rfl
              refine hK.out _ _ ⟨((blk_cell (blk_below HXU.out ((Below.refl _ W1.drew).alloc (Nat.le_refl _) (.cells #[.string (strOfNums fb)] 9))) 2).trans rfl), (HCVU.out _ ((Below.refl _ W1.drew).alloc (Nat.le_refl _) (.cells #[.string (strOfNums fb)] 9)))⟩ (fun hHeld => ?_)
              clear hK K
              refine norm_ (a' := ?_) ?_ ?_
              rotate_left
              · show Act.put _ (some 84) _ = _
                simp only [Act.put, sA, sB, sC, i64_w, i32_w]
                rfl
              refine one_ (i := 1) (N := some 78) #[tt,tt,tt,ff,tt,tt,tt,tt,ff,ff,ff] rfl rfl (by kernel_rfl) (by decide) (fun K hK => ?_)
              refine value_ (w1 := ?_) (v := ?_) (by rfl) rfl ?_ ?_
              rotate_left 2
              · go_simp
                constructor
                · rfl
                · rfl
              refine hK.out _ _ ⟨((blk_cell (blk_below HXU.out (((Below.refl _ W1.drew).alloc (Nat.le_refl _) (.cells #[.string (strOfNums fb)] 9)).alloc (by simp) (.cells #[] 9))) 2).trans rfl), (HCVU.out _ (((Below.refl _ W1.drew).alloc (Nat.le_refl _) (.cells #[.string (strOfNums fb)] 9)).alloc (by simp) (.cells #[] 9)))⟩ (fun hHeld => ?_)
              clear hK K
              refine norm_ (a' := ?_) ?_ ?_
              rotate_left
              · show Act.put _ (some 78) _ = _
                simp only [Act.put, sA, sB, sC, i64_w, i32_w]
                rfl
              refine one_ (i := 3) (N := some 80) #[tt,tt,tt,tt,tt,tt,tt,tt,ff,ff,ff] rfl rfl (by kernel_rfl) (by decide) (fun K hK => ?_)
              refine Kd.R_append_rows_step (Rr := fun x cs => cs = [.string x]) Kd.string (w0 := W1.drew) W1.drew.heap.size (by rfl) (.tmp 78) (.tmp 79) 32 9 (.string ⟨#[]⟩) 16 rfl Tryz.underlying32 infoStrT rfl (by decide) (by decide) (.slice (some ⟨W1.heap.size + 1, 0, none⟩) 0 0) [] rs rA rn rc (fun _ => True) (fun _ => False) rfl rfl (show Kd.R Kd.string 9 ((W1.drew.alloc (.cells #[.string (strOfNums fb)] 9)).alloc (.cells #[] 9)) W1.drew.heap.size (fun _ => True) (.slice (some ⟨W1.heap.size + 1, 0, none⟩) 0 0) [] from by have := lit_s0 (W1.drew.alloc (.cells #[.string (strOfNums fb)] 9)) W1.drew.heap.size (by simp); rw [World.size_alloc] at this; exact this) (HRC.out _ (((Below.refl _ W1.drew).alloc (Nat.le_refl _) (.cells #[.string (strOfNums fb)] 9)).alloc (by simp) (.cells #[] 9))) (fun _ _ h => h) (fun _ hk => hk.elim) (fun _ _ => trivial) (((Below.refl _ W1.drew).alloc (Nat.le_refl _) (.cells #[.string (strOfNums fb)] 9)).alloc (by simp) (.cells #[] 9)) ((((Below.refl _ W1.drew).alloc (Nat.le_refl _) (.cells #[.string (strOfNums fb)] 9)).alloc (by simp) (.cells #[] 9))).size HLR.out.1 ?_
              intro v1 w5x hr hb hg hat
              rw [List.nil_append] at hr
              obtain ⟨A80, c80, e80⟩ := Kd.R_slice hr
              rw [HRL.out.1] at e80
              subst e80
              have q_R := Aside0.mk hr
              have q_B := Aside0.mk hb
              have q_7 := Aside0.mk (blk_grown (blk_below (heap_alloc_new W1.drew (.cells #[.string (strOfNums fb)] 9)) ((Below.refl _ (W1.drew.alloc (.cells #[.string (strOfNums fb)] 9))).alloc (Nat.le_refl _) (.cells #[] 9))) hg (by simp [Value.ownBlock]))
              clear hr hb hg hat
              refine hK.out _ _ ⟨((blk_cell (blk_below HXU.out q_B.out) 2).trans rfl), (HCVU.out _ q_B.out)⟩ (fun hHeld => ?_)
              clear hK K
              refine norm_ (a' := ?_) ?_ ?_
              rotate_left
              · show Act.put _ (some 80) _ = _
                simp only [Act.put, sA, sB, sC, i64_w, i32_w]
                rfl
              exact norm_ (by first | (simp only [putAll, Act.put, sA, sB, sC, World.size_alloc]; done) | (simp only [putAll, Act.put, sA, sB, sC, World.size_alloc]; rfl)) (hCont ((W1.drew.alloc (.cells #[.string (strOfNums fb)] 9)).heap.size, W1.drew.heap.size, A80, c80) _ ⟨⟨((blk_cell (blk_below HXU.out q_B.out) 2).trans rfl), (HCVU.out _ q_B.out)⟩, ⟨q_B.out, q_R.out, q_7.out⟩⟩)
          rintro ⟨b78, b84, A80, c80⟩ w6x ⟨hHeld, hM⟩
          have hMID := Aside0.mk hM
          clear hM
          refine norm_ (a' := ?_) ?_ ?_
          rotate_left
          · simp only [putAll, Act.put, sA, sB, sC]
            rfl
          refine one_ (i := 8) (N := some 85) #[tt,tt,tt,tt,tt,tt,tt,tt,tt,ff,ff] rfl rfl (by kernel_rfl) (by decide) (fun K hK => ?_)
          refine Kd.R_append_rows_step (Rr := fun x cs => cs = [.string x]) Kd.string (w0 := W1.drew) W1.drew.heap.size (by rfl) (.tmp 80) (.tmp 84) 32 9 (.string ⟨#[]⟩) 16 rfl Tryz.underlying32 infoStrT rfl (by decide) (by decide) (.slice A80 rn c80) rs [strOfNums fb] (some ⟨b84, 0, none⟩) 1 1 (fun _ => True) (fun _ => False) rfl rfl hMID.out.r (one_str hMID.out.b) (fun _ _ h => h) (fun _ hk => hk.elim) (fun _ _ => trivial) hMID.out.hb hMID.out.hb.size HLR.out.2 ?_
          intro v8 w7x hr hb hg hat
          obtain ⟨A85, c85, e85⟩ := Kd.R_slice hr
          rw [HRN1.out] at e85
          subst e85
          have k_R := Aside0.mk hr
          have k_B := Aside0.mk hb
          clear hr hb hg hat
          refine hK.out _ _ ⟨((blk_cell (blk_below HXU.out k_B.out) 2).trans rfl), (HCVU.out _ k_B.out)⟩ (fun hHeld => ?_)
          clear hK K
          refine norm_ (a' := ?_) ?_ ?_
          rotate_left
          · show Act.put _ (some 85) _ = _
            simp only [Act.put, sA, sB, sC, i64_w, i32_w]
            rfl
          refine pure_ (i := 9) (N := some 19) (v := ?_) (a' := ?_) #[tt,tt,tt,tt,tt,tt,tt,tt,tt,tt,ff] rfl rfl (by kernel_rfl) (fun _ _ _ h => nomatch h.1) (Or.inl ⟨by rfl, ?_⟩) ?_ ?_
          rotate_left
          · intro w'
            go_simp
            with_reducible rfl
          rotate_left
          · simp only [Act.put, sA, sB, sC, i64_w, i32_w]
            rfl
          refine pure_ (i := 10) (N := some 20) (v := ?_) (a' := ?_) #[tt,tt,tt,tt,tt,tt,tt,tt,tt,tt,tt] rfl rfl (by kernel_rfl) (fun _ _ _ h => nomatch h.1) (Or.inl ⟨by rfl, ?_⟩) ?_ ?_
          rotate_left
          · intro w'
            go_simp
            with_reducible rfl
          rotate_left
          · simp only [Act.put, sA, sB, sC, i64_w, i32_w]
            rfl
          refine done_ (by kernel_rfl) ?_
          refine ⟨rfl, ?_⟩
          clear hHeld
          have hbk : Below W1.heap.size W1 w7x := (below_drew1 (Below.refl _ W1)).trans k_B.out
          have HB2 := Aside0.mk (HS1.out.hb.trans (hbk.mono HS1.out.hb.size))
          have HX2 := Aside0.mk (blk_below HX1.out hbk)
          have HRv := Aside0.mk (Kd.R_below HR1.out hbk)
          have HRn := Aside0.mk (Kd.R_below HR2.out hbk)
          have HRw := Aside0.mk (show Kd.R Kd.string 9 w7x w.heap.size (fun _ => True) (.slice A85 rn1 c85) (rs ++ [strOfNums fb]) from Kd.R_lower k_R.out HS1.out.hb.size)
          have HLD2 := Aside0.mk (HLD.out.imp (fun ⟨a, b⟩ => And.intro a (b.below hbk)) (fun ⟨a, b⟩ => And.intro a (b.below hbk)))
          have hcv := HCVU.out _ k_B.out
          clear hbk y0 y1 y2 y3 HLD HR1 HR2 HS1 HX1 HXU HBU0 HRC HCVU HLR hMID
          generalize w7x = W2 at *
          have y0 := (blk_cell HX2.out 0).trans rfl
          have y2 := (blk_cell HX2.out 2).trans rfl
          go_upto_region 21 with fail
          have hbk : Below W2.heap.size W2 (W2.alloc (.cells #[] 9)) := (Below.refl _ W2).alloc (Nat.le_refl _) _
          have hrw := lit_s0 W2 w.heap.size HB2.out.size
          have hx2 := blk_below HX2.out hbk
          have hrv := Kd.R_below HRv.out hbk
          have hrn := Kd.R_below HRn.out hbk
          have hld := HLD2.out.imp (fun ⟨a, b⟩ => And.intro a (b.below hbk)) (fun ⟨a, b⟩ => And.intro a (b.below hbk))
          have hb2 := HB2.out.trans (hbk.mono HB2.out.size)
          clear HRw HX2 HRv HRn HLD2 HB2 hcv y0 y2 k_R k_B
          obtain ⟨eb, heb⟩ : ∃ eb, W2.heap.size = eb := ⟨_, rfl⟩
          rw [heb] at hrw ⊢
          generalize W2.alloc (.cells #[] 9) = W2b at hbk hrw hx2 hrv hrn hld hb2 ⊢
          have HRw := Aside0.mk hrw
          have HX2 := Aside0.mk hx2
          have HRv := Aside0.mk hrv
          have HRn := Aside0.mk hrn
          have HLD2 := Aside0.mk hld
          have HB2 := Aside0.mk hb2
          have y0 := (blk_cell hx2 0).trans rfl
          have y2 := (blk_cell hx2 2).trans rfl
          clear hbk hrw hx2 hrv hrn hld hb2 heb
          rcases HLD2.out with ⟨rfl, hlv⟩ | ⟨rfl, hdd⟩
          · have hcl := live_sav hlv (by have := HI.out; omega) HKZ.out (HE.out.step HB2.out) a2 b2 fb (Kd.C_below HCB.out HB2.out) HBU.out.1 (by have := HBU.out.2; omega)
            rw [HBL.out.1] at hcl
            clear HLD2 hlv
            go_upto_region 22 with (go_at_call 10; go_loud (refine (show Calls _ _ _ _ _ from hcl).mono ?_; rintro e W3 ho; have HS3 := Aside0.mk ho.st; obtain ⟨er, rfl, hx⟩ := ho.flat; have HXX := Aside0.mk hx; clear ho hx hcl y0 y2))
            have HB3 := HB2.out.trans HS3.out.hb
            rcases HXX.out with ⟨rfl, hl⟩ | ⟨rfl, hl⟩ | ⟨rfl, hd⟩
            · have HK9 := Aside0.mk (show KpSt w kz (i + 1) s5 g5 (strOfNums fb) nim (.slice (some ⟨eb, 0, none⟩) 0 0) (.slice nA nn nc) false W3 from ⟨HB3, [], nrs, HS3.out.kp.rdS HRw.out, HS3.out.kp.rdS HRn.out, by simp, by have := HLE.out.2; omega, .inl ⟨rfl, hl⟩⟩)
              clear HXX hl HB3
              have HJ9 := Aside0.mk (show -9223372036854775808 ≤ (i : Int) + 1 ∧ (i : Int) + 1 ≤ 9223372036854775807 by have := HI.out; omega)
              have hwi : wrap64 ((i : Int) + 1) = (i : Int) + 1 := wrap_in HJ9.out.1 HJ9.out.2
              clear hlt
              go_wp2_with fail
              go_roundw
              case rel => exact ⟨i + 1, _, _, _, _, _, rfl, rfl, rfl, rfl, rfl, by rw [hwi]; rfl, by have := HI.out; omega, HK9.out⟩
              case measure =>
                have hw2 : wrap64 ((i : Int) + ((1 : Nat) : Int)) = ((i + 1 : Nat) : Int) := by rw [show ((1 : Nat) : Int) = 1 from rfl, hwi]; rfl
                exact ms_lt n i 1 (by have := HI.out; clear hwi hw2; omega) hw2
            · have HK9 := Aside0.mk (show KpSt w kz (i + 1) s5 g5 im nim (.slice rA rn rc) (.slice nA nn nc) false W3 from ⟨HB3, rs, nrs, HS3.out.kp.rdS HRv.out, HS3.out.kp.rdS HRn.out, by have := HLE.out.1; omega, by have := HLE.out.2; omega, .inl ⟨rfl, hl⟩⟩)
              clear HXX hl HB3
              have HJ9 := Aside0.mk (show -9223372036854775808 ≤ (i : Int) + 1 ∧ (i : Int) + 1 ≤ 9223372036854775807 by have := HI.out; omega)
              have hwi : wrap64 ((i : Int) + 1) = (i : Int) + 1 := wrap_in HJ9.out.1 HJ9.out.2
              clear hlt
              go_wp2_with fail
              go_roundw
              case rel => exact ⟨i + 1, _, _, _, _, _, rfl, rfl, rfl, rfl, rfl, by rw [hwi]; rfl, by have := HI.out; omega, HK9.out⟩
              case measure =>
                have hw2 : wrap64 ((i : Int) + ((1 : Nat) : Int)) = ((i + 1 : Nat) : Int) := by rw [show ((1 : Nat) : Int) = 1 from rfl, hwi]; rfl
                exact ms_lt n i 1 (by have := HI.out; clear hwi hw2; omega) hw2
            · have HK9 := Aside0.mk (show KpSt w kz (i + 1) s5 g5 im (strOfNums fb) (.slice rA rn rc) (.slice (some ⟨eb, 0, none⟩) 0 0) true W3 from ⟨HB3, rs, [], HS3.out.kp.rdS HRv.out, HS3.out.kp.rdS HRw.out, by have := HLE.out.1; omega, by simp, .inr ⟨rfl, hd⟩⟩)
              clear HXX hd HB3
              have HJ9 := Aside0.mk (show -9223372036854775808 ≤ (i : Int) + 1 ∧ (i : Int) + 1 ≤ 9223372036854775807 by have := HI.out; omega)
              have hwi : wrap64 ((i : Int) + 1) = (i : Int) + 1 := wrap_in HJ9.out.1 HJ9.out.2
              clear hlt
              go_wp2_with fail
              go_roundw
              case rel => exact ⟨i + 1, _, _, _, _, _, rfl, rfl, rfl, rfl, rfl, by rw [hwi]; rfl, by have := HI.out; omega, HK9.out⟩
              case measure =>
                have hw2 : wrap64 ((i : Int) + ((1 : Nat) : Int)) = ((i + 1 : Nat) : Int) := by rw [show ((1 : Nat) : Int) = 1 from rfl, hwi]; rfl
                exact ms_lt n i 1 (by have := HI.out; clear hwi hw2; omega) hw2
          · have hcl := dead_sav hdd (by have := HI.out; omega) (HE.out.step HB2.out) a2 b2 fb (Kd.C_below HCB.out HB2.out) HBU.out.1 (by have := HBU.out.2; omega)
            rw [HBL.out.1] at hcl
            clear HLD2 hdd
            go_upto_region 22 with (go_at_call 10; go_loud (refine (show Calls _ _ _ _ _ from hcl).mono ?_; rintro e W3 ho; obtain rfl := ho.ret; have HK9 := Aside0.mk (show KpSt w kz (i + 1) s5 g5 im nim (.slice rA rn rc) (.slice nA nn nc) true W3 from ⟨HB2.out.trans ho.st.hb, rs, nrs, ho.st.kp.rdS HRv.out, ho.st.kp.rdS HRn.out, by have := HLE.out.1; omega, by have := HLE.out.2; omega, .inr ⟨rfl, ho.dd⟩⟩); clear ho hcl y0 y2))
            have HJ9 := Aside0.mk (show -9223372036854775808 ≤ (i : Int) + 1 ∧ (i : Int) + 1 ≤ 9223372036854775807 by have := HI.out; omega)
            have hwi : wrap64 ((i : Int) + 1) = (i : Int) + 1 := wrap_in HJ9.out.1 HJ9.out.2
            clear hlt
            go_wp2_with fail
            go_roundw
            case rel => exact ⟨i + 1, _, _, _, _, _, rfl, rfl, rfl, rfl, rfl, by rw [hwi]; rfl, by have := HI.out; omega, HK9.out⟩
            case measure =>
              have hw2 : wrap64 ((i : Int) + ((1 : Nat) : Int)) = ((i + 1 : Nat) : Int) := by rw [show ((1 : Nat) : Int) = 1 from rfl, hwi]; rfl
              exact ms_lt n i 1 (by have := HI.out; clear hwi hw2; omega) hw2
        · have e1 : (f0 == 1) = false := by simpa using k1
          have e2 : (f0 == 2) = false := by simpa using k2
          by_cases k3 : f0 = 3
          · subst k3
            have hq : 0 ≤ wrap64 ((IntKind.u64.wrap f1).tmod 12) ∧ wrap64 ((IntKind.u64.wrap f1).tmod 12) ≤ 11 := fuse_val f1 12 11 (by decide) (by decide) (by decide)
            obtain ⟨rs, nrs, hR1, hR2, hl1, hl2, hLD⟩ := HS1.out.ex
            have HR1 := Aside0.mk hR1
            have HR2 := Aside0.mk hR2
            have HLE := Aside0.mk (And.intro hl1 hl2)
            clear hR1 hR2 hl1 hl2
            rcases hLD with ⟨rfl, h⟩ | ⟨rfl, h⟩
            · skip
              have hcl := live_fuse h HS1.out.hb.size _ hq.1 (by omega)
              clear h hq
              go_upto_region 32 with (go_at_call 15; go_loud (refine (show Calls _ _ _ _ _ from hcl).mono ?_; rintro e W2 ⟨rfl, hl, hst⟩; have HK9 := Aside0.mk (show KpSt w kz (i + 1) s5 g5 im nim (.slice rA rn rc) (.slice nA nn nc) false W2 from ⟨HS1.out.hb.trans hst.hb, rs, nrs, hst.kp.rdS HR1.out, hst.kp.rdS HR2.out, by have := HLE.out.1; omega, by have := HLE.out.2; omega, .inl ⟨rfl, hl.up (by omega) (by have := HI.out; omega)⟩⟩); clear hl hst hcl y0 y1 y2 y3))
              have HJ9 := Aside0.mk (show -9223372036854775808 ≤ (i : Int) + 1 ∧ (i : Int) + 1 ≤ 9223372036854775807 by have := HI.out; omega)
              have hwi : wrap64 ((i : Int) + 1) = (i : Int) + 1 := wrap_in HJ9.out.1 HJ9.out.2
              clear hlt
              go_wp2_with fail
              go_roundw
              case rel => exact ⟨i + 1, _, _, _, _, _, rfl, rfl, rfl, rfl, rfl, by rw [hwi]; rfl, by have := HI.out; omega, HK9.out⟩
              case measure =>
                have hw2 : wrap64 ((i : Int) + ((1 : Nat) : Int)) = ((i + 1 : Nat) : Int) := by rw [show ((1 : Nat) : Int) = 1 from rfl, hwi]; rfl
                exact ms_lt n i 1 (by have := HI.out; clear hwi hw2; omega) hw2
            · skip
              have hcl := dead_fuse h HS1.out.hb.size _ hq.1 (by omega)
              clear h hq
              go_upto_region 32 with (go_at_call 15; go_loud (refine (show Calls _ _ _ _ _ from hcl).mono ?_; rintro e W2 ⟨rfl, hl, hst⟩; have HK9 := Aside0.mk (show KpSt w kz (i + 1) s5 g5 im nim (.slice rA rn rc) (.slice nA nn nc) true W2 from ⟨HS1.out.hb.trans hst.hb, rs, nrs, hst.kp.rdS HR1.out, hst.kp.rdS HR2.out, by have := HLE.out.1; omega, by have := HLE.out.2; omega, .inr ⟨rfl, hl.up (by omega) (by have := HI.out; omega)⟩⟩); clear hl hst hcl y0 y1 y2 y3))
              have HJ9 := Aside0.mk (show -9223372036854775808 ≤ (i : Int) + 1 ∧ (i : Int) + 1 ≤ 9223372036854775807 by have := HI.out; omega)
              have hwi : wrap64 ((i : Int) + 1) = (i : Int) + 1 := wrap_in HJ9.out.1 HJ9.out.2
              clear hlt
              go_wp2_with fail
              go_roundw
              case rel => exact ⟨i + 1, _, _, _, _, _, rfl, rfl, rfl, rfl, rfl, by rw [hwi]; rfl, by have := HI.out; omega, HK9.out⟩
              case measure =>
                have hw2 : wrap64 ((i : Int) + ((1 : Nat) : Int)) = ((i + 1 : Nat) : Int) := by rw [show ((1 : Nat) : Int) = 1 from rfl, hwi]; rfl
                exact ms_lt n i 1 (by have := HI.out; clear hwi hw2; omega) hw2
          · have e3 : (f0 == 3) = false := by simpa using k3
            by_cases k4 : f0 = 4
            · subst k4
              obtain ⟨rs, nrs, hR1, hR2, hl1, hl2, hLD⟩ := HS1.out.ex
              have hrn : rs.length = rn := by have := (Kd.R_reads' hR1).1; omega
              have hnn : nrs.length = nn := by have := (Kd.R_reads' hR2).1; omega
              have HR1 := Aside0.mk hR1
              have HR2 := Aside0.mk hR2
              have HLE := Aside0.mk (And.intro hl1 hl2)
              have HRL2 := Aside0.mk (And.intro hrn hnn)
              have hstp : Calls Tryz.prog 12 #[.pointer (some ⟨s5, 0, none⟩), .slice a3 fk.length b3] W1 (StOut i (fun a l => (a = im ∧ l = rs) ∨ (dn = true ∧ a = nim ∧ l = nrs)) W1) := by
                rcases hLD with ⟨hd, h⟩ | ⟨hd, h⟩
                · exact (live_stop h a3 b3 fk (Kd.C_below HCK.out.1 HS1.out.hb) HCK.out.2).mono fun e W' ho => ho.mono (fun a l h => .inl h)
                · exact (dead_stop h a3 b3 fk (Kd.C_below HCK.out.1 HS1.out.hb) HCK.out.2).mono fun e W' ho => ho.mono (fun a l h => h.imp id (fun h => ⟨hd, h⟩))
              rw [HBL.out.2] at hstp
              clear hR1 hR2 hl1 hl2 hLD hrn hnn
              go_upto_region 37 with (first
                | (go_at_call 12; refine (show Calls _ _ _ _ _ from hstp).mono ?_; rintro e W2 ⟨hb, s2, rfl, E, first7, img7, pss7, hd, hsf, hlm, hfu, hrc, hS⟩
                   have HB2 := Aside0.mk hb
                   have hop := open_live (roll := kz) hd hsf hlm (fun h => by rw [hfu] at h; cases h) hrc (((HE.out.step HS1.out.hb).up HS1.out.hb.size (Nat.le_refl _)).step hb) HKZ.out
                   have HSS := Aside0.mk hS
                   obtain ⟨il, hil⟩ : ∃ il, img7.length = il := ⟨_, rfl⟩
                   obtain ⟨ql, hql⟩ : ∃ ql, (recL pss7).length = ql := ⟨_, rfl⟩
                   have HIL := Aside0.mk (And.intro hil hql)
                   clear hb hd hsf hlm hfu hrc hS hil hql hstp y0 y1 y2 y3)
                | (go_at_call 8; refine (show Calls _ _ _ _ _ from hop).mono ?_; rintro e W3 ⟨hst, g6, iA, ic, lA, lc, rfl, hlv, hI, hB⟩; rw [HIL.out.1] at hI ⊢; rw [HIL.out.2] at hB ⊢; have HB3 := Aside0.mk (HB2.out.trans hst.hb); have HLV := Aside0.mk (hlv.up (show i ≤ i + 1 by omega) (by have := HI.out; omega)); have HI3 := Aside0.mk hI; have HBS := Aside0.mk hB; clear hst hlv hI hB hop))
              have hcA := Kd.C_string (P := Tryz.prog) (A := iA) (c := ic) Tryz.underlying22 Tryz.underlying5 Tryz.underlying9 (Kd.R_reads' HI3.out).2.2
              rw [HIL.out.1] at hcA
              have HCA := Aside0.mk (fun (W : World) (hb : Below W3.heap.size W3 W) => show (convert 22 9 (.slice iA il ic)).run Tryz.prog W = .ok (.string (strOfNums img7)) W from by have := Kd.C_string (P := Tryz.prog) (A := iA) (c := ic) Tryz.underlying22 Tryz.underlying5 Tryz.underlying9 (Kd.R_reads' (Kd.R_below HI3.out hb)).2.2; rw [HIL.out.1] at this; exact this)
              have HIS := Aside0.mk (HLV.out.lower HS1.out.hb.size)
              have hsm1 := same_calls W3 lA lc (recL pss7) rA rc rs (Kd.R_reads' HBS.out).2.2 (Kd.R_reads' (Kd.R_below HR1.out HB3.out)).2.2
              rw [HIL.out.2, HRL2.out.1] at hsm1
              have hsm2 := fun (W : World) (hb : Below W3.heap.size W3 W) => same_calls W lA lc (recL pss7) nA nc nrs (Kd.R_reads' (Kd.R_below HBS.out hb)).2.2 (Kd.R_reads' (Kd.R_below (Kd.R_below HR2.out HB3.out) hb)).2.2
              simp only [HIL.out.2, HRL2.out.2] at hsm2
              have HSQ := Aside0.mk (show (strOfNums img7 = im ∧ (recL pss7).map strOfNums = rs) ∨ (dn = true ∧ strOfNums img7 = nim ∧ (recL pss7).map strOfNums = nrs) from HSS.out)
              have HLW := Aside0.mk (show Live W3 w.heap.size g6 s2 kz (i + 1) (strOfNums img7) ((recL pss7).map strOfNums) from HIS.out)
              generalize strOfNums img7 = a at hcA HSQ HLW HCA
              generalize (recL pss7).map strOfNums = ll at hsm1 hsm2 HSQ HLW
              clear HSS HIS HLV HI3 HBS HB2
              by_cases h1 : a = im ∧ ll = rs
              · have e1' : (a.toList == im.toList) = true := by rw [h1.1]; simp
                rw [decide_eq_true h1.2] at hsm1
                have HH := Aside0.mk h1
                clear h1 hsm2
                go_upto_region 41 with (go_at_call 13; refine (show Calls _ _ _ _ _ from hsm1).mono ?_; rintro e W9 ⟨rfl, hb⟩; have HB9 := Aside0.mk (HB3.out.trans (hb.mono HB3.out.size)); have HBN := Aside0.mk hb; clear hb hsm1)
                have HLV9 := Aside0.mk (show Live W9 w.heap.size g6 s2 kz (i + 1) im rs from by rw [← HH.out.1, ← HH.out.2]; exact HLW.out.below HBN.out)
                have HK9 := Aside0.mk (show KpSt w kz (i + 1) s2 g6 im nim (.slice rA rn rc) (.slice nA nn nc) false W9 from ⟨HS1.out.hb.trans (HB9.out.mono HS1.out.hb.size), rs, nrs, Kd.R_below HR1.out HB9.out, Kd.R_below HR2.out HB9.out, by have := HLE.out; omega, by have := HLE.out.2; omega, .inl ⟨rfl, HLV9.out⟩⟩)
                clear HB9 HLV9
                have HJ9 := Aside0.mk (show -9223372036854775808 ≤ (i : Int) + 1 ∧ (i : Int) + 1 ≤ 9223372036854775807 by have := HI.out; omega)
                have hwi : wrap64 ((i : Int) + 1) = (i : Int) + 1 := wrap_in HJ9.out.1 HJ9.out.2
                clear hlt
                go_wp2_with fail
                go_roundw
                case rel => exact ⟨i + 1, _, _, _, _, _, rfl, rfl, rfl, rfl, rfl, by rw [hwi]; rfl, by have := HI.out; omega, HK9.out⟩
                case measure =>
                  have hw2 : wrap64 ((i : Int) + ((1 : Nat) : Int)) = ((i + 1 : Nat) : Int) := by rw [show ((1 : Nat) : Int) = 1 from rfl, hwi]; rfl
                  exact ms_lt n i 1 (by have := HI.out; clear hwi hw2; omega) hw2
              · obtain ⟨rfl, h2, h3⟩ := HSQ.out.resolve_left h1
                have e2' : (a.toList == nim.toList) = true := by rw [h2]; simp
                have HH := Aside0.mk (And.intro h2 h3)
                have hsm2' := fun W hb => hsm2 W hb
                rw [decide_eq_true h3] at hsm2
                by_cases h4 : a = im
                · have e1' : (a.toList == im.toList) = true := by rw [h4]; simp
                  rw [decide_eq_false (fun h5 => h1 ⟨h4, h5⟩)] at hsm1
                  clear h1 h2 h3 h4 hsm2'
                  go_upto_region 41 with (first
                    | (go_at_call 13; refine (show Calls _ _ _ _ _ from hsm1).mono ?_; rintro e W8 ⟨rfl, hb⟩; have HBM := Aside0.mk hb; have hcA8 := HCA.out _ hb; clear hb hsm1 hcA)
                    | (go_at_call 13; refine (show Calls _ _ _ _ _ from hsm2 _ HBM.out).mono ?_; rintro e W9 ⟨rfl, hb⟩; have HB9 := Aside0.mk (HB3.out.trans ((HBM.out.trans (hb.mono HBM.out.size)).mono HB3.out.size)); have HBN := Aside0.mk hb; clear hb hsm2))
                  have HLV9 := Aside0.mk (show Live W9 w.heap.size g6 s2 kz (i + 1) nim nrs from by rw [← HH.out.1, ← HH.out.2]; exact HLW.out.below (HBM.out.trans (HBN.out.mono HBM.out.size)))
                  have HK9 := Aside0.mk (show KpSt w kz (i + 1) s2 g6 nim nim (.slice nA nn nc) (.slice nA nn nc) false W9 from ⟨HS1.out.hb.trans (HB9.out.mono HS1.out.hb.size), nrs, nrs, Kd.R_below HR2.out HB9.out, Kd.R_below HR2.out HB9.out, by have := HLE.out; omega, by have := HLE.out.2; omega, .inl ⟨rfl, HLV9.out⟩⟩)
                  clear HB9 HLV9
                  have HJ9 := Aside0.mk (show -9223372036854775808 ≤ (i : Int) + 1 ∧ (i : Int) + 1 ≤ 9223372036854775807 by have := HI.out; omega)
                  have hwi : wrap64 ((i : Int) + 1) = (i : Int) + 1 := wrap_in HJ9.out.1 HJ9.out.2
                  clear hlt
                  go_wp2_with fail
                  go_roundw
                  case rel => exact ⟨i + 1, _, _, _, _, _, rfl, rfl, rfl, rfl, rfl, by rw [hwi]; rfl, by have := HI.out; omega, HK9.out⟩
                  case measure =>
                    have hw2 : wrap64 ((i : Int) + ((1 : Nat) : Int)) = ((i + 1 : Nat) : Int) := by rw [show ((1 : Nat) : Int) = 1 from rfl, hwi]; rfl
                    exact ms_lt n i 1 (by have := HI.out; clear hwi hw2; omega) hw2
                · have e1' : (a.toList == im.toList) = false := by
                    rw [beq_eq_false_iff_ne]
                    intro e
                    exact h4 (ba_inj e)
                  clear h1 h2 h3 h4 hsm2' hsm1
                  go_upto_region 41 with (go_at_call 13; refine (show Calls _ _ _ _ _ from hsm2 _ (Below.refl _ _)).mono ?_; rintro e W9 ⟨rfl, hb⟩; have HB9 := Aside0.mk (HB3.out.trans (hb.mono HB3.out.size)); have HBN := Aside0.mk hb; clear hb hsm2)
                  have HLV9 := Aside0.mk (show Live W9 w.heap.size g6 s2 kz (i + 1) nim nrs from by rw [← HH.out.1, ← HH.out.2]; exact HLW.out.below HBN.out)
                  have HK9 := Aside0.mk (show KpSt w kz (i + 1) s2 g6 nim nim (.slice nA nn nc) (.slice nA nn nc) false W9 from ⟨HS1.out.hb.trans (HB9.out.mono HS1.out.hb.size), nrs, nrs, Kd.R_below HR2.out HB9.out, Kd.R_below HR2.out HB9.out, by have := HLE.out; omega, by have := HLE.out.2; omega, .inl ⟨rfl, HLV9.out⟩⟩)
                  clear HB9 HLV9
                  have HJ9 := Aside0.mk (show -9223372036854775808 ≤ (i : Int) + 1 ∧ (i : Int) + 1 ≤ 9223372036854775807 by have := HI.out; omega)
                  have hwi : wrap64 ((i : Int) + 1) = (i : Int) + 1 := wrap_in HJ9.out.1 HJ9.out.2
                  clear hlt
                  go_wp2_with fail
                  go_roundw
                  case rel => exact ⟨i + 1, _, _, _, _, _, rfl, rfl, rfl, rfl, rfl, by rw [hwi]; rfl, by have := HI.out; omega, HK9.out⟩
                  case measure =>
                    have hw2 : wrap64 ((i : Int) + ((1 : Nat) : Int)) = ((i + 1 : Nat) : Int) := by rw [show ((1 : Nat) : Int) = 1 from rfl, hwi]; rfl
                    exact ms_lt n i 1 (by have := HI.out; clear hwi hw2; omega) hw2
            · have e4 : (f0 == 4) = false := by simpa using k4
              go_upto_region 42 with fail
              have HK9 := Aside0.mk (HS1.out.up (show i ≤ i + 1 by omega) (by have := HI.out; omega))
              clear y0 y1 y2 y3
              have HJ9 := Aside0.mk (show -9223372036854775808 ≤ (i : Int) + 1 ∧ (i : Int) + 1 ≤ 9223372036854775807 by have := HI.out; omega)
              have hwi : wrap64 ((i : Int) + 1) = (i : Int) + 1 := wrap_in HJ9.out.1 HJ9.out.2
              clear hlt
              go_wp2_with fail
              go_roundw
              case rel => exact ⟨i + 1, _, _, _, _, _, rfl, rfl, rfl, rfl, rfl, by rw [hwi]; rfl, by have := HI.out; omega, HK9.out⟩
              case measure =>
                have hw2 : wrap64 ((i : Int) + ((1 : Nat) : Int)) = ((i + 1 : Nat) : Int) := by rw [show ((1 : Nat) : Int) = 1 from rfl, hwi]; rfl
                exact ms_lt n i 1 (by have := HI.out; clear hwi hw2; omega) hw2
    · obtain rfl : i = n := by omega
      clear hst hi hlt
      go_wp2_with fail
      exact bodyPost_ret (v := .bool true) (by simp [results, Tryz.results4, go_sem]) rfl ⟨rfl, HS.out.hb⟩
set_option maxRecDepth 100000 in
set_option maxHeartbeats 6400000 in
theorem keeps_not (w : World) (roll : Int) (A : Option Addr) (c n : Nat) (hfw : ∀ W, Below w.heap.size w W → Calls Tryz.prog 14 #[.slice A n c] W fun e w' => e = .returned (.bool false) ∧ Below W.heap.size W w') (hE : Ev w.heap.size w) :
    Calls Tryz.prog 4 #[.int .u16 roll, .slice A n c] w fun e w' => e = .returned (.bool true) ∧ Below w.heap.size w w' := by
  have HE := Aside0.mk hE
  have hnew := new_dn (W := w) 3000 (by decide) (by decide)
  clear hE
  go_enter Tryz.func4, Tryz.ntmps4
  go_upto_region 2 with (go_at_call 6; go_loud (refine (show Calls _ _ _ _ _ from hnew).mono ?_; rintro e w1 ⟨s, rfl, hb, hd⟩; have HB1 := Aside0.mk hb; clear hb hd hnew))
  have hE1 := HE.out.step HB1.out
  have haw := awake_calls w1 (hE1.up HB1.out.size (Nat.le_refl _))
  have haw2 := fun (W : World) (hb : Below w.heap.size w W) => awake_calls W ((HE.out.step hb).up hb.size (Nat.le_refl _))
  go_wp2_with (first
    | (go_at_call 7; refine (show Calls _ _ _ _ _ from haw).mono ?_; rintro e w2 ⟨rfl, hb⟩; have HB2 := Aside0.mk (HB1.out.trans (hb.mono HB1.out.size)); clear hb haw hE1)
    | (go_at_call 14; refine (show Calls _ _ _ _ _ from hfw _ HB2.out).mono ?_; rintro e w2b ⟨rfl, hb⟩; have HB2b := Aside0.mk (HB2.out.trans (hb.mono HB2.out.size)); clear hb hfw)
    | (go_at_call 7; refine (show Calls _ _ _ _ _ from haw2 _ HB2b.out).mono ?_; rintro e w3 ⟨rfl, hb⟩; have HB3 := Aside0.mk (HB2b.out.trans (hb.mono HB2b.out.size)); clear hb haw2))
  exact bodyPost_ret (v := .bool true) (by simp [results, Tryz.results4, go_sem]) rfl ⟨rfl, HB3.out⟩
theorem keeps_calls (w : World) (roll : Int) (A : Option Addr) (c : Nat) (l : List SAct) (hro : 0 ≤ roll ∧ roll ≤ 65535) (hC : Kd.C kAct w A l.length l) (hlc : l.length ≤ c) (hu : ∀ x ∈ l, ∀ y ∈ x.f2, 0 ≤ y ∧ y ≤ 255) (hE : Ev w.heap.size w) :
    Calls Tryz.prog 4 #[.int .u16 roll, .slice A l.length c] w fun e w' => e = .returned (.bool true) ∧ Below w.heap.size w w' := by
  obtain ⟨r, hr, hF⟩ := few_calls w A c l hC hlc
  cases r with
  | true => exact keeps_few w roll A c l hro hC hu (hF rfl) hr hE
  | false => exact keeps_not w roll A c l.length hr hE
end Go.Proofs.YtdooajmgfoobfaaGreatDoor.H
