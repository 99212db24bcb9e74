/- A reel: its segments, handed over. Laid by wip/rg_bl.py. -/
import Derived.Test.YtdooajmgfoobfaaGreatDoorZz
import Derived.Test.YtdooajmgfoobfaaGreatDoorRdV
namespace Go.Proofs.YtdooajmgfoobfaaGreatDoor.H
attribute [local go_sem] Oper.semAt_some
open Go.RowKit Go.Shelf Go.Proofs.YtdooajmgfoobfaaGreatDoor.PA Go.Proofs.YtdooajmgfoobfaaGreatDoorW.PrintWords Go.Proofs.YtdooajmgfoobfaaGreatDoorW.PrintLast Go.Proofs.YtdooajmgfoobfaaGreatDoorW.PrintMore
set_option linter.unusedVariables false
set_option linter.unusedSimpArgs false
/-- What a disk's mark says. -/
structure MarkOk (first : Nat) (img : List Int) : Prop where
  f1 : 1 ≤ first
  f2 : first ≤ 100
  len : img.length ≤ 199000
  u8 : ∀ x ∈ img, 0 ≤ x ∧ x ≤ 255
def MarkIs (D : Dk) (first : Nat) (img : List Int) : Prop := (lk markK D.L = none ∧ first = 1 ∧ img = []) ∨ ∃ f, lk markK D.L = some f ∧ f.b = frameB (upB first ++ img)
theorem read_none {w : World} {s : Nat} {F : Nat → Prop} {D : Dk} (h : SumpAt w s F D) (k : ByteArray) (hk : lk k D.L = none) : Calls Tryz.prog 34 #[.pointer (some ⟨s, 0, none⟩), .string k] w fun e W' => e = .returned (.tuple #[.slice none 0 0, .int .i64 5]) ∧ Below w.heap.size w W' :=
  (Read_calls w s F D k h).mono fun e W' ho => by
    rcases ho.out with ⟨_, h1⟩ | ⟨f, v, h1, _⟩
    · exact ⟨h1, ho.hb⟩
    · rw [hk] at h1
      cases h1
theorem read_some {w : World} {s : Nat} {F : Nat → Prop} {D : Dk} (h : SumpAt w s F D) (k : ByteArray) {f : Fl} (hk : lk k D.L = some f) : Calls Tryz.prog 34 #[.pointer (some ⟨s, 0, none⟩), .string k] w fun e W' => (∃ A c, e = .returned (.tuple #[.slice A f.b.length c, .int .i64 0]) ∧ Kd.R (Kd.int .u8) 5 W' w.heap.size (fun _ => True) (.slice A f.b.length c) f.b) ∧ Below w.heap.size w W' :=
  (Read_calls w s F D k h).mono fun e W' ho => by
    rcases ho.out with ⟨h1, _⟩ | ⟨f', v, h1, h2, h3⟩
    · rw [hk] at h1
      cases h1
    · rw [hk] at h1
      cases h1
      obtain ⟨A, c, hv⟩ := Kd.R_slice h3
      subst hv
      exact ⟨⟨A, c, h2, h3⟩, ho.hb⟩
/-- Scan, of an owned row. -/
theorem scan_own (w W : World) (base : Nat) (A : Option Addr) (n c : Nat) (ps : List (List Int)) (t : List Int) (hR : Kd.R (Kd.int .u8) 5 W base (fun _ => True) (.slice A n c) (framesB ps ++ t)) (hl : (framesB ps ++ t).length ≤ 1000000)
    (hu : ∀ x ∈ framesB ps ++ t, 0 ≤ x ∧ x ≤ 255) (hps : ∀ p ∈ ps, p.length ≤ 200000) (hT : Torn t) (hN : Nib W) (hg : 1 < W.heap.size) :
    Calls Tryz.prog 35 #[.slice A n c] W fun e w' => (∃ oA oc, e = .returned (.tuple #[.slice oA ps.length oc, .int .i64 (framesB ps).length, .int .i64 0]) ∧ BsAt w' W.heap.size (.slice oA ps.length oc) ps) ∧ Below W.heap.size W w' := by
  obtain ⟨h1, h2, h3⟩ := Kd.R_reads' hR
  subst h1
  refine (Scan_calls A c ps t W h3 h2 hl hu hps hT hN hg).mono ?_
  rintro e w' ⟨⟨v, rfl, hB⟩, hb⟩
  obtain ⟨oA, oc, rfl⟩ := Kd.R_slice hB
  exact ⟨⟨oA, oc, rfl, hB⟩, hb⟩
theorem up_got (first : Nat) (img : List Int) (h : first ≤ 100) : Rs.up ⟨upB first ++ img, 0⟩ 1099511627776 = ((first : Int), ⟨img, 0⟩) := by
  have h1 : Rs.num ⟨upB first ++ img, 0⟩ = ((first : Int), ⟨img, 0⟩) := by
    refine num_got ?_
    unfold upB
    rw [if_pos (by omega), Int.toNat_natCast, numT_numB _ _ (by omega)]
  unfold Rs.up
  rw [h1]
  simp only
  rw [if_pos trivial, if_neg (by omega)]
structure MarkOut (first : Nat) (img : List Int) (w : World) (e : Ending) (w' : World) : Prop where
  out : ∃ A c, e = .returned (.tuple #[.int .i64 first, .slice A img.length c, .int .i64 0]) ∧ img.length ≤ c ∧ (∀ W', KeepT w' W' → Kd.C (Kd.int .u8) W' A img.length img) ∧ (A = none → img = [])
  hb : Below w.heap.size w w'
theorem mark_none (w : World) (s : Nat) (F : Nat → Prop) (D : Dk) (h : SumpAt w s F D) (hk : lk markK D.L = none) : Calls Tryz.prog 18 #[.pointer (some ⟨s, 0, none⟩)] w (MarkOut 1 [] w) := by
  have hrd := read_none h markK hk
  clear h hk
  go_enter Tryz.func18, Tryz.ntmps18
  go_wp2_with (go_at_call 34; refine hrd.mono ?_; rintro e w1 ⟨rfl, hb⟩; have HB := Aside0.mk hb; clear hb hrd)
  exact bodyPost_ret (v := .tuple #[.int .i64 1, .slice none 0 0, .int .i64 0]) (by simp [results, Tryz.results18, go_sem]) rfl ⟨⟨none, 0, rfl, by simp, fun _ _ => Kd.C_nil _ _, fun _ => rfl⟩, HB.out⟩
def q18.T11 : Bool × List (List Nat × List Nat) := (true, [([], []), ([], []), ([1], [1]), ([2], [2]), ([], []), ([4], [4]), ([5], [5]), ([6], [6]), ([], []), ([8], [8]), ([7, 9], [7, 9]), ([3, 10], [3, 10]), ([0, 9, 0], [0]), ([11, 12, 0, 1, 2, 3, 4, 5, 6, 7, 8, 9, 10, 11, 12], [11]), ([13, 0, 1, 2, 3, 4, 5, 6, 7, 8, 9, 10, 11, 12, 13], [])])
def q18.B11 : List Nat := [0, 0, 2, 6, 0, 16, 48, 112, 0, 256, 1008, 2046, 769, 8191, 16383]
theorem q18.tab11 : rtab .any (opsOf Tryz.f18 11) = q18.T11 := by kernel_rfl
theorem q18.bits11 : waitsOk q18.T11.2 q18.B11 = true := by kernel_rfl
set_option maxRecDepth 100000 in
set_option maxHeartbeats 800000 in
theorem mark_some (w : World) (s : Nat) (F : Nat → Prop) (D : Dk) (first : Nat) (img : List Int) (fl : Fl) (h : SumpAt w s F D) (hk : lk markK D.L = some fl) (hb : fl.b = frameB (upB first ++ img)) (ok : MarkOk first img) (hN : Nib w) (hg : 1 < w.heap.size) :
    Calls Tryz.prog 18 #[.pointer (some ⟨s, 0, none⟩)] w (MarkOut first img w) := by
  have hrd := read_some h markK hk
  have hul := upB_len (n := (first : Int)) (by have := ok.f2; omega)
  have hpl : (upB (first : Int) ++ img).length ≤ 200000 := by rw [List.length_append]; have := ok.len; omega
  have hpu : ∀ x ∈ upB (first : Int) ++ img, 0 ≤ x ∧ x ≤ 255 := fun x hx => (List.mem_append.1 hx).elim (upB_u8 _ x) (ok.u8 x)
  have hil : (upB (first : Int) ++ img).length = (upB (first : Int)).length + img.length := List.length_append
  have hup := up_got first img ok.f2
  have hfr : framesB [upB (first : Int) ++ img] ++ [] = frameB (upB (first : Int) ++ img) := by simp [framesB]
  have hfn : framesB [upB (first : Int) ++ img] = frameB (upB (first : Int) ++ img) := by simp [framesB]
  have hdr : (upB (first : Int) ++ img).drop (upB (first : Int)).length = img := List.drop_left
  have hfle : (frameB (upB (first : Int) ++ img)).length ≤ 1000000 := Nat.le_trans (frameB_len _ hpl) (Nat.le_trans (Nat.add_le_add_right hpl 15) (by decide))
  have HUL := Aside0.mk (And.intro hul ok.len)
  have HF1 := ok.f1
  have HF2 := ok.f2
  generalize upB (first : Int) ++ img = p at *
  have hsc := fun W base A n c hR hN hg => scan_own w W base A n c [p] [] (by rw [hfr]; exact hR) (by rw [hfr]; exact hfle) (by rw [hfr]; exact frameB_u8 hpu) (by simpa using hpl) torn_nil hN hg
  rw [hb] at hrd
  simp only [hfn] at hsc
  obtain ⟨fn, hfn2⟩ : ∃ fn, (frameB p).length = fn := ⟨_, rfl⟩
  rw [hfn2] at hrd
  simp only [hfn2] at hsc
  obtain ⟨pl, hpl2⟩ : ∃ pl, p.length = pl := ⟨_, rfl⟩
  obtain ⟨il, hil2⟩ : ∃ il, img.length = il := ⟨_, rfl⟩
  obtain ⟨ul, hul2⟩ : ∃ ul, (upB (first : Int)).length = ul := ⟨_, rfl⟩
  have HPU := Aside0.mk hpu
  have HUP := Aside0.mk hup
  have HDR := Aside0.mk hdr
  have HPL := Aside0.mk (And.intro hpl2 (And.intro hil2 hul2))
  have HPN := Aside0.mk hpl
  have hle : pl = ul + il := by rw [← hpl2, ← hil2, ← hul2]; exact hil
  have hlt : pl ≤ 200000 := by rw [← hpl2]; exact hpl
  have q1 : -9223372036854775808 ≤ (pl : Int) - (il : Int) ∧ (pl : Int) - (il : Int) ≤ 9223372036854775807 := by clear HUL; omega
  have hf1 : decide ((first : Int) < 1) = false := decide_eq_false (by omega)
  have HN := Aside0.mk hN
  have HG := Aside0.mk hg
  have HLE := Aside0.mk hle
  have HLT := Aside0.mk hlt
  clear h hk hb ok hN hg hul hpl hpu hil hup hfr hfn hdr hfle hfn2 hpl2 hil2 hul2 HF1 HF2 hle hlt
  go_enter Tryz.func18, Tryz.ntmps18
  go_upto_region 7 with (first
    | (go_at_call 34; go_loud (refine hrd.mono ?_; rintro e w1 ⟨⟨rA, rc, rfl, hR⟩, hb⟩; have HR := Aside0.mk hR; have HB := Aside0.mk hb; clear hR hb hrd))
    | (go_at_call 35; go_loud (refine (hsc _ _ _ _ _ HR.out (HN.out.keep (HB.out.block _ HG.out)) (Nat.lt_of_lt_of_le HG.out HB.out.size)).mono ?_; rintro e w2 ⟨⟨oA, oc, rfl, hR⟩, hb⟩; have HR2 := Aside0.mk hR; have HB2 := Aside0.mk (HB.out.trans (hb.mono HB.out.size)); clear hR hb hsc)))
  obtain ⟨_, ho1, hoC⟩ := Kd.R_reads' HR2.out
  obtain ⟨ad, A0, c0, rfl, hcell, hle0, hC0⟩ := at_L1 hoC 0 (by omega) (by simp)
  simp only [rd_L1, Int.toNat_zero, List.getD_cons_zero] at hcell hle0 hC0
  obtain ⟨csx, _, hMx, hcx⟩ := Kd.R_get HR2.out ([] : List Int) 0 (by omega) (by simp)
  obtain ⟨vx, rfl, hRx⟩ := hMx
  have hvx := hcx 0 vx rfl
  simp only [Int.toNat_zero, Nat.zero_mul, Nat.add_zero] at hvx
  rw [hcell] at hvx
  injection hvx with hvx
  subst hvx
  simp only [Int.toNat_zero, List.getD_cons_zero] at hRx
  replace hRx := Kd.R_mono hRx (fun _ _ => trivial)
  have e0 : ad.add 0 = ad := by unfold Addr.add; simp
  have hop := openR_calls A0 c0 p w2 hC0 hle0 (Nat.le_trans HPN.out (by decide)) HPU.out
  have hup : ∀ W, RX w2 w2.heap.size ⟨p, 0⟩ W → Calls Tryz.prog 37 #[.pointer (some ⟨w2.heap.size, 0, none⟩), .int .i64 1099511627776] W fun e w' => e = .returned (.int .i64 first) ∧ RX w2 w2.heap.size ⟨img, 0⟩ w' := by
    intro W hW
    refine (up_calls w2 w2.heap.size ⟨p, 0⟩ 1099511627776 W hW).mono ?_
    rintro e w' ⟨h1, h2, _⟩
    rw [HUP.out] at h1 h2
    exact ⟨h1, h2⟩
  have hfa := fun W (hW : RX w2 w2.heap.size ⟨img, 0⟩ W) => fail_calls w2 w2.heap.size _ W hW
  have hlf := fun W (hW : RX w2 w2.heap.size ⟨img, 0⟩ W) => left_calls w2 w2.heap.size _ W hW
  simp only [HPL.out.2.1] at hfa hlf
  have hlp : (rd_L1 [p] 0).length = pl := HPL.out.1
  rw [HPL.out.1] at hcell hop
  have hCx := hC0
  obtain ⟨A1, hcut, hA1⟩ := cut_from A0 pl c0 ul ((pl : Int) - (il : Int)) (by have := HLE.out; omega) (by have := HLE.out; omega)
  have HI := Aside0.mk (fun (W' : World) (hk : KeepT w2 W') => hA1 W' p (by have := hle0; rw [HPL.out.1] at this; exact this) (by obtain ⟨_, _, hC⟩ := Kd.R_reads' (hk.rd hRx); rw [HPL.out.1] at hC; exact hC))
  rw [show pl - ul = il by have := HLE.out; omega] at hcut HI
  have HC0 := Aside0.mk hcell
  have HLC := Aside0.mk (show pl ≤ c0 by have := hle0; rw [HPL.out.1] at this; exact this)
  have hce := hcell
  rw [e0] at hce
  have HCE := Aside0.mk hce
  have hws : wrap64 ((pl : Int) - (il : Int)) = (pl : Int) - il := wrap_in q1.1 q1.2
  clear ho1 hoC hle0 hC0 hCx q1 e0 hRx hcx
  go_upto_region 11 with (first
    | (go_at_call 36; go_loud (refine hop.mono ?_; rintro e w3 ⟨rfl, hr⟩; have HX := Aside0.mk hr; clear hr hop hcell hce))
    | (go_at_call 37; go_loud (refine (hup _ HX.out).mono ?_; rintro e w4 ⟨rfl, hr⟩; have HX2 := Aside0.mk hr; clear hr hup))
    | (go_at_call 38; go_loud (refine (hfa _ HX2.out).mono ?_; rintro e w5 ⟨rfl, rfl⟩; clear hfa)))
  have HY := Aside0.mk (HX2.out.kept (W' := w5.drew) (below_drew1 (Below.refl _ w5)))
  have HC5 := Aside0.mk (below_cell_eq HY.out.1 HCE.out)
  have hlf2 := hlf _ HY.out
  refine wp_mono (Q := fun e a w => e = .normal ∧ _) ?_ (fun e a w h => h.2)
  refine start_ (n := 15) (S := fun w' => w'.cell? ad = some (.slice A0 pl c0)) (ds := []) #[ff,ff,ff,ff,ff,ff,ff,ff,ff,ff,ff,ff,ff,ff,ff] (by kernel_rfl) rfl rfl (HC5.out) (fun hHeld => ?_)
  refine with_tabW q18.tab11 q18.bits11 (fun HT_ HW_ => ?_)
  refine pure_ (i := 0) (N := some 50) (v := ?_) (a' := ?_) #[tt,ff,ff,ff,ff,ff,ff,ff,ff,ff,ff,ff,ff,ff,ff] rfl rfl (any_of HT_.out (by kernel_rfl)) (fun _ _ _ h => nomatch h.1) (Or.inl ⟨by rfl, ?_⟩) ?_ ?_
  rotate_left
  · intro w'
    go_simp
    with_reducible rfl
  rotate_left
  · simp only [Act.put, sA, sB, sC, i64_w, i32_w]
    rfl
  refine pure_ (i := 1) (N := some 51) (v := ?_) (a' := ?_) #[tt,tt,ff,ff,ff,ff,ff,ff,ff,ff,ff,ff,ff,ff,ff] rfl rfl (any_of HT_.out (by kernel_rfl)) (fun _ _ _ h => nomatch h.1) (Or.inl ⟨by rfl, ?_⟩) ?_ ?_
  rotate_left
  · intro w'
    go_simp
    with_reducible rfl
  rotate_left
  · simp only [Act.put, sA, sB, sC, i64_w, i32_w]
    rfl
  refine pure_ (i := 2) (N := some 52) (v := ?_) (a' := ?_) #[tt,tt,tt,ff,ff,ff,ff,ff,ff,ff,ff,ff,ff,ff,ff] rfl rfl (any_of HT_.out (by kernel_rfl)) (fun _ _ _ h => nomatch h.1) (Or.inl ⟨by rfl, ?_⟩) ?_ ?_
  rotate_left
  · intro w'
    go_simp
    with_reducible rfl
  rotate_left
  · simp only [Act.put, sA, sB, sC, i64_w, i32_w]
    rfl
  refine pure_ (i := 4) (N := some 54) (v := ?_) (a' := ?_) #[tt,tt,tt,ff,tt,ff,ff,ff,ff,ff,ff,ff,ff,ff,ff] rfl rfl (any_of HT_.out (by kernel_rfl)) (fun _ _ _ h => nomatch h.1) (Or.inl ⟨by rfl, ?_⟩) ?_ ?_
  rotate_left
  · intro w'
    go_simp
    with_reducible rfl
  rotate_left
  · simp only [Act.put, sA, sB, sC, i64_w, i32_w]
    rfl
  refine pure_ (i := 5) (N := some 55) (v := ?_) (a' := ?_) #[tt,tt,tt,ff,tt,tt,ff,ff,ff,ff,ff,ff,ff,ff,ff] rfl rfl (any_of HT_.out (by kernel_rfl)) (fun _ _ _ h => nomatch h.1) (Or.inl ⟨by rfl, ?_⟩) ?_ ?_
  rotate_left
  · intro w'
    go_simp
    with_reducible rfl
  rotate_left
  · simp only [Act.put, sA, sB, sC, i64_w, i32_w]
    rfl
  refine pure_ (i := 8) (N := some 58) (v := ?_) (a' := ?_) #[tt,tt,tt,ff,tt,tt,ff,ff,tt,ff,ff,ff,ff,ff,ff] rfl rfl (any_of HT_.out (by kernel_rfl)) (fun _ _ _ h => nomatch h.1) (Or.inl ⟨by rfl, ?_⟩) ?_ ?_
  rotate_left
  · intro w'
    go_simp
    with_reducible rfl
  rotate_left
  · simp only [Act.put, sA, sB, sC, i64_w, i32_w]
    rfl
  refine take_ (i := 3) (N := some 53) (v := ?_) (a' := ?_) #[tt,tt,tt,tt,tt,tt,ff,ff,tt,ff,ff,ff,ff,ff,ff] rfl rfl (take_ofW HT_.out HW_.out (by kernel_rfl)) (fun _ _ _ h => nomatch h.1) (Or.inl ⟨by rfl, ?_⟩) hHeld ?_ ?_
  rotate_left
  · intro w' s0
    go_simp
    with_reducible rfl
  rotate_left
  · simp only [Act.put, sA, sB, sC, i64_w, i32_w]
    rfl
  refine take_ (i := 6) (N := some 56) (v := ?_) (a' := ?_) #[tt,tt,tt,tt,tt,tt,tt,ff,tt,ff,ff,ff,ff,ff,ff] rfl rfl (take_ofW HT_.out HW_.out (by kernel_rfl)) (fun _ _ _ h => nomatch h.1) (Or.inl ⟨by rfl, ?_⟩) hHeld ?_ ?_
  rotate_left
  · intro w' s0
    go_simp
    with_reducible rfl
  rotate_left
  · simp only [Act.put, sA, sB, sC, i64_w, i32_w]
    rfl
  refine pure_ (i := 7) (N := some 57) (v := ?_) (a' := ?_) #[tt,tt,tt,tt,tt,tt,tt,tt,tt,ff,ff,ff,ff,ff,ff] rfl rfl (any_of HT_.out (by kernel_rfl)) (fun _ _ _ h => nomatch h.1) (Or.inl ⟨by rfl, ?_⟩) ?_ ?_
  rotate_left
  · intro w'
    go_simp
    with_reducible rfl
  rotate_left
  · simp only [Act.put, sA, sB, sC, i64_w, i32_w]
    rfl
  refine one_ (i := 9) (N := some 59) #[tt,tt,tt,tt,tt,tt,tt,tt,tt,tt,ff,ff,ff,ff,ff] rfl rfl (one_of HT_.out (by kernel_rfl)) (by decide) (fun K hK => ?_)
  refine goes_ Tryz.func39 (by kernel_rfl) rfl #[.pointer (some ⟨w2.heap.size, 0, none⟩)] (by rfl) rfl rfl (by simp only [List.map_toArray, List.map_cons, List.map_nil]; rfl) ?_
  with_reducible refine (hlf2).mono ?_
  rintro e w6x ⟨rfl, rfl⟩
  refine ⟨_, rfl, ?_⟩
  refine hK.out _ _ (HC5.out) (fun hHeld => ?_)
  clear hK K
  refine norm_ (a' := ?_) ?_ ?_
  rotate_left
  · show Act.put _ (some 59) _ = _
    simp only [Act.put, sA, sB, sC, i64_w, i32_w]
    rfl
  refine pure_ (i := 10) (N := some 60) (v := ?_) (a' := ?_) #[tt,tt,tt,tt,tt,tt,tt,tt,tt,tt,tt,ff,ff,ff,ff] rfl rfl (any_of HT_.out (by kernel_rfl)) (fun _ _ _ h => nomatch h.1) (Or.inl ⟨by rfl, ?_⟩) ?_ ?_
  rotate_left
  · intro w'
    go_simp
    with_reducible rfl
  rotate_left
  · simp only [Act.put, sA, sB, sC, i64_w, i32_w]
    rfl
  refine pure_ (i := 11) (N := some 61) (v := ?_) (a' := ?_) #[tt,tt,tt,tt,tt,tt,tt,tt,tt,tt,tt,tt,ff,ff,ff] rfl rfl (any_of HT_.out (by kernel_rfl)) (fun _ _ _ h => nomatch h.1) (Or.inl ⟨by rfl, ?_⟩) ?_ ?_
  rotate_left
  · intro w'
    go_simp
    with_reducible rfl
  rotate_left
  · simp only [Act.put, sA, sB, sC, i64_w, i32_w]
    rfl
  refine pure_ (i := 12) (N := some 2) (v := ?_) (a' := ?_) #[tt,tt,tt,tt,tt,tt,tt,tt,tt,tt,tt,tt,tt,ff,ff] rfl rfl (any_of HT_.out (by kernel_rfl)) (fun _ _ _ h => nomatch h.1) (Or.inl ⟨by rfl, ?_⟩) ?_ ?_
  rotate_left
  · intro w'
    go_simp
    with_reducible rfl
  rotate_left
  · simp only [Act.put, sA, sB, sC, i64_w, i32_w]
    rfl
  refine pure_ (i := 13) (N := some 3) (v := ?_) (a' := ?_) #[tt,tt,tt,tt,tt,tt,tt,tt,tt,tt,tt,tt,tt,tt,ff] rfl rfl (any_of HT_.out (by kernel_rfl)) (fun _ _ _ h => nomatch h.1) (Or.inl ⟨by rfl, ?_⟩) ?_ ?_
  rotate_left
  · intro w'
    go_simp
    with_reducible rfl
  rotate_left
  · simp only [Act.put, sA, sB, sC, i64_w, i32_w]
    rfl
  refine pure_ (i := 14) (N := some 4) (v := ?_) (a' := ?_) #[tt,tt,tt,tt,tt,tt,tt,tt,tt,tt,tt,tt,tt,tt,tt] rfl rfl (any_of HT_.out (by kernel_rfl)) (fun _ _ _ h => nomatch h.1) (Or.inl ⟨by rfl, ?_⟩) ?_ ?_
  rotate_left
  · intro w'
    go_simp
    with_reducible rfl
  rotate_left
  · simp only [Act.put, sA, sB, sC, i64_w, i32_w]
    rfl
  refine done_ (done_of HT_.out (by kernel_rfl)) ?_
  refine ⟨rfl, ?_⟩
  clear hHeld HT_ HW_
  have HB9 := Aside0.mk (HB2.out.trans (HY.out.1.mono HB2.out.size))
  have HI9 := Aside0.mk (fun (W' : World) (hk : KeepT w5.drew W') => HI.out W' ((KeepT.below HY.out.1).trans hk))
  clear HX HX2 HY HC5 HCE HC0 hlf
  generalize w5.drew = w6 at HB9 HI9 ⊢
  have hdr2 := HDR.out
  rw [HPL.out.2.2] at hdr2
  have hI9 := HI9.out
  rw [hdr2] at hI9
  have FIN := Aside0.mk (show MarkOut first img w (.returned (.tuple #[.int .i64 first, .slice A1 il (c0 - ul), .int .i64 0])) w6 from
    ⟨⟨A1, c0 - ul, by rw [HPL.out.2.1], by rw [HPL.out.2.1]; have := HLC.out; have := HLE.out; omega, by rw [HPL.out.2.1]; exact hI9, fun hn => by
      have hr := reads_of_C (hI9 _ (KeepT.refl _))
      rcases Nat.eq_zero_or_pos il with h0 | h0
      · exact List.eq_nil_of_length_eq_zero (HPL.out.2.1.trans h0)
      · obtain ⟨ad2, h2, _⟩ := hr.2.2 h0
        rw [hn] at h2
        cases h2⟩, HB9.out⟩)
  clear hdr2 hI9
  go_wp2_with fail
  exact bodyPost_ret (v := .tuple #[.int .i64 first, .slice A1 il (c0 - ul), .int .i64 0]) (by simp [results, Tryz.results18, go_sem]) rfl FIN.out
theorem mark_calls (w : World) (s : Nat) (F : Nat → Prop) (D : Dk) (first : Nat) (img : List Int) (h : SumpAt w s F D) (hM : MarkIs D first img) (ok : MarkOk first img) (hN : Nib w) (hg : 1 < w.heap.size) :
    Calls Tryz.prog 18 #[.pointer (some ⟨s, 0, none⟩)] w (MarkOut first img w) := by
  rcases hM with ⟨hk, rfl, rfl⟩ | ⟨f, hk, hb⟩
  · exact mark_none w s F D h hk
  · exact mark_some w s F D first img f h hk hb ok hN hg
end Go.Proofs.YtdooajmgfoobfaaGreatDoor.H
namespace Go.Proofs.YtdooajmgfoobfaaGreatDoor.H
attribute [local go_sem] Oper.semAt_some
open Go.RowKit Go.Shelf Go.Proofs.YtdooajmgfoobfaaGreatDoor.PA Go.Proofs.YtdooajmgfoobfaaGreatDoorW.PrintWords Go.Proofs.YtdooajmgfoobfaaGreatDoorW.PrintLast Go.Proofs.YtdooajmgfoobfaaGreatDoorW.PrintMore
set_option linter.unusedVariables false
set_option linter.unusedSimpArgs false
/-- The segments from first on, as far as they follow one another. -/
structure Segs (L : Fls) (first : Nat) (bs : List (List Int)) : Prop where
  got : ∀ (i : Nat) (b : List Int), bs[i]? = some b → ∃ f, lk (segK (first + i)) L = some f ∧ f.b = b
  stop : lk (segK (first + bs.length)) L = none
/-- A segment that is handed over. -/
structure SgX where
  n : Nat
  A : Option Addr
  c : Nat
  b : List Int
def sgA (x : SgX) : Array Value := #[.int .i64 x.n, .slice x.A x.b.length x.c]
def sgBs (l : List SgX) : List (List Int) := l.map (·.b)
theorem sgBs_snoc (l : List SgX) (x : SgX) : sgBs (l ++ [x]) = sgBs l ++ [x.b] := by simp [sgBs]
structure SgRel (first : Nat) (bs : List (List Int)) (pre : List SgX) (x : SgX) (W : World) : Prop where
  n : x.n = first + pre.length
  pf : sgBs pre ++ [x.b] <+: bs
  rd : Kd.R (Kd.int .u8) 5 W 0 (fun _ => True) (.slice x.A x.b.length x.c) x.b
def KpS (s : Nat) (F : Nat → Prop) (D : Dk) (bp : Nat) (A B : World) : Prop := (SumpAt A s F D → SumpAt B s F D) ∧ B.heap[bp]? = A.heap[bp]? ∧ A.heap.size ≤ B.heap.size
def q66.T2 : Bool × List (List Nat × List Nat) := (true, [([], []), ([], []), ([1], [1]), ([0, 2, 2], [0, 2]), ([3], [3]), ([4], [4]), ([4], [4]), ([5, 3, 0, 1, 2, 3, 4, 5], [5]), ([6, 7, 0, 1, 2, 3, 4, 5, 6, 7], [6])])
def q66.B2 : List Nat := [0, 0, 2, 7, 15, 31, 31, 63, 255]
theorem q66.tab2 : rtab .any (opsOf Tryz.f66 2) = q66.T2 := by kernel_rfl
theorem q66.bits2 : waitsOk q66.T2.2 q66.B2 = true := by kernel_rfl
set_option maxRecDepth 100000 in
set_option maxHeartbeats 800000 in
theorem segs1_in (n0 lp bn bp s first : Nat) (h1n : 1 ≤ n0) (F : Nat → Prop) (D : Dk) (bs : List (List Int)) (V : World) (J Jx : List SgX → World → Prop) (hJ : OwnFrom V.heap.size J)
    (hY : ∀ pre x W1, J pre W1 → SgRel first bs pre x W1 → pre.length < bs.length → YieldAt Fence.wide (n0 - 1) Tryz.prog lp (sgA x) W1 fun e W' => (e = .returned (.bool true) ∧ J (pre ++ [x]) W' ∧ KpS s F D bp W1 W') ∨ (e = .returned (.bool false) ∧ Jx (pre ++ [x]) W'))
    (hn : V.heap[bn]? = some (.cells #[.int .i64 first] 3 (0, 0))) (hp : V.heap[bp]? = some (.cells #[.pointer (some ⟨s, 0, none⟩)] 23 (0, 0))) (hd : SumpAt V s F D) (hS : Segs D.L first bs) (hlt : first + bs.length < 100) (h0 : J [] V) :
    CallsIn Fence.wide n0 Tryz.prog 66 #[.func (.yield lp) #[] #[], .pointer (some ⟨bn, 0, none⟩), .pointer (some ⟨bp, 0, none⟩)] V fun e W' => (∃ v, e = .returned v) ∧
      ((∃ xs, sgBs xs = bs ∧ J xs W') ∨ ∃ pre, sgBs pre <+: bs ∧ Jx pre W') := by
  refine callsIn_of_wp Tryz.func66 rfl trivial ?_ rfl
  simp only [Tryz.ntmps66, List.size_toArray, List.length_cons, List.length_nil, Nat.reduceAdd, Nat.reduceSub, Array.replicate_succ, Array.replicate_zero, List.push_toArray, List.append_toArray, List.nil_append, List.cons_append]
  have HY := Aside0.mk hY
  have HJ := Aside0.mk hJ
  have HS := Aside0.mk hS
  have HL := Aside0.mk hlt
  have d0 : V.cell? ⟨bn, 0, none⟩ = some (.int .i64 first) := (blk_cell hn 0).trans rfl
  clear hY hJ hS hlt hn
  gi_wp2
  clear d0
  gi_loopw [4] (fun r4 wr => ∃ (pre : List SgX), r4 = .int .i64 ((first + pre.length : Nat) : Int) ∧ J pre wr ∧ sgBs pre <+: bs ∧ SumpAt wr s F D ∧ V.heap.size ≤ wr.heap.size ∧ wr.heap[bp]? = some (.cells #[.pointer (some ⟨s, 0, none⟩)] 23 (0, 0)))
    (fun r4 _ => first + bs.length - (intOf r4).toNat)
  case atStart => exact ⟨[], rfl, h0, List.nil_prefix, hd, Nat.le_refl _, hp⟩
  case round =>
    obtain ⟨pre, rfl, hj, hpf, hd1, hvs, hp1⟩ := hrel
    have hple : pre.length ≤ bs.length := by have := hpf.length_le; simpa [sgBs] using this
    obtain ⟨n, hn⟩ : ∃ n, first + pre.length = n := ⟨_, rfl⟩
    rw [hn]
    have hn100 : n < 100 := by have := HL.out; omega
    have HN := Aside0.mk (And.intro hn hn100)
    have HJP := Aside0.mk hj
    have HPF := Aside0.mk hpf
    have HD := Aside0.mk hd1
    have HP := Aside0.mk hp1
    have HVS := Aside0.mk hvs
    have hseg : ∀ W, Calls Tryz.prog 25 #[.int .i64 (n : Int)] W fun e w' => e = .returned (.string (segK n)) ∧ w' = W := fun W => segment_calls n HN.out.2 W
    have HD1 := Aside0.mk (hd1.below (below_drew1 (Below.refl _ wr)))
    by_cases hlt : pre.length < bs.length
    · obtain ⟨b, hb⟩ : ∃ b, bs[pre.length]? = some b := ⟨_, List.getElem?_eq_getElem hlt⟩
      obtain ⟨f, hf, hfb⟩ := HS.out.got _ _ hb
      rw [hn] at hf
      have hrd := read_some HD1.out (segK n) hf
      rw [hfb] at hrd
      have HX := Aside0.mk (show sgBs pre ++ [b] <+: bs from by
        obtain ⟨r, hr⟩ := hpf
        refine ⟨r.tail, ?_⟩
        have hl : (sgBs pre).length = pre.length := by simp [sgBs]
        rw [← hr, List.getElem?_append_right (by omega), hl, Nat.sub_self] at hb
        cases r with
        | nil => cases hb
        | cons x r => cases hb; rw [← hr]; simp)
      have HLT := Aside0.mk hlt
      obtain ⟨bl, hbl⟩ : ∃ bl, b.length = bl := ⟨_, rfl⟩
      have HBL := Aside0.mk hbl
      rw [hbl] at hrd
      clear hj hpf hd1 hvs hp1 hple hn hn100 hlt hb hf hfb hbl
      gi_upto_region 2 with fail
      refine wpIn_wide.2 ?_
      refine wp_mono (Q := fun e a w => e = .normal ∧ _) ?_ (fun e a w h => h.2)
      refine start_ (n := 9) (S := fun w' => w'.cell? ⟨bp, 0, none⟩ = some (.pointer (some ⟨s, 0, none⟩))) (ds := []) #[ff,ff,ff,ff,ff,ff,ff,ff,ff] (by kernel_rfl) rfl rfl (((blk_cell (blk_drew HP.out) 0).trans rfl)) (fun hHeld => ?_)
      refine with_tabW q66.tab2 q66.bits2 (fun HT_ HW_ => ?_)
      refine pure_ (i := 1) (N := some 12) (v := ?_) (a' := ?_) #[ff,tt,ff,ff,ff,ff,ff,ff,ff] rfl rfl (any_of HT_.out (by kernel_rfl)) (fun _ _ _ h => nomatch h.1) (Or.inl ⟨by rfl, ?_⟩) ?_ ?_
      rotate_left
      · intro w'
        go_simp
        with_reducible rfl
      rotate_left
      · simp only [Act.put, sA, sB, sC, i64_w, i32_w]
        rfl
      refine take_ (i := 0) (N := some 11) (v := ?_) (a' := ?_) #[tt,tt,ff,ff,ff,ff,ff,ff,ff] rfl rfl (take_ofW HT_.out HW_.out (by kernel_rfl)) (fun _ _ _ h => nomatch h.1) (Or.inl ⟨by rfl, ?_⟩) hHeld ?_ ?_
      rotate_left
      · intro w' s0
        go_simp
        with_reducible rfl
      rotate_left
      · simp only [Act.put, sA, sB, sC, i64_w, i32_w]
        rfl
      refine one_ (i := 2) (N := some 13) #[tt,tt,tt,ff,ff,ff,ff,ff,ff] rfl rfl (one_of HT_.out (by kernel_rfl)) (by decide) (fun K hK => ?_)
      refine goes_ Tryz.func25 (by kernel_rfl) rfl #[.int .i64 (n : Int)] (by rfl) rfl rfl (by simp only [List.map_toArray, List.map_cons, List.map_nil]; rfl) ?_
      with_reducible refine (hseg _).mono ?_
      rintro e w3 ⟨rfl, rfl⟩
      refine ⟨_, rfl, ?_⟩
      refine hK.out _ _ (((blk_cell (blk_drew HP.out) 0).trans rfl)) (fun hHeld => ?_)
      clear hK K
      refine norm_ (a' := ?_) ?_ ?_
      rotate_left
      · show Act.put _ (some 13) _ = _
        simp only [Act.put, sA, sB, sC, i64_w, i32_w]
        rfl
      refine one_ (i := 3) (N := some 14) #[tt,tt,tt,tt,ff,ff,ff,ff,ff] rfl rfl (one_of HT_.out (by kernel_rfl)) (by decide) (fun K hK => ?_)
      refine goes_ Tryz.func34 (by kernel_rfl) rfl #[.pointer (some ⟨s, 0, none⟩), .string (segK n)] (by rfl) rfl rfl (by simp only [List.map_toArray, List.map_cons, List.map_nil]; rfl) ?_
      with_reducible refine ((show Calls _ _ _ _ _ from hrd)).mono ?_
      rintro e w4x ⟨⟨rA, rc, rfl, hR⟩, hb⟩
      refine ⟨_, rfl, ?_⟩
      have z_R := Aside0.mk hR
      have z_B := Aside0.mk (show Below wr.heap.size wr w4x from (below_drew1 (Below.refl _ wr)).trans hb)
      clear hR hb hrd
      refine hK.out _ _ (((blk_cell (blk_below HP.out z_B.out) 0).trans rfl)) (fun hHeld => ?_)
      clear hK K
      refine norm_ (a' := ?_) ?_ ?_
      rotate_left
      · show Act.put _ (some 14) _ = _
        simp only [Act.put, sA, sB, sC, i64_w, i32_w]
        rfl
      refine pure_ (i := 4) (N := some 10) (v := ?_) (a' := ?_) #[tt,tt,tt,tt,tt,ff,ff,ff,ff] rfl rfl (any_of HT_.out (by kernel_rfl)) (fun _ _ _ h => nomatch h.1) (Or.inl ⟨by rfl, ?_⟩) ?_ ?_
      rotate_left
      · intro w'
        go_simp
        with_reducible rfl
      rotate_left
      · simp only [Act.put, sA, sB, sC, i64_w, i32_w]
        rfl
      refine pure_ (i := 5) (N := some 15) (v := ?_) (a' := ?_) #[tt,tt,tt,tt,tt,tt,ff,ff,ff] rfl rfl (any_of HT_.out (by kernel_rfl)) (fun _ _ _ h => nomatch h.1) (Or.inl ⟨by rfl, ?_⟩) ?_ ?_
      rotate_left
      · intro w'
        go_simp
        with_reducible rfl
      rotate_left
      · simp only [Act.put, sA, sB, sC, i64_w, i32_w]
        rfl
      refine pure_ (i := 6) (N := some 16) (v := ?_) (a' := ?_) #[tt,tt,tt,tt,tt,tt,tt,ff,ff] rfl rfl (any_of HT_.out (by kernel_rfl)) (fun _ _ _ h => nomatch h.1) (Or.inl ⟨by rfl, ?_⟩) ?_ ?_
      rotate_left
      · intro w'
        go_simp
        with_reducible rfl
      rotate_left
      · simp only [Act.put, sA, sB, sC, i64_w, i32_w]
        rfl
      refine pure_ (i := 7) (N := some 5) (v := ?_) (a' := ?_) #[tt,tt,tt,tt,tt,tt,tt,tt,ff] rfl rfl (any_of HT_.out (by kernel_rfl)) (fun _ _ _ h => nomatch h.1) (Or.inl ⟨by rfl, ?_⟩) ?_ ?_
      rotate_left
      · intro w'
        go_simp
        with_reducible rfl
      rotate_left
      · simp only [Act.put, sA, sB, sC, i64_w, i32_w]
        rfl
      refine pure_ (i := 8) (N := some 6) (v := ?_) (a' := ?_) #[tt,tt,tt,tt,tt,tt,tt,tt,tt] rfl rfl (any_of HT_.out (by kernel_rfl)) (fun _ _ _ h => nomatch h.1) (Or.inl ⟨by rfl, ?_⟩) ?_ ?_
      rotate_left
      · intro w'
        go_simp
        with_reducible rfl
      rotate_left
      · simp only [Act.put, sA, sB, sC, i64_w, i32_w]
        rfl
      refine done_ (done_of HT_.out (by kernel_rfl)) ?_
      refine ⟨rfl, ?_⟩
      clear hHeld HT_ HW_
      clear HD1
      obtain ⟨fn, tmps, assign, body, hy, hR⟩ := HY.out pre ⟨n, rA, rc, b⟩ w4x (HJ.out _ _ _ none HJP.out (grown_of_below z_B.out) (by nofun)) ⟨HN.out.1.symm, HX.out, by rw [HBL.out]; exact Kd.R_lower z_R.out (Nat.zero_le _)⟩ HLT.out
      have HRR := Aside0.mk hR
      simp only [sgA] at hy
      rw [HBL.out] at hy
      clear hR
      gi_wp2
      refine HRR.out.mono ?_
      rintro e W3 (⟨rfl, hj3, hk3⟩ | ⟨rfl, hj3⟩)
      · have HJ3 := Aside0.mk hj3
        have HD3 := Aside0.mk (hk3.1 (HD.out.below z_B.out))
        have HP3 := Aside0.mk ((hk3.2.1.trans (z_B.out.block _ (blk_lt HP.out))).trans HP.out)
        have HV3 := Aside0.mk (show V.heap.size ≤ W3.heap.size from Nat.le_trans HVS.out (Nat.le_trans z_B.out.size hk3.2.2))
        have HN3 := Aside0.mk (show first + (pre ++ [(⟨n, rA, rc, b⟩ : SgX)]).length = n + 1 by rw [List.length_append, List.length_singleton]; have := HN.out.1; omega)
        have HM := Aside0.mk (show first + bs.length - (n + 1) < first + bs.length - n by have := HN.out.1; have := HLT.out; omega)
        have q1 : -9223372036854775808 ≤ (n : Int) + 1 ∧ (n : Int) + 1 ≤ 9223372036854775807 := by have := HN.out.2; omega
        have hwn : wrap64 ((n : Int) + 1) = (n : Int) + 1 := wrap_in q1.1 q1.2
        clear hj3 hk3 q1
        gi_wp2
        go_roundw
        case rel => exact ⟨_, by rw [HN3.out, hwn]; rfl, HJ3.out, by rw [sgBs_snoc]; exact HX.out, HD3.out, HV3.out, HP3.out⟩
        case measure =>
          have hw2 : wrap64 ((n : Int) + ((1 : Nat) : Int)) = ((n + 1 : Nat) : Int) := by rw [show ((1 : Nat) : Int) = 1 from rfl, hwn]; rfl
          exact ms_lt _ n 1 HM.out hw2
      · have HJ3 := Aside0.mk hj3
        clear hj3
        gi_wp2
        exact bodyPost_ret (results_none rfl _ _ _) rfl ⟨⟨_, rfl⟩, .inr ⟨_, by rw [sgBs_snoc]; exact HX.out, HJ3.out⟩⟩
    · have hfull : sgBs pre = bs := hpf.eq_of_length (by simp only [sgBs, List.length_map]; omega)
      have hlen : first + bs.length = n := by omega
      have hrd := read_none HD1.out (segK n) (by rw [← hlen]; exact HS.out.stop)
      have HFU := Aside0.mk hfull
      clear hj hpf hd1 hvs hp1 hple hn hn100 hlt hfull hlen
      gi_upto_region 2 with fail
      refine wpIn_wide.2 ?_
      refine wp_mono (Q := fun e a w => e = .normal ∧ _) ?_ (fun e a w h => h.2)
      refine start_ (n := 9) (S := fun w' => w'.cell? ⟨bp, 0, none⟩ = some (.pointer (some ⟨s, 0, none⟩))) (ds := []) #[ff,ff,ff,ff,ff,ff,ff,ff,ff] (by kernel_rfl) rfl rfl (((blk_cell (blk_drew HP.out) 0).trans rfl)) (fun hHeld => ?_)
      refine with_tabW q66.tab2 q66.bits2 (fun HT_ HW_ => ?_)
      refine pure_ (i := 1) (N := some 12) (v := ?_) (a' := ?_) #[ff,tt,ff,ff,ff,ff,ff,ff,ff] rfl rfl (any_of HT_.out (by kernel_rfl)) (fun _ _ _ h => nomatch h.1) (Or.inl ⟨by rfl, ?_⟩) ?_ ?_
      rotate_left
      · intro w'
        go_simp
        with_reducible rfl
      rotate_left
      · simp only [Act.put, sA, sB, sC, i64_w, i32_w]
        rfl
      refine take_ (i := 0) (N := some 11) (v := ?_) (a' := ?_) #[tt,tt,ff,ff,ff,ff,ff,ff,ff] rfl rfl (take_ofW HT_.out HW_.out (by kernel_rfl)) (fun _ _ _ h => nomatch h.1) (Or.inl ⟨by rfl, ?_⟩) hHeld ?_ ?_
      rotate_left
      · intro w' s0
        go_simp
        with_reducible rfl
      rotate_left
      · simp only [Act.put, sA, sB, sC, i64_w, i32_w]
        rfl
      refine one_ (i := 2) (N := some 13) #[tt,tt,tt,ff,ff,ff,ff,ff,ff] rfl rfl (one_of HT_.out (by kernel_rfl)) (by decide) (fun K hK => ?_)
      refine goes_ Tryz.func25 (by kernel_rfl) rfl #[.int .i64 (n : Int)] (by rfl) rfl rfl (by simp only [List.map_toArray, List.map_cons, List.map_nil]; rfl) ?_
      with_reducible refine (hseg _).mono ?_
      rintro e w3 ⟨rfl, rfl⟩
      refine ⟨_, rfl, ?_⟩
      refine hK.out _ _ (((blk_cell (blk_drew HP.out) 0).trans rfl)) (fun hHeld => ?_)
      clear hK K
      refine norm_ (a' := ?_) ?_ ?_
      rotate_left
      · show Act.put _ (some 13) _ = _
        simp only [Act.put, sA, sB, sC, i64_w, i32_w]
        rfl
      refine one_ (i := 3) (N := some 14) #[tt,tt,tt,tt,ff,ff,ff,ff,ff] rfl rfl (one_of HT_.out (by kernel_rfl)) (by decide) (fun K hK => ?_)
      refine goes_ Tryz.func34 (by kernel_rfl) rfl #[.pointer (some ⟨s, 0, none⟩), .string (segK n)] (by rfl) rfl rfl (by simp only [List.map_toArray, List.map_cons, List.map_nil]; rfl) ?_
      with_reducible refine ((show Calls _ _ _ _ _ from hrd)).mono ?_
      rintro e w4x ⟨rfl, hb⟩
      refine ⟨_, rfl, ?_⟩
      have z_B := Aside0.mk (show Below wr.heap.size wr w4x from (below_drew1 (Below.refl _ wr)).trans hb)
      clear hb hrd
      refine hK.out _ _ (((blk_cell (blk_below HP.out z_B.out) 0).trans rfl)) (fun hHeld => ?_)
      clear hK K
      refine norm_ (a' := ?_) ?_ ?_
      rotate_left
      · show Act.put _ (some 14) _ = _
        simp only [Act.put, sA, sB, sC, i64_w, i32_w]
        rfl
      refine pure_ (i := 4) (N := some 10) (v := ?_) (a' := ?_) #[tt,tt,tt,tt,tt,ff,ff,ff,ff] rfl rfl (any_of HT_.out (by kernel_rfl)) (fun _ _ _ h => nomatch h.1) (Or.inl ⟨by rfl, ?_⟩) ?_ ?_
      rotate_left
      · intro w'
        go_simp
        with_reducible rfl
      rotate_left
      · simp only [Act.put, sA, sB, sC, i64_w, i32_w]
        rfl
      refine pure_ (i := 5) (N := some 15) (v := ?_) (a' := ?_) #[tt,tt,tt,tt,tt,tt,ff,ff,ff] rfl rfl (any_of HT_.out (by kernel_rfl)) (fun _ _ _ h => nomatch h.1) (Or.inl ⟨by rfl, ?_⟩) ?_ ?_
      rotate_left
      · intro w'
        go_simp
        with_reducible rfl
      rotate_left
      · simp only [Act.put, sA, sB, sC, i64_w, i32_w]
        rfl
      refine pure_ (i := 6) (N := some 16) (v := ?_) (a' := ?_) #[tt,tt,tt,tt,tt,tt,tt,ff,ff] rfl rfl (any_of HT_.out (by kernel_rfl)) (fun _ _ _ h => nomatch h.1) (Or.inl ⟨by rfl, ?_⟩) ?_ ?_
      rotate_left
      · intro w'
        go_simp
        with_reducible rfl
      rotate_left
      · simp only [Act.put, sA, sB, sC, i64_w, i32_w]
        rfl
      refine pure_ (i := 7) (N := some 5) (v := ?_) (a' := ?_) #[tt,tt,tt,tt,tt,tt,tt,tt,ff] rfl rfl (any_of HT_.out (by kernel_rfl)) (fun _ _ _ h => nomatch h.1) (Or.inl ⟨by rfl, ?_⟩) ?_ ?_
      rotate_left
      · intro w'
        go_simp
        with_reducible rfl
      rotate_left
      · simp only [Act.put, sA, sB, sC, i64_w, i32_w]
        rfl
      refine pure_ (i := 8) (N := some 6) (v := ?_) (a' := ?_) #[tt,tt,tt,tt,tt,tt,tt,tt,tt] rfl rfl (any_of HT_.out (by kernel_rfl)) (fun _ _ _ h => nomatch h.1) (Or.inl ⟨by rfl, ?_⟩) ?_ ?_
      rotate_left
      · intro w'
        go_simp
        with_reducible rfl
      rotate_left
      · simp only [Act.put, sA, sB, sC, i64_w, i32_w]
        rfl
      refine done_ (done_of HT_.out (by kernel_rfl)) ?_
      refine ⟨rfl, ?_⟩
      clear hHeld HT_ HW_
      have HJ4 := Aside0.mk (HJ.out _ _ _ none HJP.out (grown_of_below z_B.out) (by nofun))
      gi_wp2
      refine ⟨by nofun, ?_⟩
      gi_wp2
      exact bodyPost_ret (results_none rfl _ _ _) rfl ⟨⟨_, rfl⟩, .inl ⟨pre, HFU.out, HJ4.out⟩⟩
end Go.Proofs.YtdooajmgfoobfaaGreatDoor.H

