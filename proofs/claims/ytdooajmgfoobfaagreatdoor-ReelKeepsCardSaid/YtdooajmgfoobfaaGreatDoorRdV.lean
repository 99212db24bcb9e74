/- A reel: Save. Laid by wip/rs_bl.py. -/
import Derived.Test.YtdooajmgfoobfaaGreatDoorRdA
import Derived.Test.YtdooajmgfoobfaaGreatDoorZz
namespace Go.Proofs.YtdooajmgfoobfaaGreatDoor.H
attribute [local go_sem] Oper.semAt_some
open Go.RowKit Go.Shelf Go.Proofs.YtdooajmgfoobfaaGreatDoor.PA Go.Proofs.YtdooajmgfoobfaaGreatDoorW.PrintWords Go.Proofs.YtdooajmgfoobfaaGreatDoorW.PrintLast Go.Proofs.YtdooajmgfoobfaaGreatDoorW.PrintMore
set_option linter.unusedVariables false
set_option linter.unusedSimpArgs false
def rinst2 (D : Dk) (b : List Int) : Dk × Int :=
  if (D.append marknK b).2 = 0 then
    (if ((D.append marknK b).1.sync marknK).2 = 0 then ((D.append marknK b).1.sync marknK).1.rename marknK markK else (D.append marknK b).1.sync marknK)
  else D.append marknK b
def rinstall (D : Dk) (b : List Int) : Dk × Int := match lk marknK D.L with
  | none => rinst2 D b
  | some _ => if (D.drop marknK).2 = 0 then rinst2 (D.drop marknK).1 b else D.drop marknK
theorem RSt.read {w W : World} {g s : Nat} {F : Nat → Prop} {m : Rl} {D : Dk} (h : RSt w g s F m D W) (k : ByteArray) : Calls Tryz.prog 34 #[.pointer (some ⟨s, 0, none⟩), .string k] W (ReadOut D k W) := by
  obtain ⟨F', h1, _⟩ := h.at_
  exact Read_calls W s F' D k h1.disk
theorem RSt.read_none {w W : World} {g s : Nat} {F : Nat → Prop} {m : Rl} {D : Dk} (h : RSt w g s F m D W) (k : ByteArray) (hk : lk k D.L = none) : Calls Tryz.prog 34 #[.pointer (some ⟨s, 0, none⟩), .string k] W fun e W' => e = .returned (.tuple #[.slice none 0 0, .int .i64 5]) ∧ Below W.heap.size W W' :=
  (h.read k).mono fun e W' ho => by
    rcases ho.out with ⟨_, h1⟩ | ⟨f, v, h1, _⟩
    · exact ⟨h1, ho.hb⟩
    · rw [hk] at h1
      cases h1
theorem RSt.read_some {w W : World} {g s : Nat} {F : Nat → Prop} {m : Rl} {D : Dk} (h : RSt w g s F m D W) (k : ByteArray) {f : Fl} (hk : lk k D.L = some f) : Calls Tryz.prog 34 #[.pointer (some ⟨s, 0, none⟩), .string k] W fun e W' => (∃ A c, e = .returned (.tuple #[.slice A f.b.length c, .int .i64 0]) ∧ Kd.R (Kd.int .u8) 5 W' W.heap.size (fun _ => True) (.slice A f.b.length c) f.b) ∧ Below W.heap.size W W' :=
  (h.read k).mono fun e W' ho => by
    rcases ho.out with ⟨h1, _⟩ | ⟨f', v, h1, h2, h3⟩
    · rw [hk] at h1
      cases h1
    · rw [hk] at h1
      cases h1
      obtain ⟨A, c, hv⟩ := Kd.R_slice h3
      subst hv
      exact ⟨⟨A, c, h2, h3⟩, ho.hb⟩
set_option maxRecDepth 100000 in
set_option maxHeartbeats 8000000 in
theorem install_calls (w W : World) (g s : Nat) (F : Nat → Prop) (m : Rl) (D : Dk) (fA : Option Addr) (fl fc base : Nat) (b : List Int) (h : RSt w g s F m D W) (hR : Kd.R (Kd.int .u8) 5 W base (fun _ => True) (.slice fA fl fc) b) (hu : ∀ x ∈ b, 0 ≤ x ∧ x ≤ 255) (hl : b.length ≤ 1000000000) :
    Calls Tryz.prog 29 #[.pointer (some ⟨g, 0, none⟩), .slice fA fl fc] W (DkStep w g s F m (rinstall D b) W) := by
  have HFU := Aside0.mk hu
  have HLE := Aside0.mk hl
  have HLB := Aside0.mk (show D = D from rfl)
  have HS := Aside0.mk h
  have HR := Aside0.mk hR
  have d0 : W.cell? ⟨g, 0, none⟩ = some (.pointer (some ⟨s, 0, none⟩)) := (blk_cell h.blk 0).trans rfl
  generalize hrp : rinstall D b = rp
  unfold rinstall at hrp
  cases hk : lk marknK D.L with
  | none =>
    rw [hk] at hrp
    simp only at hrp
    unfold rinst2 at hrp
    have HPUT := Aside0.mk hrp
    have hrd := h.read_none marknK hk
    clear hrp hk h hR hu hl
    go_enter Tryz.func29, Tryz.ntmps29
    go_upto_region 6 with (go_at_call 34; refine hrd.mono ?_; rintro e w1 ⟨rfl, hb⟩; have o_S := Aside0.mk (HS.out.below hb); have o_R := Aside0.mk (Kd.R_below HR.out hb); have o_K := Aside0.mk (KeepT.below hb); clear hb hrd d0)
    have hap := o_S.out.append marknK markn_named o_R.out HFU.out HLE.out
    skip
    generalize D.append marknK b = r1 at hap HPUT
    obtain ⟨D1, e1⟩ := r1
    simp only at HPUT
    have d0 : w1.cell? ⟨g, 0, none⟩ = some (.pointer (some ⟨s, 0, none⟩)) := (blk_cell o_S.out.blk 0).trans rfl
    go_upto_region 7 with (go_at_call 24; refine (show Calls _ _ _ _ _ from hap).mono ?_; rintro e w5x ⟨rfl, hst, hkp⟩; have p_S := Aside0.mk hst; have p_K := Aside0.mk (o_K.out.trans hkp); clear hst hkp hap d0)
    by_cases h0 : e1 = 0
    · subst h0
      simp only [if_pos trivial] at HPUT
      have hsy := p_S.out.disk (fun F' hd => Sync_disk w5x s F' D1 marknK hd)
      generalize D1.sync marknK = r2 at hsy HPUT
      obtain ⟨D2, e2⟩ := r2
      simp only at HPUT
      have d0 : w5x.cell? ⟨g, 0, none⟩ = some (.pointer (some ⟨s, 0, none⟩)) := (blk_cell p_S.out.blk 0).trans rfl
      go_upto_region 10 with (go_at_call 26; refine (show Calls _ _ _ _ _ from hsy).mono ?_; rintro e w6x ⟨rfl, hst, hkp⟩; have q_S := Aside0.mk hst; have q_K := Aside0.mk (p_K.out.trans hkp); clear hst hkp hsy d0)
      by_cases h1 : e2 = 0
      · subst h1
        simp only [if_pos trivial] at HPUT
        have hre := q_S.out.disk (fun F' hd => Rename_disk w6x s F' D2 marknK markK mark_named hd)
        rw [HPUT.out] at hre
        have d0 : w6x.cell? ⟨g, 0, none⟩ = some (.pointer (some ⟨s, 0, none⟩)) := (blk_cell q_S.out.blk 0).trans rfl
        go_wp2_with (go_at_call 55; refine (show Calls _ _ _ _ _ from hre).mono ?_; rintro e w7x ⟨rfl, hst, hkp⟩; have r_S := Aside0.mk hst; have r_K := Aside0.mk (q_K.out.trans hkp); clear hst hkp hre d0)
        exact bodyPost_ret (v := .int .i64 rp.2) (by simp [results, Tryz.results29, go_sem]) rfl ⟨rfl, r_S.out, r_K.out⟩
      · have hb1 : (e2 != 0) = true := by simpa using h1
        rw [if_neg h1] at HPUT
        go_wp2_with fail
        exact bodyPost_ret (v := .int .i64 e2) (by simp [results, Tryz.results29, go_sem]) rfl (by rw [← HPUT.out]; exact ⟨rfl, q_S.out, q_K.out⟩)
    · have hb1 : (e1 != 0) = true := by simpa using h0
      rw [if_neg h0] at HPUT
      go_wp2_with fail
      exact bodyPost_ret (v := .int .i64 e1) (by simp [results, Tryz.results29, go_sem]) rfl (by rw [← HPUT.out]; exact ⟨rfl, p_S.out, p_K.out⟩)
  | some f =>
    rw [hk] at hrp
    simp only at hrp
    have HPUT := Aside0.mk hrp
    have hrd := h.read_some marknK hk
    generalize f.b.length = rl at hrd
    clear hrp hk h hR hu hl
    go_enter Tryz.func29, Tryz.ntmps29
    go_upto_region 3 with (go_at_call 34; refine hrd.mono ?_; rintro e w1 ⟨⟨rA, rc, rfl, _⟩, hb⟩; have o_S := Aside0.mk (HS.out.below hb); have o_R := Aside0.mk (Kd.R_below HR.out hb); have o_K := Aside0.mk (KeepT.below hb); clear hb hrd d0)
    have hdr := o_S.out.disk (fun F' hd => Drop_disk w1 s F' D marknK hd)
    generalize D.drop marknK = r0 at hdr HPUT
    obtain ⟨D0, e0⟩ := r0
    simp only at HPUT
    have d0 : w1.cell? ⟨g, 0, none⟩ = some (.pointer (some ⟨s, 0, none⟩)) := (blk_cell o_S.out.blk 0).trans rfl
    go_upto_region 4 with (go_at_call 30; refine (show Calls _ _ _ _ _ from hdr).mono ?_; rintro e w2 ⟨rfl, hst, hkp⟩; have m_S := Aside0.mk hst; have m_R := Aside0.mk (hkp.rd o_R.out); have m_K := Aside0.mk (o_K.out.trans hkp); clear hst hkp hdr d0)
    by_cases h00 : e0 = 0
    · subst h00
      simp only [if_pos trivial] at HPUT
      unfold rinst2 at HPUT
      go_upto_region 6 with fail
      have hap := m_S.out.append marknK markn_named m_R.out HFU.out HLE.out
      skip
      generalize D0.append marknK b = r1 at hap HPUT
      obtain ⟨D1, e1⟩ := r1
      simp only at HPUT
      have d0 : w2.cell? ⟨g, 0, none⟩ = some (.pointer (some ⟨s, 0, none⟩)) := (blk_cell m_S.out.blk 0).trans rfl
      go_upto_region 7 with (go_at_call 24; refine (show Calls _ _ _ _ _ from hap).mono ?_; rintro e w5x ⟨rfl, hst, hkp⟩; have p_S := Aside0.mk hst; have p_K := Aside0.mk (m_K.out.trans hkp); clear hst hkp hap d0)
      by_cases h0 : e1 = 0
      · subst h0
        simp only [if_pos trivial] at HPUT
        have hsy := p_S.out.disk (fun F' hd => Sync_disk w5x s F' D1 marknK hd)
        generalize D1.sync marknK = r2 at hsy HPUT
        obtain ⟨D2, e2⟩ := r2
        simp only at HPUT
        have d0 : w5x.cell? ⟨g, 0, none⟩ = some (.pointer (some ⟨s, 0, none⟩)) := (blk_cell p_S.out.blk 0).trans rfl
        go_upto_region 10 with (go_at_call 26; refine (show Calls _ _ _ _ _ from hsy).mono ?_; rintro e w6x ⟨rfl, hst, hkp⟩; have q_S := Aside0.mk hst; have q_K := Aside0.mk (p_K.out.trans hkp); clear hst hkp hsy d0)
        by_cases h1 : e2 = 0
        · subst h1
          simp only [if_pos trivial] at HPUT
          have hre := q_S.out.disk (fun F' hd => Rename_disk w6x s F' D2 marknK markK mark_named hd)
          rw [HPUT.out] at hre
          have d0 : w6x.cell? ⟨g, 0, none⟩ = some (.pointer (some ⟨s, 0, none⟩)) := (blk_cell q_S.out.blk 0).trans rfl
          go_wp2_with (go_at_call 55; refine (show Calls _ _ _ _ _ from hre).mono ?_; rintro e w7x ⟨rfl, hst, hkp⟩; have r_S := Aside0.mk hst; have r_K := Aside0.mk (q_K.out.trans hkp); clear hst hkp hre d0)
          exact bodyPost_ret (v := .int .i64 rp.2) (by simp [results, Tryz.results29, go_sem]) rfl ⟨rfl, r_S.out, r_K.out⟩
        · have hb1 : (e2 != 0) = true := by simpa using h1
          rw [if_neg h1] at HPUT
          go_wp2_with fail
          exact bodyPost_ret (v := .int .i64 e2) (by simp [results, Tryz.results29, go_sem]) rfl (by rw [← HPUT.out]; exact ⟨rfl, q_S.out, q_K.out⟩)
      · have hb1 : (e1 != 0) = true := by simpa using h0
        rw [if_neg h0] at HPUT
        go_wp2_with fail
        exact bodyPost_ret (v := .int .i64 e1) (by simp [results, Tryz.results29, go_sem]) rfl (by rw [← HPUT.out]; exact ⟨rfl, p_S.out, p_K.out⟩)
    · have hb1 : (e0 != 0) = true := by simpa using h00
      rw [if_neg h00] at HPUT
      go_wp2_with fail
      exact bodyPost_ret (v := .int .i64 e0) (by simp [results, Tryz.results29, go_sem]) rfl (by rw [← HPUT.out]; exact ⟨rfl, m_S.out, m_K.out⟩)
end Go.Proofs.YtdooajmgfoobfaaGreatDoor.H
namespace Go.Proofs.YtdooajmgfoobfaaGreatDoor.H
attribute [local go_sem] Oper.semAt_some
open Go.RowKit Go.Shelf Go.Proofs.YtdooajmgfoobfaaGreatDoor.PA Go.Proofs.YtdooajmgfoobfaaGreatDoorW.PrintWords Go.Proofs.YtdooajmgfoobfaaGreatDoorW.PrintLast Go.Proofs.YtdooajmgfoobfaaGreatDoorW.PrintMore
set_option linter.unusedVariables false
set_option linter.unusedSimpArgs false
/-- Segments dropped: k of them, from n on. -/
def rdrops (D : Dk) (n : Nat) : Nat → Dk × Int
 | 0 => (D, 0)
 | k + 1 => if (D.drop (segK n)).2 = 0 then rdrops (D.drop (segK n)).1 (n + 1) k else D.drop (segK n)
def rsave2 (m : Rl) (d : Dk × Int) : (Rl × Dk) × Int := if d.2 = 0 then (({ m with first := m.last + 1, size := 0, tail := 0 }, d.1), 0) else ((m.note d.2, d.1), d.2)
def rsave1 (m : Rl) (i : Dk × Int) : (Rl × Dk) × Int := if i.2 = 0 then rsave2 m (rdrops i.1 m.first.toNat (m.last + 1 - m.first).toNat) else ((m.note i.2, i.1), i.2)
def imgB (m : Rl) (b : List Int) : List Int := upB (m.last + 1) ++ b
def rsave (m : Rl) (D : Dk) (b : List Int) : (Rl × Dk) × Int := if m.down = true then ((m, D), 23) else rsave1 m (rinstall D (frameB (imgB m b)))
theorem cbytesO_calls (w0 : World) (g : Nat) (bs : List Int) (hl : bs.length ≤ 140737488355328) (w : World) (h : CS w0 g bs w) :
  Calls Tryz.prog 28 #[.pointer (some ⟨g, 0, none⟩)] w (OwnOut bs w) := by
 obtain ⟨v, hv, hr⟩ := h.2.2
 obtain ⟨A, c, e, hc, hC⟩ := Kd.R_reads hr
 have hA : A = none → bs = [] := by
  intro hA
  subst hA
  cases bs with
  | nil => rfl
  | cons b r => obtain ⟨ad, h2, _⟩ := hC.2.2 (by simp); cases h2
 have hcl := cloneO_calls A c bs w hC hA hl
 obtain ⟨n, hn⟩ : ∃ n, bs.length = n := ⟨_, rfl⟩
 subst e
 have d0 := blk_cell hv 0
 rw [hn] at d0 hcl
 clear hv hr hC hc hn h hl
 go_enter Tryz.func28, Tryz.ntmps28
 go_wp2_with (go_at_call 21; refine (show Calls _ _ _ _ _ from hcl).mono ?_; rintro e w1 ⟨⟨v, rfl, hR⟩, hb⟩; have HO := Aside0.mk hR; have HB := Aside0.mk hb; clear hR hb hcl)
 exact bodyPost_ret (v := v) (by simp [results, Tryz.results28, go_sem]) rfl ⟨⟨v, rfl, HO.out⟩, HB.out⟩
theorem upB_u8 (n : Int) : ∀ x ∈ upB n, 0 ≤ x ∧ x ≤ 255 := by
 intro x hx
 unfold upB at hx
 split at hx
 ·exact numB_u8 _ x hx
 ·cases hx
/-- What a loop of drops leaves. -/
structure DropsAt (w : World) (g s : Nat) (F : Nat → Prop) (m : Rl) (rd : Dk × Int) (L : Nat) (n : Nat) (W : World) : Prop where
 ex : ∃ Dn k, RSt w g s F m Dn W ∧ n + k = L ∧ rdrops Dn n k = rd
def q10.T14 : Bool × List (List Nat × List Nat) := (true, [([], []), ([], []), ([1], [1]), ([2], [2]), ([3], [3]), ([], []), ([5], [5]), ([4, 6, 6], [4, 6]), ([0, 7, 7], [0, 7]), ([8, 8, 0, 1, 2, 3, 4, 5, 6, 7, 8], [8])])
def q10.B14 : List Nat := [0, 0, 2, 6, 14, 0, 32, 126, 255, 511]
theorem q10.tab14 : rtab .any (opsOf Tryz.f10 14) = q10.T14 := by kernel_rfl
theorem q10.bits14 : waitsOk q10.T14.2 q10.B14 = true := by kernel_rfl
set_option maxRecDepth 100000 in
set_option maxHeartbeats 800000 in
theorem save_go (w : World) (g s : Nat) (F : Nat → Prop) (m : Rl) (D : Dk) (A : Option Addr) (c : Nat) (b : List Int) (h : RlAt w g s F m D) (ok : RlOk m) (hfl : m.first ≤ m.last + 1) (hd : m.down = false) (hC : Kd.C (Kd.int .u8) w A b.length b) (hu : ∀ x ∈ b, 0 ≤ x ∧ x ≤ 255) (hl : b.length ≤ 199000) (hN : Nib w) (hgn : 1 < w.heap.size) :
  Calls Tryz.prog 10 #[.pointer (some ⟨g, 0, none⟩), .slice A b.length c] w (RlOut g s F (rsave1 m (rinstall D (frameB (imgB m b)))) w) := by
 have HST := Aside0.mk (RSt.start h)
 have HD := Aside0.mk hd
 have hB0 : Below w.heap.size w (w.alloc (.cells #[.slice none 0 0] 70)) := (Below.refl _ w).alloc (Nat.le_refl _) _
 have d6 : (w.alloc (.cells #[.slice none 0 0] 70)).cell? ⟨g, 6, none⟩ = some (.bool false) := (blk_cell (blk_below h.blk hB0) 6).trans (by rw [← hd]; rfl)
 have d60 : w.cell? ⟨g, 6, none⟩ = some (.bool false) := (blk_cell h.blk 6).trans (by rw [← hd]; rfl)
 have d3 : (w.alloc (.cells #[.slice none 0 0] 70)).cell? ⟨g, 3, none⟩ = some (.int .i64 m.last) := (blk_cell (blk_below h.blk hB0) 3).trans rfl
 have HCS := Aside0.mk (show CS w w.heap.size [] (w.alloc (.cells #[.slice none 0 0] 70)) from ⟨hB0, Nat.le_refl _, _, heap_alloc_new _ _, Kd.R_nil _ _ _ _ _⟩)
 have hup := cup_calls w w.heap.size [] (m.last + 1) (by have := ok.last; omega) (by simp) _ HCS.out
 rw [List.nil_append] at hup
 have hul := upB_len (n := m.last + 1) (by have := ok.last; omega)
 have qq : -9223372036854775808 ≤ m.last + 1 ∧ m.last + 1 ≤ 9223372036854775807 := by have := ok.last; omega
 have hcb := fun W (hW : CS w w.heap.size (upB (m.last + 1)) W) => cbytesO_calls w w.heap.size (upB (m.last + 1)) (by omega) W hW
 have HUP := Aside0.mk (upB_u8 (m.last + 1))
 have HUB := Aside0.mk hu
 have HUI := Aside0.mk (show ∀ x ∈ imgB m b, 0 ≤ x ∧ x ≤ 255 from fun x hx => (List.mem_append.1 hx).elim (HUP.out x) (hu x))
 have HLI := Aside0.mk (show (upB (m.last + 1)).length + b.length ≤ 199011 by omega)
 have HIM := Aside0.mk (show imgB m b = upB (m.last + 1) ++ b from rfl)
 have hb0 : decide ((b.length : Int) > 199000) = false := decide_eq_false (by omega)
 have HC := Aside0.mk hC
 have HN := Aside0.mk hN
 have HG := Aside0.mk hgn
 have HOK := Aside0.mk ok
 have HFL := Aside0.mk hfl
 obtain ⟨bl, hbl⟩ : ∃ bl, b.length = bl := ⟨_, rfl⟩
 have HBL := Aside0.mk hbl
 rw [hbl] at hb0 ⊢
 have HL1 := Aside0.mk (show ((upB (m.last + 1)).length + bl) * 1 ≤ 140737488355328 by omega)
 have HL2 := Aside0.mk (show (upB (m.last + 1) ++ b).length ≤ 200000 by rw [List.length_append]; omega)
 clear h ok hfl hd hC hu hl hN hgn hB0 hul hbl HLI
 generalize upB (m.last + 1) = ub at hup hcb HUP HL1 HL2 HIM
 rw [HIM.out]
 have HFU := Aside0.mk (show ∀ x ∈ frameB (ub ++ b), 0 ≤ x ∧ x ≤ 255 from frameB_u8 (by have := HUI.out; rw [HIM.out] at this; exact this))
 have HFE := Aside0.mk (show (frameB (ub ++ b)).length ≤ 1000000000 from Nat.le_trans (frameB_len _ HL2.out) (Nat.le_trans (Nat.add_le_add_right HL2.out 15) (by decide)))
 obtain ⟨fb, hfb⟩ : ∃ fb, frameB (ub ++ b) = fb := ⟨_, rfl⟩
 have HFB := Aside0.mk hfb
 rw [hfb] at HFU HFE ⊢
 clear hfb
 obtain ⟨fl, hfl⟩ : ∃ fl, fb.length = fl := ⟨_, rfl⟩
 have HFL2 := Aside0.mk hfl
 clear hfl
 generalize hrp : rsave1 m (rinstall D fb) = rp
 have HPUT := Aside0.mk hrp
 clear hrp
 obtain ⟨il, hil⟩ : ∃ il, (ub ++ b).length = il := ⟨_, rfl⟩
 have HIL := Aside0.mk hil
 clear hil
 have hwl : wrap64 (m.last + 1) = m.last + 1 := wrap_in qq.1 qq.2
 clear qq
 go_enter Tryz.func10, Tryz.ntmps10
 go_upto_region 8 with (first
  | (go_at_call 27; refine hup.mono ?_; rintro e w1 ⟨⟨v0, rfl⟩, hr, hp⟩; have HR := Aside0.mk hr; clear hr hp hup d6 d60 d3)
  | (go_at_call 28; refine (hcb _ HR.out).mono ?_; rintro e w2 ⟨⟨v1, rfl, hR⟩, hb⟩; have HB2 := Aside0.mk (HR.out.1.trans (hb.mono HR.out.1.size)); have HO2 := Aside0.mk (Kd.R_lower hR HR.out.1.size); clear hR hb hcb)
  | (at_builtin; refine Kd.R_append_rows (Rr := fun x cs => cs = [.int .u8 x]) (Kd.int .u8) (w0 := w) w.heap.size rfl (.tmp 25) (.tmp 26) 22 5 (.int .u8 0) 1 rfl Tryz.underlying22 info5 rfl (by decide) (by decide) _ ub b A bl c (fun _ => True) (fun _ => False) rfl rfl HO2.out (show ReadsRow (fun x cs => cs = [.int .u8 x]) (Kd.int .u8).sz _ A bl b from by have := Kd.C_below HC.out HB2.out; rw [HBL.out] at this; exact this) (fun _ _ h => h) (fun _ hk => hk.elim) (fun _ _ => trivial) HB2.out HB2.out.size HL1.out ?_; intro v2 w3 hr hb hg hat; obtain ⟨iA, ic, hv2⟩ := Kd.R_slice hr; rw [HIL.out] at hv2; subst hv2; have HO3 := Aside0.mk hr; have HB3 := Aside0.mk hb; clear hr hb hg hat)
  | (go_at_call 22; obtain ⟨_, _, hC3⟩ := Kd.R_reads' HO3.out; have hfc := Frame_calls iA ic (ub ++ b) _ hC3 (by have := HUI.out; rw [HIM.out] at this; exact this) HL2.out (HN.out.keep (HB3.out.block _ HG.out)) (Nat.lt_of_lt_of_le HG.out HB3.out.size); rw [HIL.out] at hfc; go_loud (refine (show Calls _ _ _ _ _ from hfc).mono ?_; rintro e w4 ⟨⟨v3, rfl, hR⟩, hb⟩; rw [HFB.out] at hR; obtain ⟨oA, oc, hv3⟩ := Kd.R_slice hR; rw [HFL2.out] at hv3; subst hv3; have HO4 := Aside0.mk hR; have HB4 := Aside0.mk (HB3.out.trans (hb.mono HB3.out.size)); clear hR hb hC3 hfc)))
 have HS4 := Aside0.mk (HST.out.below HB4.out)
 have hin := install_calls w w4 g s F m D oA fl oc _ fb HS4.out HO4.out HFU.out HFE.out
 unfold rsave1 at HPUT
 generalize rinstall D fb = r1 at hin HPUT
 obtain ⟨D1, e1⟩ := r1
 simp only at HPUT
 clear HST HCS HR HO2 HO3 HO4 HB2 HB3 hwl
 go_upto_region 9 with (first
  | (go_at_call 29; go_loud (refine (show Calls _ _ _ _ _ from hin).mono ?_; rintro e w5 ⟨rfl, hst, _⟩; have hnt := hst.note e1; clear hst hin))
  | (go_at_call 23; go_loud (refine (show Calls _ _ _ _ _ from hnt).mono ?_; rintro e w6 ⟨rfl, hst, _⟩; have HS6 := Aside0.mk hst; clear hst hnt)))
 by_cases h0 : e1 = 0
 ·subst h0
  rw [note_zero] at HS6
  simp only [if_pos trivial] at HPUT
  have d2 : w6.cell? ⟨g, 2, none⟩ = some (.int .i64 m.first) := (blk_cell HS6.out.blk 2).trans rfl
  unfold rsave2 at HPUT
  generalize hrd : rdrops D1 m.first.toNat (m.last + 1 - m.first).toNat = rd at HPUT
  obtain ⟨Df, ef⟩ := rd
  simp only at HPUT
  have hok := HOK.out
  have hfl := HFL.out
  obtain ⟨L, hL⟩ : ∃ L, (m.last + 1).toNat = L := ⟨_, rfl⟩
  obtain ⟨fn, hfn⟩ : ∃ fn : Nat, (fn : Int) = m.first := ⟨m.first.toNat, by have := hok.first; omega⟩
  have hD0 : DropsAt w g s F m (Df, ef) L fn w6 := ⟨D1, (m.last + 1 - m.first).toNat, HS6.out, by have := hok.first; omega, by rw [← hrd, ← hfn, Int.toNat_natCast]⟩
  have hfnl : fn ≤ L := by have := hok.first; omega
  have hlL : m.last + 1 = L := by have := hok.last; omega
  have HLL := Aside0.mk hlL
  have HL99 := Aside0.mk (show L ≤ 99 by have := hok.last; omega)
  clear hok hfl hL hrd HS6 hlL HOK HFL HIL HFB HFL2
  rw [← hfn] at d2
  clear hfn
  go_wp2_with fail
  go_loopw [9] (fun v9 wr => ∃ n : Nat, v9 = .int .i64 n ∧ n ≤ L ∧ DropsAt w g s F m (Df, ef) L n wr) (fun v9 _ => L - (intOf v9).toNat)
  case atStart => exact ⟨fn, rfl, hfnl, hD0⟩
  case round =>
   obtain ⟨n, rfl, hnL, hDA⟩ := hrel
   obtain ⟨Dn, k, hS, hk, hdr⟩ := hDA.ex
   have d3 : wr.cell? ⟨g, 3, none⟩ = some (.int .i64 m.last) := (blk_cell hS.blk 3).trans rfl
   by_cases hlt : n < L
   ·obtain ⟨k', rfl⟩ : ∃ k', k = k' + 1 := ⟨k - 1, by omega⟩
    have hle : decide ((n : Int) ≤ m.last) = true := decide_eq_true (by have := HLL.out; omega)
    have HN1 := Aside0.mk (show n < 100 by have := HL99.out; omega)
    have HN2 := Aside0.mk (show n + 1 ≤ L ∧ n + 1 + k' = L by omega)
    unfold rdrops at hdr
    have HS := Aside0.mk hS
    have hdp := (hS.below (below_drew1 (Below.refl _ wr))).disk (fun F' hd => Drop_disk wr.drew s F' Dn (segK n) hd)
    generalize Dn.drop (segK n) = r3 at hdp hdr
    obtain ⟨D3, e3⟩ := r3
    simp only at hdr
    have HDR := Aside0.mk hdr
    have HSD := Aside0.mk (hS.below (below_drew1 (Below.refl _ wr)))
    have hseg : ∀ W, Calls Tryz.prog 25 #[.int .i64 (n : Int)] W fun e w' => e = .returned (.string (segK n)) ∧ w' = W := fun W => segment_calls n HN1.out W
    clear hS hk hdr hDA hlt hnL
    go_upto_region 14 with fail
    refine wp_mono (Q := fun e a w => e = .normal ∧ _) ?_ (fun e a w h => h.2)
    refine start_ (n := 10) (S := fun w' => w'.cell? ⟨g, 0, none⟩ = some (.pointer (some ⟨s, 0, none⟩))) (ds := []) #[ff,ff,ff,ff,ff,ff,ff,ff,ff,ff] (by kernel_rfl) rfl rfl (((blk_cell HSD.out.blk 0).trans rfl)) (fun hHeld => ?_)
    refine with_tabW q10.tab14 q10.bits14 (fun HT_ HW_ => ?_)
    refine pure_ (i := 0) (N := some 51) (v := ?_) (a' := ?_) #[tt,ff,ff,ff,ff,ff,ff,ff,ff,ff] rfl rfl (any_of HT_.out (by kernel_rfl)) (fun _ _ _ h => nomatch h.1) (Or.inl ⟨by rfl, ?_⟩) ?_ ?_
    rotate_left
    ·intro w'
     go_simp
     with_reducible rfl
    rotate_left
    ·simp only [Act.put, sA, sB, sC, i64_w, i32_w]
     rfl
    refine pure_ (i := 1) (N := some 52) (v := ?_) (a' := ?_) #[tt,tt,ff,ff,ff,ff,ff,ff,ff,ff] rfl rfl (any_of HT_.out (by kernel_rfl)) (fun _ _ _ h => nomatch h.1) (Or.inl ⟨by rfl, ?_⟩) ?_ ?_
    rotate_left
    ·intro w'
     go_simp
     with_reducible rfl
    rotate_left
    ·simp only [Act.put, sA, sB, sC, i64_w, i32_w]
     rfl
    refine pure_ (i := 2) (N := some 53) (v := ?_) (a' := ?_) #[tt,tt,tt,ff,ff,ff,ff,ff,ff,ff] rfl rfl (any_of HT_.out (by kernel_rfl)) (fun _ _ _ h => nomatch h.1) (Or.inl ⟨by rfl, ?_⟩) ?_ ?_
    rotate_left
    ·intro w'
     go_simp
     with_reducible rfl
    rotate_left
    ·simp only [Act.put, sA, sB, sC, i64_w, i32_w]
     rfl
    refine pure_ (i := 3) (N := some 54) (v := ?_) (a' := ?_) #[tt,tt,tt,tt,ff,ff,ff,ff,ff,ff] rfl rfl (any_of HT_.out (by kernel_rfl)) (fun _ _ _ h => nomatch h.1) (Or.inl ⟨by rfl, ?_⟩) ?_ ?_
    rotate_left
    ·intro w'
     go_simp
     with_reducible rfl
    rotate_left
    ·simp only [Act.put, sA, sB, sC, i64_w, i32_w]
     rfl
    refine pure_ (i := 5) (N := some 56) (v := ?_) (a' := ?_) #[tt,tt,tt,tt,ff,tt,ff,ff,ff,ff] rfl rfl (any_of HT_.out (by kernel_rfl)) (fun _ _ _ h => nomatch h.1) (Or.inl ⟨by rfl, ?_⟩) ?_ ?_
    rotate_left
    ·intro w'
     go_simp
     with_reducible rfl
    rotate_left
    ·simp only [Act.put, sA, sB, sC, i64_w, i32_w]
     rfl
    refine take_ (i := 4) (N := some 55) (v := ?_) (a' := ?_) #[tt,tt,tt,tt,tt,tt,ff,ff,ff,ff] rfl rfl (take_ofW HT_.out HW_.out (by kernel_rfl)) (fun _ _ _ h => nomatch h.1) (Or.inl ⟨by rfl, ?_⟩) hHeld ?_ ?_
    rotate_left
    ·intro w' s0
     go_simp
     with_reducible rfl
    rotate_left
    ·simp only [Act.put, sA, sB, sC, i64_w, i32_w]
     rfl
    refine one_ (i := 6) (N := some 57) #[tt,tt,tt,tt,tt,tt,tt,ff,ff,ff] rfl rfl (one_of HT_.out (by kernel_rfl)) (by decide) (fun K hK => ?_)
    refine goes_ Tryz.func25 (by kernel_rfl) rfl #[.int .i64 (n : Int)] (by rfl) rfl rfl (by simp only [List.map_toArray, List.map_cons, List.map_nil]; rfl) ?_
    with_reducible refine (hseg _).mono ?_
    rintro e w3 ⟨rfl, rfl⟩
    refine ⟨_, rfl, ?_⟩
    refine hK.out _ _ (((blk_cell HSD.out.blk 0).trans rfl)) (fun hHeld => ?_)
    clear hK K
    refine norm_ (a' := ?_) ?_ ?_
    rotate_left
    ·show Act.put _ (some 57) _ = _
     simp only [Act.put, sA, sB, sC, i64_w, i32_w]
     rfl
    refine one_ (i := 7) (N := some 58) #[tt,tt,tt,tt,tt,tt,tt,tt,ff,ff] rfl rfl (one_of HT_.out (by kernel_rfl)) (by decide) (fun K hK => ?_)
    refine goes_ Tryz.func30 (by kernel_rfl) rfl #[.pointer (some ⟨s, 0, none⟩), .string (segK n)] (by rfl) rfl rfl (by simp only [List.map_toArray, List.map_cons, List.map_nil]; rfl) ?_
    with_reducible refine ((show Calls _ _ _ _ _ from hdp)).mono ?_
    rintro e w9x ⟨rfl, hst, hkp⟩
    refine ⟨_, rfl, ?_⟩
    have q_S := Aside0.mk hst
    have hnt := hst.note e3
    clear hst hkp hdp
    refine hK.out _ _ (((blk_cell q_S.out.blk 0).trans rfl)) (fun hHeld => ?_)
    clear hK K
    refine norm_ (a' := ?_) ?_ ?_
    rotate_left
    ·show Act.put _ (some 58) _ = _
     simp only [Act.put, sA, sB, sC, i64_w, i32_w]
     rfl
    refine one_ (i := 8) (N := some 59) #[tt,tt,tt,tt,tt,tt,tt,tt,tt,ff] rfl rfl (one_of HT_.out (by kernel_rfl)) (by decide) (fun K hK => ?_)
    refine goes_ Tryz.func23 (by kernel_rfl) rfl #[.pointer (some ⟨g, 0, none⟩), .int .i64 e3] (by rfl) rfl rfl (by simp only [List.map_toArray, List.map_cons, List.map_nil]; rfl) ?_
    with_reducible refine ((show Calls _ _ _ _ _ from hnt)).mono ?_
    rintro e w10x ⟨rfl, hst, hkp⟩
    refine ⟨_, rfl, ?_⟩
    have s_S := Aside0.mk hst
    clear hst hkp hnt q_S
    refine hK.out _ _ (((blk_cell s_S.out.blk 0).trans rfl)) (fun hHeld => ?_)
    clear hK K
    refine norm_ (a' := ?_) ?_ ?_
    rotate_left
    ·show Act.put _ (some 59) _ = _
     simp only [Act.put, sA, sB, sC, i64_w, i32_w]
     rfl
    refine pure_ (i := 9) (N := some 10) (v := ?_) (a' := ?_) #[tt,tt,tt,tt,tt,tt,tt,tt,tt,tt] rfl rfl (any_of HT_.out (by kernel_rfl)) (fun _ _ _ h => nomatch h.1) (Or.inl ⟨by rfl, ?_⟩) ?_ ?_
    rotate_left
    ·intro w'
     go_simp
     with_reducible rfl
    rotate_left
    ·simp only [Act.put, sA, sB, sC, i64_w, i32_w]
     rfl
    refine done_ (done_of HT_.out (by kernel_rfl)) ?_
    refine ⟨rfl, ?_⟩
    clear hHeld HT_ HW_
    clear HS HSD d3 hle
    generalize w10x = w11 at s_S ⊢
    by_cases h3 : e3 = 0
    ·subst h3
     rw [note_zero] at s_S
     have hdr2 : rdrops D3 (n + 1) k' = (Df, ef) := by have := HDR.out; simpa using this
     have HX := Aside0.mk (show DropsAt w g s F m (Df, ef) L (n + 1) w11 from ⟨D3, k', s_S.out, HN2.out.2, hdr2⟩)
     have q1 : -9223372036854775808 ≤ (n : Int) + 1 ∧ (n : Int) + 1 ≤ 9223372036854775807 := by have := HN1.out; omega
     have hwn : wrap64 ((n : Int) + 1) = (n : Int) + 1 := wrap_in q1.1 q1.2
     clear hdr2 q1
     go_wp2_with fail
     go_roundw
     case rel => exact ⟨n + 1, by rw [hwn]; rfl, HN2.out.1, HX.out⟩
     case measure =>
      have hw2 : wrap64 ((n : Int) + ((1 : Nat) : Int)) = ((n + 1 : Nat) : Int) := by rw [show ((1 : Nat) : Int) = 1 from rfl, hwn]; rfl
      exact ms_lt L n 1 (by have := HN2.out.1; clear hwn hw2; omega) hw2
    ·have hb3 : (e3 != 0) = true := by simpa using h3
     have hdr2 := HDR.out
     rw [if_neg h3] at hdr2
     simp only [Prod.mk.injEq] at hdr2
     obtain ⟨rfl, rfl⟩ := hdr2
     rw [if_neg h3] at HPUT
     go_wp2_with fail
     exact bodyPost_ret (v := .int .i64 e3) (by simp [results, Tryz.results10, go_sem]) rfl (by rw [← HPUT.out]; exact RSt.out (r := ((_, _), _)) s_S.out)
   ·obtain rfl : n = L := by omega
    obtain rfl : k = 0 := by omega
    have hle : decide ((n : Int) ≤ m.last) = false := decide_eq_false (by have := HLL.out; omega)
    unfold rdrops at hdr
    simp only [Prod.mk.injEq] at hdr
    obtain ⟨rfl, rfl⟩ := hdr
    simp only [if_pos trivial] at HPUT
    have qq : -9223372036854775808 ≤ m.last + 1 ∧ m.last + 1 ≤ 9223372036854775807 := by have := HLL.out; have := HL99.out; omega
    have h2 := (hS.set 2 (.int .i64 (m.last + 1)) (m' := { m with first := m.last + 1 }) rfl).1
    have h4 := (h2.set 4 (.int .i64 0) (m' := { m with first := m.last + 1, size := 0 }) rfl).1
    have h5 := (h4.set 5 (.int .i64 0) (m' := { m with first := m.last + 1, size := 0, tail := 0 }) rfl).1
    have FIN := Aside0.mk (RSt.out (r := ((_, _), 0)) h5)
    have f2 := blk_frozen hS.blk 2
    have f4 := blk_frozen hS.blk 4
    have f5 := blk_frozen hS.blk 5
    have d2 : wr.cell? ⟨g, 2, none⟩ = some (.int .i64 m.first) := (blk_cell hS.blk 2).trans rfl
    have d4 : wr.cell? ⟨g, 4, none⟩ = some (.int .i64 m.size) := (blk_cell hS.blk 4).trans rfl
    have d5 : wr.cell? ⟨g, 5, none⟩ = some (.int .i64 m.tail) := (blk_cell hS.blk 5).trans rfl
    clear hS h2 h4 h5 hDA hlt hnL hk
    have hwl : wrap64 (m.last + 1) = m.last + 1 := wrap_in qq.1 qq.2
    clear qq
    go_wp2_with fail
    (try simp only [hwl])
    exact bodyPost_ret (v := .int .i64 0) (by simp [results, Tryz.results10, go_sem]) rfl (by rw [← HPUT.out]; exact FIN.out)
 ·have hb1 : (e1 != 0) = true := by simpa using h0
  rw [if_neg h0] at HPUT
  go_wp2_with fail
  exact bodyPost_ret (v := .int .i64 e1) (by simp [results, Tryz.results10, go_sem]) rfl (by rw [← HPUT.out]; exact RSt.out (r := ((_, _), _)) HS6.out)
theorem save_stop (w : World) (g s : Nat) (F : Nat → Prop) (m : Rl) (D : Dk) (A : Option Addr) (c : Nat) (b : List Int) (h : RlAt w g s F m D) (hd : m.down = true) (hl : b.length ≤ 199000) :
  Calls Tryz.prog 10 #[.pointer (some ⟨g, 0, none⟩), .slice A b.length c] w (RlOut g s F ((m, D), 23) w) := by
 have HST := Aside0.mk (RSt.start h)
 have d6 : w.cell? ⟨g, 6, none⟩ = some (.bool true) := (blk_cell h.blk 6).trans (by rw [← hd]; rfl)
 have hb0 : decide ((b.length : Int) > 199000) = false := decide_eq_false (by omega)
 generalize b.length = bl at hb0
 clear h hd hl
 go_enter Tryz.func10, Tryz.ntmps10
 go_wp2_with fail
 exact bodyPost_ret (v := .int .i64 23) (by simp [results, Tryz.results10, go_sem]) rfl (RSt.out (r := ((_, _), 23)) HST.out)
theorem Save_reel (w : World) (g s : Nat) (F : Nat → Prop) (m : Rl) (D : Dk) (A : Option Addr) (c : Nat) (b : List Int) (h : RlAt w g s F m D) (ok : RlOk m) (hfl : m.first ≤ m.last + 1) (hC : Kd.C (Kd.int .u8) w A b.length b) (hu : ∀ x ∈ b, 0 ≤ x ∧ x ≤ 255) (hl : b.length ≤ 199000) (hN : Nib w) (hgn : 1 < w.heap.size) :
  Calls Tryz.prog 10 #[.pointer (some ⟨g, 0, none⟩), .slice A b.length c] w (RlOut g s F (rsave m D b) w) := by
 unfold rsave
 by_cases hd : m.down = true
 ·rw [if_pos hd]
  exact save_stop w g s F m D A c b h hd hl
 ·rw [if_neg hd]
  exact save_go w g s F m D A c b h ok hfl (by simpa using hd) hC hu hl hN hgn
end Go.Proofs.YtdooajmgfoobfaaGreatDoor.H

