/- What the row of ReelGoes hands to its walk. -/
import Derived.Test.YtdooajmgfoobfaaGreatDoorRqA
import Derived.Test.YtdooajmgfoobfaaGreatDoorRows
import Derived.Lib.LaidTab
import Derived.LaidMore
import Derived.MakeChecks
import Derived.Stop.LaidErr
import Derived.OpenShut
import Derived.ChangeSame
import Derived.ChangeAt
import Derived.ChangeAt2
import Derived.ShutString
import Derived.ChangeOld
import Derived.ChangeSlices
namespace Go.Proofs.YtdooajmgfoobfaaGreatDoor.H
attribute [local go_sem] Oper.semAt_some
open Go.RowKit Go.Shelf Go.Proofs.YtdooajmgfoobfaaGreatDoor.PA Go.Proofs.YtdooajmgfoobfaaGreatDoorW.PrintWords Go.Proofs.YtdooajmgfoobfaaGreatDoorW.PrintLast Go.Proofs.YtdooajmgfoobfaaGreatDoorW.PrintMore
set_option linter.unusedVariables false
set_option linter.unusedSimpArgs false
/-- A row of strings grows: reels and disks stay. -/
theorem Rn.grownS {lo g s base : Nat} {W W' : World} {m : Rl} {D : Dk} {v : Value} {xs : List ByteArray} {ok : Nat → Prop} (h : Rn W lo g s m D) (hr : Kd.R Kd.string 9 W base ok v xs) (hg : W.grownBy W' v.ownBlock) : Rn W' lo g s m D := by
  obtain ⟨F, h1, h2, h3⟩ := h
  have key : ∀ (i : Nat) (cs : Array Value) (t : TypeId), W.heap[i]? = some (.cells cs t (0, 0)) → 9 ≠ t → W'.heap[i]? = W.heap[i]? := fun i cs t hc ht => by
    rw [hc]
    exact blk_grown hc hg (Kd.R_ne hr hc ht)
  refine ⟨F, ⟨?_, h1.disk.keep (fun i hi => ?_) (fun i cs hc => key i cs _ hc (by decide))⟩, h2, h3⟩
  · rw [key _ _ _ h1.blk (by decide)]
    exact h1.blk
  · obtain ⟨cs, t, hc, ht⟩ := h1.disk.typed i hi
    exact key i cs t hc (by rcases ht with rfl | rfl | rfl <;> decide)
theorem KeepT.rdK {A B : World} (h : KeepT A B) {v : Value} {base : Nat} {xs : List Int} {ok : Nat → Prop} (hr : Kd.R (Kd.int .u8) 5 A base ok v xs) : Kd.R (Kd.int .u8) 5 B base (fun _ => True) v xs := h.rd (Kd.R_mono hr (fun _ _ => trivial))
/-- How many records came since the last image. -/
def cntG (i k : Nat) : Nat := if i = 0 then 0 else (i - 1) % k
theorem cntG_le {i k : Nat} (h : 1 ≤ k) (h6 : k ≤ 6) : cntG i k ≤ 5 := by
  unfold cntG
  split
  · omega
  · have := Nat.mod_lt (i - 1) (show 0 < k by omega)
    omega
theorem cntG_save {i k : Nat} (h : i % k = 0) : cntG (i + 1) k = 0 := by unfold cntG; simpa using h
theorem cntG_go {i k : Nat} (h1 : 1 ≤ k) (h : i % k ≠ 0) : cntG (i + 1) k = cntG i k + 1 := by
  unfold cntG
  rw [if_neg (by omega), Nat.add_sub_cancel]
  have hi : i ≠ 0 := by rintro rfl; simp at h
  rw [if_neg hi]
  obtain ⟨j, rfl⟩ : ∃ j, i = j + 1 := ⟨i - 1, by omega⟩
  rw [Nat.add_sub_cancel]
  have h2 := Nat.mod_lt j (show 0 < k by omega)
  have h3 := Nat.add_mod j 1 k
  by_cases hk : k = 1
  · subst hk
    simp [Nat.mod_one] at h
  · rw [Nat.mod_eq_of_lt (show 1 < k by omega)] at h3
    rcases Nat.lt_or_ge (j % k + 1) k with h4 | h4
    · rw [h3, Nat.mod_eq_of_lt h4]
    · have : j % k + 1 = k := by omega
      rw [h3, this, Nat.mod_self] at h
      exact absurd rfl h
theorem lit_str0 (W : World) (base : Nat) (hb : base ≤ W.heap.size) : Kd.R Kd.string 9 (W.alloc (.cells #[] 9)) base (fun _ => True) (.slice (some ⟨W.heap.size, 0, none⟩) 0 0) [] :=
  Kd.R_of_own (by simpa [encs] using own_lit_of (enc := Value.string) W base 9 [] hb (by simp)) (fun _ _ => trivial)
/-- A row of strings grows: a row of bytes stays. -/
theorem rd_grownS {base base' : Nat} {W W' : World} {v u : Value} {xs : List ByteArray} {b : List Int} {ok ok' : Nat → Prop} (hb : Kd.R (Kd.int .u8) 5 W base' ok' u b) (hr : Kd.R Kd.string 9 W base ok v xs) (hg : W.grownBy W' v.ownBlock) : Kd.R (Kd.int .u8) 5 W' base' (fun _ => True) u b :=
  Kd.R_mono (Kd.R_step (Kd.R_bound hb) (fun k hk hlt => by
    obtain ⟨_, _, _, q, hq, cells, hc⟩ := hk
    have e : q = 5 := by simpa [Kd.int, Kd.scalar] using hq
    subst e
    rw [hc]
    exact blk_grown hc hg (Kd.R_ne hr hc (by decide)))) (fun _ _ => trivial)
theorem recL_small {D : Dk} {first : Nat} {img : List Int} {pss : List Sg} {B : Nat} (h : Neat D first img pss B) (_ : Nat) : (recL pss).length ≤ 100000 * 99 := by
  have hs := h.r.sok
  have hf := hs.few
  have : ∀ l : List Sg, (∀ x ∈ l, x.bytes.length ≤ 100000) → (recL l).length ≤ 100000 * l.length := by
    intro l
    induction l with
    | nil => intro _; simp [recL]
    | cons x l ih =>
      intro hx
      have h1 := ih (fun y hy => hx y (List.mem_cons_of_mem _ hy))
      have h2 := rec_len (hx x (by simp))
      have h3 := framesB_len x.1
      have e : recL (x :: l) = x.1 ++ recL l := rfl
      rw [e, List.length_append, List.length_cons]
      omega
  have h1 := this pss hs.len
  omega
/-- Where ReelGoes stands. -/
structure GoSt (w : World) (s g : Nat) (k i : Nat) (im : ByteArray) (v : Value) (W : World) : Prop where
  hb : Below w.heap.size w W
  ex : ∃ first img pss D, Rn W w.heap.size g s (openM 300 first pss) D ∧ Neat D first img pss i ∧ D.fused = false ∧ D.lim = 4000 ∧ img.length ≤ 255 ∧ im = strOfNums img ∧ (openM 300 first pss).size ≤ 270 * (cntG i k : Int) ∧ pss.length ≤ cntG i k ∧
    Kd.R Kd.string 9 W w.heap.size (fun _ => True) v ((recL pss).map strOfNums)
theorem GoSt.below {w W W' : World} {s g k i : Nat} {im : ByteArray} {v : Value} (h : GoSt w s g k i im v W) (hb : Below W.heap.size W W') : GoSt w s g k i im v W' := by
  obtain ⟨h0, first, img, pss, D, h1, h2, h3, h4, h5, h6, h7, h8, h9⟩ := h
  exact ⟨h0.trans (hb.mono h0.size), first, img, pss, D, h1.below hb, h2, h3, h4, h5, h6, h7, h8, Kd.R_below h9 hb⟩
set_option maxRecDepth 100000 in
set_option maxHeartbeats 1600000 in
theorem goes_few (w : World) (A : Option Addr) (c : Nat) (l : List Int) (every : Int) (hC : Kd.C (Kd.int .u8) w A l.length l) (hu : ∀ x ∈ l, 0 ≤ x ∧ x ≤ 255) (he : 0 ≤ every ∧ every ≤ 255) (hE : Ev w.heap.size w) (hl : l.length ≤ 80) :
    Calls Tryz.prog 3 #[.slice A l.length c, .int .u8 every] w fun e w' => e = .returned (.bool true) ∧ Below w.heap.size w w' := by
  have HE := Aside0.mk hE
  have HC := Aside0.mk hC
  have HU := Aside0.mk hu
  obtain ⟨n, hn⟩ : ∃ n, l.length = n := ⟨_, rfl⟩
  have HN := Aside0.mk hn
  have HL := Aside0.mk (show n ≤ 80 by rw [← hn]; exact hl)
  have hgt : decide ((n : Int) > 80) = false := decide_eq_false (by have := HL.out; omega)
  obtain ⟨k, hk⟩ : ∃ k : Nat, (k : Int) = 1 + every % 6 := ⟨(1 + every % 6).toNat, by omega⟩
  have HK := Aside0.mk (And.intro hk (show 1 ≤ k ∧ k ≤ 6 by omega))
  have HEV := Aside0.mk he
  rw [hn]
  have hnew := new_dn (W := w) 4000 (by decide) (by decide)
  clear hE hC hu he hl hn hk
  go_enter Tryz.func3, Tryz.ntmps3
  go_upto_region 2 with (go_at_call 6; go_loud (refine (show Calls _ _ _ _ _ from hnew).mono ?_; rintro e w1 ⟨s, rfl, hb, hd⟩; have HB1 := Aside0.mk hb; have HD1 := Aside0.mk hd; clear hb hd hnew))
  have hE1 := HE.out.step HB1.out
  have haw := awake_calls w1 (hE1.up HB1.out.size (Nat.le_refl _))
  go_upto_region 4 with (go_at_call 7; go_loud (refine (show Calls _ _ _ _ _ from haw).mono ?_; rintro e w2 ⟨rfl, hb⟩; have HB2 := Aside0.mk (HB1.out.trans (hb.mono HB1.out.size)); have HD2 := Aside0.mk (HD1.out.below hb); clear hb haw hE1 HD1))
  have hop := open_rn HD2.out (HE.out.step HB2.out) 300 (by decide) (rec_new 4000 false 0)
  rw [clean_new] at hop
  go_upto_region 5 with (go_at_call 8; go_loud (refine (show Calls _ _ _ _ _ from hop).mono ?_; rintro e w3 ho; obtain ⟨g, B, d, B2, d2, rfl, hrn, hx1, hx2⟩ := ho.ok rfl; have HR3 := Aside0.mk hrn; have HB3 := Aside0.mk (HB2.out.trans ho.st.hb); clear ho hrn hop hx1 hx2 HD2))
  go_upto_region 8 with fail
  have hb4 : Below w3.heap.size w3 (w3.alloc (.cells #[] 9)) := (Below.refl _ w3).alloc (Nat.le_refl _) _
  have HST := Aside0.mk (show GoSt w s g k 0 ⟨#[]⟩ (.slice (some ⟨w3.heap.size, 0, none⟩) 0 0) (w3.alloc (.cells #[] 9)) from
    ⟨HB3.out.trans (hb4.mono HB3.out.size), 1, [], [], ⟨4000, false, 0, []⟩, HR3.out.below hb4, neat_new 4000 0 false, rfl, rfl, by simp, rfl, by simp [openM_nil, cntG], by simp, by simpa [recL] using lit_str0 w3 w.heap.size HB3.out.size⟩)
  have hb9 : Below w.heap.size w (w3.alloc (.cells #[] 9)) := HST.out.hb
  generalize w3.alloc (.cells #[] 9) = w4 at HST hb9 ⊢
  clear hb4 HB1 HB2 HB3 HR3 hb9 hgt
  go_upto_region 9 with fail
  go_loopw [11, 12, 57] (fun v11 v12 v57 wr => ∃ (i : Nat) (im : ByteArray), v11 = .string im ∧ v57 = .int .i64 i ∧ i ≤ n ∧ GoSt w s g k i im v12 wr) (fun _ _ v57 _ => n - (intOf v57).toNat)
  case atStart => exact ⟨0, ⟨#[]⟩, rfl, rfl, Nat.zero_le _, HST.out⟩
  case round =>
    obtain ⟨i, im, rfl, rfl, hi, hst⟩ := hrel
    obtain ⟨W0, rfl⟩ : ∃ W0, W0 = wr := ⟨wr, rfl⟩
    have HS := Aside0.mk hst
    by_cases hlt : i < n
    · have hli : i < l.length := by have := HN.out; omega
      have hC1 := Kd.C_below HC.out hst.hb
      obtain ⟨ad, cs, rfl, hcl, hK1, hcell⟩ := Kd.C_get hC1 0 (i : Int) (by have := HN.out; omega) (by have := HN.out; omega)
      rw [Int.toNat_natCast, show l.getD i 0 = l[i] by rw [List.getD_eq_getElem?_getD, List.getElem?_eq_getElem hli]; rfl] at hK1
      have hx := HU.out l[i] (List.getElem_mem hli)
      generalize l[i] = x at hK1 hx
      have hcs : cs = [.int .u8 x] := hK1
      subst hcs
      have dx : W0.cell? (ad.add i) = some (.int .u8 x) := by have := hcell 0 _ rfl; simpa [Kd.int, Kd.scalar] using this
      obtain ⟨q, hq⟩ : ∃ q : Nat, (q : Int) = x := ⟨x.toNat, by omega⟩
      have HQ := Aside0.mk (show q ≤ 255 by omega)
      have HI := Aside0.mk (And.intro hlt (show i ≤ 79 by have := HL.out; omega))
      subst hq
      have hwq : wrap64 (q : Int) = q := wrap_in (by omega) (by omega)
      have HWQ := Aside0.mk hwq
      clear hcl hK1 hcell hli hC1 hst hi hx
      go_upto_region 12 with (at_make; go_loud (refine Kd.R_make (Kd.int .u8) (w0 := W0) W0.heap.size 5 rfl rfl 22 (.tmp 63) (.tmp 63) rfl (wrap64 (q : Int)) rfl rfl Tryz.underlying22 (.int .u8 0) 1 info5 rfl (by decide) (by omega) 0 (ok := fun _ => True) (okp := fun _ => False) rfl (fun _ _ => trivial) trivial (by rw [HWQ.out]; exact Int.natCast_nonneg _) (by have := HQ.out; rw [HWQ.out, Int.toNat_natCast]; omega) (Below.refl _ W0) (Nat.le_refl _) ?_; intro v1 w5 hr hb hg hat; obtain ⟨bk, hg0, hg1⟩ := hat; rw [HWQ.out, Int.toNat_natCast] at hr; obtain ⟨cap, hv1, hcap, hbg⟩ := R_shape hr hg0; rw [List.length_replicate] at hv1 hcap; subst hv1; have HR5 := Aside0.mk hr; have HB5 := Aside0.mk hb; have HCAP := Aside0.mk (And.intro hcap hbg); clear hr hb hg hg0 hg1 hcap hbg))
      clear dx hwq
      obtain ⟨first, img, pss, D, hrn, hnt, hfu, hlim, him, himS, hsz, hpl, hR⟩ := HS.out.ex
      obtain ⟨rA, rc, hv⟩ := Kd.R_slice hR
      obtain ⟨rn, hrl⟩ : ∃ rn, ((recL pss).map strOfNums).length = rn := ⟨_, rfl⟩
      rw [hrl] at hv
      subst hv
      have HRN := Aside0.mk hrn
      have HNT := Aside0.mk hnt
      have HFU := Aside0.mk (And.intro hfu hlim)
      have HIM := Aside0.mk (And.intro him (And.intro hsz hpl))
      have HRC := Aside0.mk hR
      have HRL := Aside0.mk hrl
      have HHB := Aside0.mk HS.out.hb
      subst himS
      clear hrn hnt hfu hlim him hsz hpl hR hrl HS
      go_upto_region 13 with fail
      go_loopw [67] (fun v67 wj => ∃ j : Nat, v67 = .int .i64 j ∧ j ≤ q ∧ Below W0.heap.size W0 wj ∧ Kd.R (Kd.int .u8) 5 wj W0.heap.size (fun _ => True) (.slice (some ⟨bk, 0, none⟩) q cap) (List.replicate j (i : Int) ++ List.replicate (q - j) 0)) (fun v67 _ => q - (intOf v67).toNat)
      case atStart => exact ⟨0, rfl, Nat.zero_le _, HB5.out, by simpa using HR5.out⟩
      case round =>
        obtain ⟨j, rfl, hj, hbj, hRj⟩ := hrel
        have HBJ := Aside0.mk hbj
        by_cases hjq : j < q
        · have hpt := Kd.R_putn (enc := Value.int .u8) (h1 := int1) hRj (j : Int) (i : Int)
          obtain ⟨dj, fj⟩ := Kd.R_celln (enc := Value.int .u8) (h1 := int1) 0 hRj (j : Int) (by omega) (by omega)
          rw [Int.toNat_natCast] at dj fj hpt
          have HPT := Aside0.mk hpt
          have HJ := Aside0.mk (show -9223372036854775808 ≤ (j : Int) + 1 ∧ (j : Int) + 1 ≤ 9223372036854775807 by have := HQ.out; omega)
          have hwn : wrap64 ((j : Int) + 1) = (j : Int) + 1 := wrap_in HJ.out.1 HJ.out.2
          clear hbj hRj hpt hj
          go_wp2_with fail
          go_roundw
          case rel =>
            have hset : (List.replicate j (i : Int) ++ List.replicate (q - j) 0).set j (i : Int) = List.replicate (j + 1) (i : Int) ++ List.replicate (q - (j + 1)) 0 := by
              obtain ⟨r, hr⟩ : ∃ r, q - j = r + 1 := ⟨q - j - 1, by omega⟩
              rw [hr, show q - (j + 1) = r by omega, List.replicate_succ, List.set_append_right _ _ (by simp), List.length_replicate, Nat.sub_self, List.set_cons_zero, List.replicate_succ' (n := j), List.append_assoc]
              rfl
            have hm : (i : Int) % 256 = i := by have := HI.out; omega
            rw [hm]
            refine ⟨j + 1, by rw [hwn]; rfl, by omega, HBJ.out.setCell (p := ⟨bk, j, none⟩) HCAP.out.2 _, ?_⟩
            rw [← hset]
            exact HPT.out
          case measure =>
            have hw2 : wrap64 ((j : Int) + ((1 : Nat) : Int)) = ((j + 1 : Nat) : Int) := by rw [show ((1 : Nat) : Int) = 1 from rfl, hwn]; rfl
            exact ms_lt q j 1 (by clear hwn hw2; omega) hw2
        · obtain rfl : j = q := by omega
          rw [Nat.sub_self, List.replicate_zero, List.append_nil] at hRj
          have HRB := Aside0.mk hRj
          obtain ⟨W1, rfl⟩ : ∃ W1, W1 = wr := ⟨wr, rfl⟩
          have hsz := Nat.le_trans HHB.out.size hbj.size
          have hE1 := (HE.out.step HHB.out).step (hbj.mono HHB.out.size)
          have hbb : (List.replicate j (i : Int)).length = j := List.length_replicate
          have hbu : ∀ x ∈ List.replicate j (i : Int), 0 ≤ x ∧ x ≤ 255 := fun x hx => by
            have := List.eq_of_mem_replicate hx
            have := HI.out
            omega
          generalize List.replicate j (i : Int) = b at hRj HRB hbb hbu
          have hrn1 := HRN.out.below HBJ.out
          have hck := cntG_le HK.out.2.1 HK.out.2.2 (i := i)
          have hq := HQ.out
          have him := HIM.out
          obtain ⟨pss', a0, a1, a2, a3, a4, a5, a6, a7⟩ := append_fine (roll := 300) HNT.out hrn1.ok (by have := HI.out; omega) HFU.out.1 (by rw [HFU.out.2]; decide) b hbu (by omega) (by rw [HFU.out.2]; omega) (by omega)
          obtain ⟨hjb, hcp, hCb⟩ := Kd.R_reads' HRB.out
          have hap := app_rn hrn1 (rl_ok HNT.out (by decide) (by have := HI.out; omega)) hE1 (some ⟨bk, 0, none⟩) cap b hCb hbu (by omega)
          rw [hbb] at hap
          generalize rappend (openM 300 first pss) D b = r1 at a0 a1 a2 a6 a7 hap
          obtain ⟨⟨m1, D1⟩, e1⟩ := r1
          simp only at a0 a1 a2 a6 a7 hap
          subst a0 a1
          have HN1 := Aside0.mk (And.intro a2 (And.intro a3 (And.intro a6 (a7.trans HFU.out.2))))
          have HS1 := Aside0.mk (show (openM 300 first pss').size ≤ 270 * ((cntG i k : Int) + 1) ∧ pss'.length ≤ cntG i k + 1 by omega)
          have HBU := Aside0.mk (And.intro hbb hbu)
          have HCK := Aside0.mk hck
          have HHB1 := Aside0.mk (HHB.out.trans (HBJ.out.mono HHB.out.size))
          have HRC1 := Aside0.mk ((KeepT.below HBJ.out).rdS HRC.out)
          clear hj hbj hRj a2 a3 a4 a5 a6 a7 hck hq him hjb hcp hCb hbb hbu hrn1 hsz HRN HNT HFU HRC HHB HBJ HR5 HB5 HWQ
          go_upto_region 19 with (go_at_call 9; go_loud (refine (show Calls _ _ _ _ _ from hap).mono ?_; rintro e W2 ho; obtain rfl := ho.ret; have HRN2 := Aside0.mk ho.rn; have HRB2 := Aside0.mk (ho.st.kp.rdK HRB.out); have HRC2 := Aside0.mk (ho.st.kp.rdS HRC1.out); have HHB2 := Aside0.mk (HHB1.out.trans ho.st.hb); clear ho hap HRB HRC1 HHB1))
          have hcv := Kd.C_string (P := Tryz.prog) (A := some ⟨bk, 0, none⟩) (c := cap) Tryz.underlying22 Tryz.underlying5 Tryz.underlying9 (Kd.R_reads' HRB2.out).2.2
          rw [HBU.out.1] at hcv
          have HLR := Aside0.mk (show (((recL pss).map strOfNums).length + 1) * 16 ≤ 140737488355328 by
            have h1 := recL_small HN1.out.1 (i + 1)
            rw [HN1.out.2.1] at h1
            rw [List.length_map]
            rw [List.length_append] at h1
            omega)
          go_upto_region 20 with (at_builtin; go_loud (refine Kd.R_append Kd.string (w0 := w) w.heap.size rfl (.tmp 80) (.tmp 83) 32 9 (.string ⟨#[]⟩) 16 rfl Tryz.underlying32 infoStrT rfl (by decide) (by decide) (.slice rA rn rc) ((recL pss).map strOfNums) (strOfNums b) [.string (strOfNums b)] (fun _ => True) (fun _ => False) rfl rfl rfl (fun _ hk => hk.elim) (fun _ _ => trivial) HRC2.out HHB2.out HHB2.out.size HLR.out ?_; intro v1 W3 hr hb hg hat; obtain ⟨rA3, rc3, hv3⟩ := Kd.R_slice hr; obtain ⟨rn3, hrn3⟩ : ∃ rn3, ((recL pss).map strOfNums ++ [strOfNums b]).length = rn3 := ⟨_, rfl⟩; rw [hrn3] at hv3; subst hv3; have HRL3 := Aside0.mk hrn3; clear hrn3; have HRC3 := Aside0.mk hr; have HHB3 := Aside0.mk hb; have HRN3 := Aside0.mk (HRN2.out.grownS HRC2.out hg); have HRB3 := Aside0.mk (rd_grownS HRB2.out HRC2.out hg); clear hr hb hg hat hcv HRN2 HRB2 HRC2 HHB2))
          obtain ⟨z1, hz1⟩ : ∃ z1, wrap64 (every.tmod 6) = z1 := ⟨_, rfl⟩
          obtain ⟨z, hz⟩ : ∃ z, wrap64 (1 + z1) = z := ⟨_, rfl⟩
          have hzk : z = k := by
            have h6 : every.tmod 6 = every % 6 := Int.tmod_eq_emod_of_nonneg HEV.out.1
            have h7 := HK.out.1
            have h8 : z1 = every % 6 := by rw [← hz1, h6]; exact wrap_in (by omega) (by omega)
            rw [← hz, h8, ← h7]
            exact wrap_in (by omega) (by omega)
          have HZ := Aside0.mk hzk
          have hz0 : ¬ z = 0 := by have := HK.out; omega
          obtain ⟨bz, hbz⟩ : ∃ bz, ((i : Int) % z == 0) = bz := ⟨_, rfl⟩
          have HBZ := Aside0.mk (show (i % k = 0) ↔ bz = true by
            rw [← hbz, hzk, beq_iff_eq]
            omega)
          have hrm := HRN3.out
          have hlr : ((recL pss).map strOfNums ++ [strOfNums b]) = (recL pss').map strOfNums := by rw [HN1.out.2.1, List.map_append]; rfl
          rw [hlr] at HRC3 HRL3
          clear hzk hrm hlr
          cases bz with
          | true =>
            have HBZ2 := Aside0.mk (HBZ.out.2 rfl)
            have hsv := save_fine (roll := 300) HN1.out.1 HRN3.out.ok HN1.out.2.2.1 b HBU.out.2 (by have h1 := HBU.out.1; have h2 := HQ.out; omega) (by rw [HN1.out.2.2.2]; have h1 := HBU.out.1; have h2 := HQ.out; have h3 := HS1.out; have h4 := HCK.out; have h5 := HIM.out; omega) (by have h3 := HS1.out; have h4 := HCK.out; omega)
            have hE3 := HE.out.step HHB3.out
            obtain ⟨hjb, hcp, hCb⟩ := Kd.R_reads' HRB3.out
            have hsr := sav_rn HRN3.out (rl_ok HN1.out.1 (by decide) (by have := HI.out; omega)) (by obtain ⟨o1, _, o3, _⟩ := openM_last 300 first pss'; rw [o1, o3]; omega) hE3 (some ⟨bk, 0, none⟩) cap b hCb HBU.out.2 (by have h1 := HBU.out.1; have h2 := HQ.out; omega)
            rw [HBU.out.1] at hsr
            generalize rsave (openM 300 first pss') D1 b = r2 at hsv hsr
            obtain ⟨⟨m2, D2⟩, e2⟩ := r2
            simp only at hsv hsr
            obtain ⟨b0, b1, b2, b3, b4⟩ := hsv
            subst b0 b1
            have HN2 := Aside0.mk (And.intro b2 (And.intro b3 (b4.trans HN1.out.2.2.2)))
            have hsz := fun (W : World) (h : Rn W w.heap.size g s (openM 300 (first + pss'.length) []) D2) => siz_rn h
            simp only [openM_nil] at hsz
            clear hjb hcp hCb b2 b3 b4
            go_upto_region 23 with (first
              | (go_at_call 10; refine (show Calls _ _ _ _ _ from hsr).mono ?_; rintro e W5 ho; obtain rfl := ho.ret; have HRN5 := Aside0.mk ho.rn; have HRB5 := Aside0.mk (ho.st.kp.rdK HRB3.out); have HHB5 := Aside0.mk (HHB3.out.trans ho.st.hb); clear ho hsr)
              | (go_at_call 11; refine (show Calls _ _ _ _ _ from hsz _ HRN5.out).mono ?_; rintro e W5 ⟨rfl, rfl⟩; clear hsz))
            have hcv5 := Kd.C_string (P := Tryz.prog) (A := some ⟨bk, 0, none⟩) (c := cap) Tryz.underlying22 Tryz.underlying5 Tryz.underlying9 (Kd.R_reads' HRB5.out).2.2
            rw [HBU.out.1] at hcv5
            go_upto_region 24 with fail
            have hal : Below W5.heap.size W5 (W5.alloc (.cells #[] 9)) := (Below.refl _ W5).alloc (Nat.le_refl _) _
            have HGS := Aside0.mk (show GoSt w s g k (i + 1) (strOfNums b) (.slice (some ⟨W5.heap.size, 0, none⟩) 0 0) (W5.alloc (.cells #[] 9)) from
              ⟨HHB5.out.trans (hal.mono HHB5.out.size), _, b, [], D2, HRN5.out.below hal, HN2.out.1, HN2.out.2.1, HN2.out.2.2, by have h1 := HBU.out.1; have h2 := HQ.out; omega, rfl, by rw [cntG_save HBZ2.out, openM_nil]; simp, by rw [cntG_save HBZ2.out]; simp, by simpa [recL] using lit_str0 W5 w.heap.size HHB5.out.size⟩)
            generalize W5.alloc (.cells #[] 9) = W6 at HGS hal ⊢
            obtain ⟨bA, hbA⟩ : ∃ bA, W5.heap.size = bA := ⟨_, rfl⟩
            rw [hbA] at HGS ⊢
            clear hcv5 hE3 HRN5 HHB5 HRB5 hal hbA
            clear HRC3 HHB3 HRN3 HRB3 HN1 HS1 HIM hz1 hz hz0 hbz HBZ HBZ2 HZ
            obtain ⟨first7, img7, pss7, D7, hrn7, hnt7, hfu7, hlim7, him7, himS7, hsz7, hpl7, hR7⟩ := HGS.out.ex
            have HRN7 := Aside0.mk hrn7
            have HRC7 := Aside0.mk hR7
            have hstp := stop_dn hrn7.dn none 0 [] (Kd.C_nil _ _) (by simp)
            obtain ⟨il, hil⟩ : ∃ il, img7.length = il := ⟨_, rfl⟩
            obtain ⟨ql, hql⟩ : ∃ ql, (recL pss7).length = ql := ⟨_, rfl⟩
            have HLN := Aside0.mk (And.intro hil hql)
            have HNT7 := Aside0.mk hnt7
            have HIS := Aside0.mk himS7
            have HSZ6 := Aside0.mk HGS.out.hb.size
            clear hrn7 hnt7 hfu7 hlim7 him7 himS7 hsz7 hpl7 hR7 hil hql
            go_upto_region 25 with (first
              | (go_at_call 12; refine (show Calls _ _ _ _ _ from hstp).mono ?_; rintro e W7 ⟨s2, E, rfl, hb, hd, hst, hsf⟩; have HB7 := Aside0.mk hb
                 have hrE := HNT7.out.r.same (stopped_eq hst HNT7.out.safe)
                 have hop2 := open_rn hd (((HE.out.step HGS.out.hb).up HSZ6.out (Nat.le_refl _)).step hb) 300 (by decide) hrE
                 have hcl := clean_plain (roll := 300) hrE hsf hd.ok
                 have h0 := hcl.fz (fun h => by rw [hst.2.1] at h; cases h)
                 generalize rclean (openM 300 first7 pss7) E = rc7 at hop2 h0
                 obtain ⟨Dc, ec⟩ := rc7
                 simp only at h0
                 subst h0
                 clear hb hd hst hsf hstp hrE hcl)
              | (go_at_call 8; refine (show Calls _ _ _ _ _ from hop2).mono ?_; rintro e W8 ho; obtain ⟨g2, B3, d3, B4, d4, rfl, hx0, hx1, hx2⟩ := ho.ok rfl; rw [HLN.out.1] at hx1 ⊢; rw [HLN.out.2] at hx2 ⊢; have HB8 := Aside0.mk (HB7.out.trans ho.st.hb); have HI8 := Aside0.mk hx1; have HL8 := Aside0.mk hx2; clear ho hop2 hx0 hx1 hx2))
            have hcv8 := Kd.C_string (P := Tryz.prog) (A := B3) (c := d3) Tryz.underlying22 Tryz.underlying5 Tryz.underlying9 (Kd.R_reads' HI8.out).2.2
            rw [HLN.out.1, ← HIS.out] at hcv8
            have hsm := same_calls W8 B4 d4 (recL pss7) (some ⟨bA, 0, none⟩) 0 ((recL pss7).map strOfNums) (Kd.R_reads' HL8.out).2.2 (Kd.R_reads' (Kd.R_below HRC7.out HB8.out)).2.2
            rw [HLN.out.2, decide_eq_true rfl, ← (Kd.R_reads' HRC7.out).1] at hsm
            go_upto_region 27 with (go_at_call 13; refine (show Calls _ _ _ _ _ from hsm).mono ?_; rintro e W9 ⟨rfl, hb⟩; have HB9 := Aside0.mk (HB8.out.trans (hb.mono HB8.out.size)); clear hb hsm)
            have HJ9 := Aside0.mk (show -9223372036854775808 ≤ (i : Int) + 1 ∧ (i : Int) + 1 ≤ 9223372036854775807 by have := HI.out; omega)
            have HG9 := Aside0.mk (HGS.out.below HB9.out)
            have hwi : wrap64 ((i : Int) + 1) = (i : Int) + 1 := wrap_in HJ9.out.1 HJ9.out.2
            clear hlt hcv8
            go_wp2_with fail
            go_roundw
            case rel => exact ⟨i + 1, _, rfl, by rw [hwi]; rfl, by have := HI.out; omega, HG9.out⟩
            case measure =>
              have hw2 : wrap64 ((i : Int) + ((1 : Nat) : Int)) = ((i + 1 : Nat) : Int) := by rw [show ((1 : Nat) : Int) = 1 from rfl, hwi]; rfl
              exact ms_lt n i 1 (by have := HI.out; clear hwi hw2; omega) hw2
          | false =>
            have HBZ2 := Aside0.mk (show i % k ≠ 0 from fun h => by have := HBZ.out.1 h; cases this)
            go_upto_region 24 with fail
            have HGS := Aside0.mk (show GoSt w s g k (i + 1) (strOfNums img) (.slice rA3 rn3 rc3) W3 from
              ⟨HHB3.out, _, img, pss', D1, HRN3.out, HN1.out.1, HN1.out.2.2.1, HN1.out.2.2.2, HIM.out.1, rfl, by rw [cntG_go HK.out.2.1 HBZ2.out]; push_cast; exact HS1.out.1, by rw [cntG_go HK.out.2.1 HBZ2.out]; exact HS1.out.2, HRC3.out⟩)
            clear HRC3 HHB3 HRN3 HRB3 HN1 HS1 HIM hz1 hz hz0 hbz HBZ HBZ2 HZ
            obtain ⟨first7, img7, pss7, D7, hrn7, hnt7, hfu7, hlim7, him7, himS7, hsz7, hpl7, hR7⟩ := HGS.out.ex
            have HRN7 := Aside0.mk hrn7
            have HRC7 := Aside0.mk hR7
            have hstp := stop_dn hrn7.dn none 0 [] (Kd.C_nil _ _) (by simp)
            obtain ⟨il, hil⟩ : ∃ il, img7.length = il := ⟨_, rfl⟩
            obtain ⟨ql, hql⟩ : ∃ ql, (recL pss7).length = ql := ⟨_, rfl⟩
            have HLN := Aside0.mk (And.intro hil hql)
            have HNT7 := Aside0.mk hnt7
            have HIS := Aside0.mk himS7
            have HSZ6 := Aside0.mk HGS.out.hb.size
            clear hrn7 hnt7 hfu7 hlim7 him7 himS7 hsz7 hpl7 hR7 hil hql
            go_upto_region 25 with (first
              | (go_at_call 12; refine (show Calls _ _ _ _ _ from hstp).mono ?_; rintro e W7 ⟨s2, E, rfl, hb, hd, hst, hsf⟩; have HB7 := Aside0.mk hb
                 have hrE := HNT7.out.r.same (stopped_eq hst HNT7.out.safe)
                 have hop2 := open_rn hd (((HE.out.step HGS.out.hb).up HSZ6.out (Nat.le_refl _)).step hb) 300 (by decide) hrE
                 have hcl := clean_plain (roll := 300) hrE hsf hd.ok
                 have h0 := hcl.fz (fun h => by rw [hst.2.1] at h; cases h)
                 generalize rclean (openM 300 first7 pss7) E = rc7 at hop2 h0
                 obtain ⟨Dc, ec⟩ := rc7
                 simp only at h0
                 subst h0
                 clear hb hd hst hsf hstp hrE hcl)
              | (go_at_call 8; refine (show Calls _ _ _ _ _ from hop2).mono ?_; rintro e W8 ho; obtain ⟨g2, B3, d3, B4, d4, rfl, hx0, hx1, hx2⟩ := ho.ok rfl; rw [HLN.out.1] at hx1 ⊢; rw [HLN.out.2] at hx2 ⊢; have HB8 := Aside0.mk (HB7.out.trans ho.st.hb); have HI8 := Aside0.mk hx1; have HL8 := Aside0.mk hx2; clear ho hop2 hx0 hx1 hx2))
            have hcv8 := Kd.C_string (P := Tryz.prog) (A := B3) (c := d3) Tryz.underlying22 Tryz.underlying5 Tryz.underlying9 (Kd.R_reads' HI8.out).2.2
            rw [HLN.out.1, ← HIS.out] at hcv8
            have hsm := same_calls W8 B4 d4 (recL pss7) rA3 rc3 ((recL pss7).map strOfNums) (Kd.R_reads' HL8.out).2.2 (Kd.R_reads' (Kd.R_below HRC7.out HB8.out)).2.2
            rw [HLN.out.2, decide_eq_true rfl, ← (Kd.R_reads' HRC7.out).1] at hsm
            go_upto_region 27 with (go_at_call 13; refine (show Calls _ _ _ _ _ from hsm).mono ?_; rintro e W9 ⟨rfl, hb⟩; have HB9 := Aside0.mk (HB8.out.trans (hb.mono HB8.out.size)); clear hb hsm)
            have HJ9 := Aside0.mk (show -9223372036854775808 ≤ (i : Int) + 1 ∧ (i : Int) + 1 ≤ 9223372036854775807 by have := HI.out; omega)
            have HG9 := Aside0.mk (HGS.out.below HB9.out)
            have hwi : wrap64 ((i : Int) + 1) = (i : Int) + 1 := wrap_in HJ9.out.1 HJ9.out.2
            clear hlt hcv8
            go_wp2_with fail
            go_roundw
            case rel => exact ⟨i + 1, _, rfl, by rw [hwi]; rfl, by have := HI.out; omega, HG9.out⟩
            case measure =>
              have hw2 : wrap64 ((i : Int) + ((1 : Nat) : Int)) = ((i + 1 : Nat) : Int) := by rw [show ((1 : Nat) : Int) = 1 from rfl, hwi]; rfl
              exact ms_lt n i 1 (by have := HI.out; clear hwi hw2; omega) hw2
    · obtain rfl : i = n := by omega
      clear hi hst
      go_wp2_with fail
      exact bodyPost_ret (v := .bool true) (by simp [results, Tryz.results3, go_sem]) rfl ⟨rfl, HS.out.hb⟩
set_option maxRecDepth 100000 in
set_option maxHeartbeats 1600000 in
theorem goes_many (w : World) (A : Option Addr) (c : Nat) (l : List Int) (every : Int) (hE : Ev w.heap.size w) (hl : 80 < l.length) :
    Calls Tryz.prog 3 #[.slice A l.length c, .int .u8 every] w fun e w' => e = .returned (.bool true) ∧ Below w.heap.size w w' := by
  have HE := Aside0.mk hE
  obtain ⟨n, hn⟩ : ∃ n, l.length = n := ⟨_, rfl⟩
  have hgt : decide ((n : Int) > 80) = true := decide_eq_true (by omega)
  rw [hn]
  have hnew := new_dn (W := w) 4000 (by decide) (by decide)
  clear hE hl hn
  go_enter Tryz.func3, Tryz.ntmps3
  go_upto_region 2 with (go_at_call 6; go_loud (refine (show Calls _ _ _ _ _ from hnew).mono ?_; rintro e w1 ⟨s, rfl, hb, hd⟩; have HB1 := Aside0.mk hb; clear hb hd hnew))
  have hE1 := HE.out.step HB1.out
  have haw := awake_calls w1 (hE1.up HB1.out.size (Nat.le_refl _))
  go_upto_region 3 with (go_at_call 7; go_loud (refine (show Calls _ _ _ _ _ from haw).mono ?_; rintro e w2 ⟨rfl, hb⟩; have HB2 := Aside0.mk (HB1.out.trans (hb.mono HB1.out.size)); clear hb haw hE1))
  have hE2 := HE.out.step HB2.out
  have haw := awake_calls w2 (hE2.up HB2.out.size (Nat.le_refl _))
  go_wp2_with (go_at_call 7; go_loud (refine (show Calls _ _ _ _ _ from haw).mono ?_; rintro e w3 ⟨rfl, hb⟩; have HB3 := Aside0.mk (HB2.out.trans (hb.mono HB2.out.size)); clear hb haw hE2))
  exact bodyPost_ret (v := .bool true) (by simp [results, Tryz.results3, go_sem]) rfl ⟨rfl, HB3.out⟩
theorem goes_calls (w : World) (A : Option Addr) (c : Nat) (l : List Int) (every : Int) (hC : Kd.C (Kd.int .u8) w A l.length l) (hu : ∀ x ∈ l, 0 ≤ x ∧ x ≤ 255) (he : 0 ≤ every ∧ every ≤ 255) (hE : Ev w.heap.size w) :
    Calls Tryz.prog 3 #[.slice A l.length c, .int .u8 every] w fun e w' => e = .returned (.bool true) ∧ Below w.heap.size w w' := by
  rcases Nat.lt_or_ge 80 l.length with h | h
  · exact goes_many w A c l every hE h
  · exact goes_few w A c l every hC hu he hE h
end Go.Proofs.YtdooajmgfoobfaaGreatDoor.H
namespace Go.Proofs.YtdooajmgfoobfaaGreatDoor.H
open Go.ChangeShapes Go.WideShapes Go.ChangeAt Go.RowKit Go.Shelf Go.Proofs.YtdooajmgfoobfaaGreatDoor.PA Go.Proofs.YtdooajmgfoobfaaGreatDoorW.PrintWords Go.Proofs.YtdooajmgfoobfaaGreatDoorW.PrintLast Go.Proofs.YtdooajmgfoobfaaGreatDoorW.PrintMore
set_option linter.unusedVariables false
set_option linter.unusedSimpArgs false
theorem starE : "*" ++ "errors.errorString" = "*errors.errorString" := by decide
theorem rowE (u : TypeId) (h : Tryz.prog.typeName? 3 u = some "*errors.errorString") : u = 168 :=
  typeName_ptr_named (nm := "errors.errorString") (by rw [starE]; kernel_rfl) (by kernel_rfl) (by decide) u (by rw [starE]; exact h)
theorem cell_of_sentinel {W : World} {n : String} {g : Nat} {v : Value} (hg : Tryz.prog.globalNamed n = some g) (h : W.var? Tryz.prog n = some #[v]) : W.cell? ⟨g, 0, none⟩ = some v := by
  have := World.var?_cell hg h 0
  simpa using this
theorem gNib : Tryz.prog.globalNamed "tidemill/link.nibbles" = some 1 := by kernel_rfl
theorem gNibType : (Tryz.prog.globals[1]?).map (·.type) = some 118 := by kernel_rfl
theorem nibD : (Rows.laid_tidemill_link_nibbles : DataW Unit) = Lib.tabData .u32 nibL := by kernel_rfl
theorem cell_lt {W : World} {g : Nat} {v : Value} (h : W.cell? ⟨g, 0, none⟩ = some v) : g < W.heap.size := World.block_lt_of_cell? _ _ h
/-- The rows' list of variables, met: what the walks read of them. -/
theorem ev_of {W : World} {a b c d : String × DataW Unit} (hp : ((a :: b :: c :: d :: ("strconv.ErrSyntax", Rows.laid_strconv_ErrSyntax) :: [("tidemill/link.nibbles", Rows.laid_tidemill_link_nibbles)]).all fun x => x.2.handleName?.isNone) = true)
    (hL : laidMetH Tryz.prog (a :: b :: c :: d :: ("strconv.ErrSyntax", Rows.laid_strconv_ErrSyntax) :: [("tidemill/link.nibbles", Rows.laid_tidemill_link_nibbles)]) W) : Ev W.heap.size W := by
  rw [MakeChecks.laidMetH_plain _ _ _ hp, nibD] at hL
  have h4 := laidMet.tail (laidMet.tail (laidMet.tail (laidMet.tail hL)))
  have h5 := laidMet.tail h4
  have htab := Lib.tabIs_of_head gNib gNibType Tryz.underlying118 Tryz.underlying95 (by kernel_rfl) (by kernel_rfl) h5
  obtain ⟨a1, s1, v1, _, _, _⟩ := laid_sentinel (g := 3) (ti := 132) (tp := 168) (te := 170) (ts := 9) h4 (by kernel_rfl) (by kernel_rfl) Tryz.underlying132 rowE Tryz.underlying168 Tryz.underlying170 rfl rfl Tryz.underlying9 (by kernel_rfl) (by kernel_rfl)
  have hsyn := cell_of_sentinel (g := 3) (by kernel_rfl) v1
  have hnib : Nib W := fun j hj => by
    unfold Lib.TabIs at htab
    rw [World.var?_cell gNib htab j]
    have hl : nibL.length = 16 := by decide
    rw [List.getElem?_toArray, List.getElem?_map, List.getElem?_eq_getElem (by omega), List.getD_eq_getElem?_getD, List.getElem?_eq_getElem (by omega)]
    rfl
  exact ⟨⟨⟨_, _, hsyn⟩, hnib⟩, cell_lt hsyn, cell_lt (hnib 0 (by decide)), Nat.le_refl _⟩
/-- A slice of bytes that is handed in: what its reading tells. -/
theorem open_rowI {H : Type} {enc : TypeId × Value → H} {W : World} {base : Nat} {sp : Nat → Bool} {held : Bool} {a : Option Addr} {len cap : Nat} {y : DataW H × List MemPlace} (h : ∃ fuel, DataW.trod enc Tryz.prog W base sp held fuel 22 (Value.slice a len cap).cells.toList = some y) :
    ∃ l : List Int, len = l.length ∧ l.length ≤ cap ∧ (Kd.int .u8).C W a l.length l ∧ ∀ n ∈ l, 0 ≤ n ∧ n ≤ 255 := by
  obtain ⟨fuel, hf⟩ := h
  rcases open_ints Tryz.underlying22 Tryz.underlying5 (by kernel_rfl) hf with ⟨hcs, _⟩ | ⟨x, n, c, zs, hcs, _, hl, hm, hz, _, hcell, hwz⟩
  · simp [Value.cells] at hcs
    obtain ⟨rfl, rfl, rfl⟩ := hcs
    exact ⟨[], rfl, Nat.le_refl _, Kd.C_of_reads (d := 0) ⟨rfl, by simp, fun h => by simp at h⟩, by simp⟩
  · simp [Value.cells] at hcs
    obtain ⟨rfl, rfl, rfl⟩ := hcs
    have hzl : len ≤ zs.length := by rw [hz]; split <;> omega
    have hlen : (zs.take len).length = len := by rw [List.length_take]; omega
    unfold maxLen at hm
    refine ⟨zs.take len, hlen.symm, by omega, Kd.C_of_reads (d := 0) ⟨rfl, by omega, fun h => ⟨x, rfl, fun j hj => ?_⟩⟩, fun n hn => ?_⟩
    · rw [hcell j (by omega), List.getD_eq_getElem?_getD, List.getD_eq_getElem?_getD, List.getElem?_take, if_pos (by omega)]
    · have := hwz n (List.mem_of_mem_take hn)
      simp only [Lit.wf, Bool.and_eq_true, decide_eq_true_eq] at this
      exact this
theorem u8_wf {m : Int} (hm : (Lit.int .u8 m).wf = true) : 0 ≤ m ∧ m ≤ 255 := by
  have h1 : IntKind.u8.min = 0 := by decide
  have h2 : IntKind.u8.max = 255 := by decide
  simp only [Lit.wf, h1, h2, Bool.and_eq_true, decide_eq_true_eq] at hm
  exact hm
end Go.Proofs.YtdooajmgfoobfaaGreatDoor.H
namespace Go.Proofs.YtdooajmgfoobfaaGreatDoor.H
open Go.RowKit Go.Shelf Go.Proofs.YtdooajmgfoobfaaGreatDoorW.PrintWords
set_option linter.unusedVariables false
theorem reelGoes_row (A : Option Addr) (c : Nat) (l : List Int) (x : Int) (r : Bool) (w : World) (hC : Kd.C (Kd.int .u8) w A l.length l) (hc : l.length ≤ c) (h : r = true ∧ (∀ x ∈ l, 0 ≤ x ∧ x ≤ 255) ∧ (0 ≤ x ∧ x ≤ 255)) (hE : Ev w.heap.size w) :
    Calls Tryz.prog 3 #[.slice A l.length c, .int .u8 x] w fun e w' => e = .returned (.bool r) ∧ Below w.heap.size w w' := by
  obtain ⟨rfl, hu, hx⟩ := h
  exact goes_calls w A c l x hC hu hx hE
end Go.Proofs.YtdooajmgfoobfaaGreatDoor.H


