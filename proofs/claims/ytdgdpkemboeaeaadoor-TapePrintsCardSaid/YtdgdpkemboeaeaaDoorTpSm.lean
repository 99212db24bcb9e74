/- The law's comparing of acts. -/
import Derived.Test.YtdgdpkemboeaeaaDoorTpZ
import Derived.Test.YtdgdpkemboeaeaaDoorTpF
import Derived.BigQuiet
namespace Go.Proofs.YtdgdpkemboeaeaaDoor.H
open Go.RowKit Go.Shelf Go.Proofs.YtdgdpkemboeaeaaDoor.PT Go.Proofs.YtdgdpkemboeaeaaDoorW.PrintWords Go.Proofs.YtdgdpkemboeaeaaDoorW.PrintLast Go.Proofs.YtdgdpkemboeaeaaDoorW.PrintMore
set_option linter.unusedVariables false
set_option linter.unusedSimpArgs false
def p45 (x : S45) : PAct := ⟨x.f0, x.f1, x.f2, x.f3, x.f4⟩
theorem bat_below {T e : TypeId} {B b : Nat} {p : Value} {bs : List Value} {w w' : World} (h : Lib.BuilderAt T e B b p bs w) (hb : Below w.heap.size w w') : Lib.BuilderAt T e B b p bs w' := by
  obtain ⟨h1, v, h2, h3, h4⟩ := h
  exact ⟨h1, v, (hb.block _ (blk_lt h2)).trans h2, own_move h3 (fun k hk => hb.block k (own_lt h3 k hk)), h4⟩
theorem isb_below {T e : TypeId} {B b : Nat} {bs : List Value} {w w' : World} (h : Lib.IsBuilder T e B b bs w) (hb : Below w.heap.size w w') : Lib.IsBuilder T e B b bs w' := h.imp (fun x => bat_below x hb) (fun x => bat_below x hb)
/-- Where the first act that isn't good stands. -/
def badAt : List PAct → Nat
  | [] => 0
  | a :: l => if goodP a = true then badAt l + 1 else 0
theorem badAt_all : ∀ {l : List PAct}, (∀ a ∈ l, goodP a = true) → badAt l = l.length
  | [], _ => rfl
  | a :: l, h => by
    unfold badAt
    rw [if_pos (h a (by simp)), badAt_all (fun x hx => h x (by simp [hx])), List.length_cons]
theorem badAt_at : ∀ {l : List PAct} {j : Nat} (h : j < l.length), (∀ a ∈ l.take j, goodP a = true) → goodP l[j] = false → badAt l = j
  | [], j, h, _, _ => absurd h (by simp)
  | a :: l, 0, _, _, hb => by
    unfold badAt
    rw [if_neg (by simp at hb; rw [hb]; decide)]
  | a :: l, j + 1, h, hg, hb => by
    unfold badAt
    rw [if_pos (hg a (by simp)), badAt_at (l := l) (j := j) (by simpa using h) (fun x hx => hg x (by simp [hx])) (by simpa using hb)]
/-- What Print returns. -/
def printR (l : List PAct) : ByteArray × Int × Int := if badAt l = l.length then (ba (printL l), 0, 0) else (⟨#[]⟩, (badAt l : Int), 2)
theorem line_len2 {a : PAct} (hg : goodP a = true) (ht : a.t.size ≤ 1000000) : (lineP a).length ≤ 3001000 := by
  obtain ⟨h1, h2, hi0, hi1, _, hn0, hn1, _, _, hkl, hka, _⟩ := goodP_iff.1 hg
  have hw := shW_len h1 h2
  have hi : ∀ z : Int, 0 ≤ z → z ≤ 1000000000 → (Lib.itoa z).length ≤ 21 := fun z a b => Lib.itoa_length_le z (by omega) (by omega)
  have hs := showL_len a.t.data.toList
  rw [len_of] at hs
  have hk : ∀ l : List Int, (∀ x ∈ l, 0 ≤ x ∧ x ≤ 1000000000) → ((l.map Lib.itoa).map (fun x => x.length + 1)).sum ≤ 22 * l.length := by
    intro l
    induction l with
    | nil => intro _; simp
    | cons x l ih =>
      intro h
      have h3 := ih (fun y hy => h y (by simp [hy]))
      have h4 := hi x (h x (by simp)).1 (h x (by simp)).2
      rw [List.map_cons, List.map_cons, List.sum_cons, List.length_cons]
      omega
  have hkk := hk a.keep hka
  have h5 := hi a.i hi0 hi1
  have h6 := hi a.n hn0 hn1
  refine Nat.le_trans (joinC_len 32 _) ?_
  unfold partsP
  simp only [List.map_cons, List.map_append, List.sum_cons, List.sum_append]
  have e1 : ((if shI a.k = true then [Lib.itoa a.i] else []).map (fun x => x.length + 1)).sum ≤ 22 := by split <;> simp <;> omega
  have e2 : ((if shN a.k = true then [Lib.itoa a.n] else []).map (fun x => x.length + 1)).sum ≤ 22 := by split <;> simp <;> omega
  have e3 : ((if a.t.size = 0 then [] else [showL a.t.data.toList]).map (fun x => x.length + 1)).sum ≤ 3000001 := by split <;> simp <;> omega
  omega
theorem printL_len (l : List PAct) (hg : ∀ a ∈ l, goodP a = true) (ht : ∀ a ∈ l, a.t.size ≤ 1000000) : (printL l).length ≤ 3001001 * l.length := by
  induction l with
  | nil => exact Nat.zero_le _
  | cons a l ih =>
    have h1 := ih (fun x hx => hg x (by simp [hx])) (fun x hx => ht x (by simp [hx]))
    have h2 := line_len2 (hg a (by simp)) (ht a (by simp))
    unfold printL at h1 ⊢
    rw [List.flatMap_cons, List.length_append, List.length_append, List.length_cons]
    simp only [List.length_cons, List.length_nil]
    omega
theorem printL_snoc (l : List PAct) (a : PAct) : printL (l ++ [a]) = printL l ++ (lineP a ++ [10]) := by unfold printL; rw [List.flatMap_append]; simp
set_option maxRecDepth 100000 in
set_option maxHeartbeats 8000000 in
theorem print_calls (A : Option Addr) (c : Nat) (l : List S45) (hl : l.length ≤ 1000000) (ht : ∀ x ∈ l, x.f3.size ≤ 1000000) (w : World) (hE : Env w) (hC : Kd.C k45 w A l.length l) :
    Calls Tryd.prog 39 #[.slice A l.length c] w fun e w' => e = .returned (.tuple #[.string (printR (l.map p45)).1, .int .i64 (printR (l.map p45)).2.1, .int .i64 (printR (l.map p45)).2.2]) ∧ Below w.heap.size w w' := by
  have HE := Aside0.mk hE
  have HC := Aside0.mk hC
  have HT := Aside0.mk ht
  obtain ⟨RR, hRR⟩ : ∃ RR, printR (l.map p45) = RR := ⟨_, rfl⟩
  rw [hRR]
  have HRR := Aside0.mk hRR
  have hmx := hC.2.1
  clear hE hC ht hRR
  go_enter Tryd.func39, Tryd.ntmps39
  go_wp2
  have hnb := new_builder w
  have hB0 : Below w.heap.size w (w.alloc (.cells #[.pointer none, .slice none 0 0] 91)) := (Below.refl _ w).alloc (Nat.le_refl _) _
  generalize w.alloc (.cells #[.pointer none, .slice none 0 0] 91) = w1 at hnb hB0 ⊢
  go_loopw [6, 7, 10] (fun _ _ v wr => ∃ j : Nat, j ≤ l.length ∧ v = .int .i64 j ∧ (∀ a ∈ (l.take j).map p45, goodP a = true) ∧ Lib.IsBuilder 91 5 w.heap.size w.heap.size (Lib.byteCells (printL ((l.take j).map p45))) wr ∧ Below w.heap.size w wr) (fun _ _ v _ => l.length - (intOf v).toNat)
  case atStart => exact ⟨0, Nat.zero_le _, rfl, by simp, hnb, hB0⟩
  case round =>
    obtain ⟨j, hj, rfl, hgd, hbu, hbe⟩ := hrel
    have HG := Aside0.mk hgd
    have HB := Aside0.mk hbu
    have HBE := Aside0.mk hbe
    clear hgd hbu hbe hnb hB0
    by_cases hlt : j < l.length
    · obtain ⟨ad, A4, c4, rfl, k0, k1, k2, k3, k4, hc4, hC4⟩ := at_T45 (Kd.C_below HC.out HBE.out) (j : Int) (by omega) (by omega)
      have hrd : rd_T45 l (j : Int) = l[j] := by unfold rd_T45; rw [Int.toNat_natCast, List.getD_eq_getElem?_getD, List.getElem?_eq_getElem hlt]; rfl
      rw [hrd] at k0 k1 k2 k3 k4 hc4 hC4
      simp only [Int.toNat_natCast] at k0 k1 k2 k3 k4
      have htk : l.take (j + 1) = l.take j ++ [l[j]] := List.take_succ_eq_append_getElem hlt
      have hxt := HT.out l[j] (List.getElem_mem hlt)
      have HTK := Aside0.mk htk
      have HXT := Aside0.mk hxt
      have HGET := Aside0.mk (show (l.map p45)[j]'(by simpa using hlt) = p45 l[j] by simp)
      clear htk hxt hrd
      generalize l[j] = x at k0 k1 k2 k3 k4 hc4 hC4 HTK HXT HGET
      have hgood := fun (W : World) (hb : Below wr.heap.size wr W) => good_calls (p45 x) A4 c4 W (HE.out.below (HBE.out.trans (hb.mono HBE.out.size))) (Kd.C_below hC4 hb)
      have hline := fun (W : World) (hb : Below wr.heap.size wr W) (hg : goodP (p45 x) = true) => line_calls (p45 x) A4 c4 W (HE.out.below (HBE.out.trans (hb.mono HBE.out.size))) (Kd.C_below hC4 hb) hg (Nat.le_trans HXT.out (by omega))
      simp only [actV, p45] at hgood hline
      have HGO := Aside0.mk hgood
      have HLI := Aside0.mk hline
      clear hgood hline hC4 hc4
      go_upto_region 5 with fail
      have hbA := (Below.refl wr.heap.size wr).alloc (Nat.le_refl _) (.cells #[.int .i64 x.f0, .int .i64 x.f1, .int .i64 x.f2, .string x.f3, .slice A4 x.f4.length c4] 45)
      have hab := heap_alloc_new wr (.cells #[.int .i64 x.f0, .int .i64 x.f1, .int .i64 x.f2, .string x.f3, .slice A4 x.f4.length c4] 45)
      generalize wr.alloc (.cells #[.int .i64 x.f0, .int .i64 x.f1, .int .i64 x.f2, .string x.f3, .slice A4 x.f4.length c4] 45) = WA at hbA hab ⊢
      have a0 := blk_cell hab 0
      have a1 := blk_cell hab 1
      have a2 := blk_cell hab 2
      have a3 := blk_cell hab 3
      have a4 := blk_cell hab 4
      have HBA := Aside0.mk hbA
      have HAB := Aside0.mk hab
      have hgc := HGO.out WA hbA
      clear hbA hab k0 k1 k2 k3 k4
      cases hg : goodP ⟨x.f0, x.f1, x.f2, x.f3, x.f4⟩ with
      | false =>
        rw [hg] at hgc
        have hba : badAt (l.map p45) = j := badAt_at (by simpa using hlt) (by rw [← List.map_take]; exact HG.out) (by rw [HGET.out]; exact hg)
        have hres : RR = (⟨#[]⟩, (j : Int), 2) := by
          rw [← HRR.out]
          unfold printR
          rw [hba, if_neg (by rw [List.length_map]; omega)]
        have HRES := Aside0.mk hres
        clear hres hba hg
        go_wp2_with (go_at_call 37; refine hgc.mono ?_; rintro e w2 ⟨rfl, hb⟩; have HB2 := Aside0.mk hb; clear hb)
        exact bodyPost_ret (v := .tuple #[.string ⟨#[]⟩, .int .i64 (j : Int), .int .i64 2]) (by simp [results, Tryd.results39, go_sem]) rfl ⟨by rw [HRES.out], (HBE.out.trans (HBA.out.mono HBE.out.size)).trans (HB2.out.mono (HBE.out.trans (HBA.out.mono HBE.out.size)).size)⟩
      | true =>
        rw [hg] at hgc
        have hlsz := line_len2 hg HXT.out
        obtain ⟨LB, hLB⟩ : ∃ LB, ba (lineP ⟨x.f0, x.f1, x.f2, x.f3, x.f4⟩) = LB := ⟨_, rfl⟩
        have hls : LB.size ≤ 3001000 := by rw [← hLB, ba_size]; exact hlsz
        have hls2 : (9223372036854775807 < LB.size + 1) = False := eq_false (by omega)
        have hli := fun W hb => HLI.out W hb hg
        rw [hLB] at hli
        have HLI2 := Aside0.mk hli
        have HLB := Aside0.mk hLB
        have HGT := Aside0.mk hg
        have hpl := printL_len ((l.take j).map p45) HG.out (fun a ha => by
          obtain ⟨y, hy, rfl⟩ := List.mem_map.1 ha
          exact HT.out y (List.mem_of_mem_take hy))
        rw [List.length_map, List.length_take] at hpl
        have HPL := Aside0.mk (show (Lib.byteCells (printL ((l.take j).map p45))).length + (LB ++ ⟨#[10]⟩).size ≤ 140737488355328 by
          rw [Lib.byteCells_length, ByteArray.size_append, show (⟨#[10]⟩ : ByteArray).size = 1 from rfl]
          have : min j l.length ≤ 1000000 := by omega
          have := Nat.mul_le_mul_left 3001001 this
          omega)
        clear hli hLB hg hpl hlsz
        go_wp2_with (first
          | (go_at_call 37; refine hgc.mono ?_; rintro e w2 ⟨rfl, hb⟩; have HB2 := Aside0.mk (HBA.out.trans (hb.mono HBA.out.size)); have HAB2 := Aside0.mk ((hb.block _ (blk_lt HAB.out)).trans HAB.out); have b0 := blk_cell HAB2.out 0; have b1 := blk_cell HAB2.out 1; have b2 := blk_cell HAB2.out 2; have b3 := blk_cell HAB2.out 3; have b4 := blk_cell HAB2.out 4; clear hb)
          | (go_at_call 72; refine (HLI2.out _ HB2.out).mono ?_; rintro e w3 ⟨rfl, hb⟩; have HB3 := Aside0.mk (HB2.out.trans (hb.mono HB2.out.size)); clear hb)
          | (go_at_call 63; refine (Bld.writeString w.heap.size w.heap.size (Lib.byteCells (printL ((l.take j).map p45))) _ w3 (isb_below HB.out HB3.out) HPL.out (Nat.le_trans HBE.out.size HB3.out.size)).mono ?_; rintro e w4 ⟨rfl, hbb, hb4, _⟩; have HB4 := Aside0.mk hb4; have HBB := Aside0.mk hbb; clear hb4 hbb))
        go_roundw
        case rel =>
          refine ⟨j + 1, by omega, by simp, ?_, ?_, (HBE.out.trans (HB3.out.mono HBE.out.size)).trans HB4.out⟩
          · rw [HTK.out, List.map_append]
            intro a ha
            rcases List.mem_append.1 ha with ha | ha
            · exact HG.out a ha
            · rw [List.map_cons, List.map_nil, List.mem_singleton] at ha
              rw [ha]
              exact HGT.out
          · rw [HTK.out, List.map_append, List.map_cons, List.map_nil, printL_snoc, Lib.byteCells_append]
            have e : Lib.strCells (LB ++ ⟨#[10]⟩) = Lib.byteCells (lineP (p45 x) ++ [10]) := by
              rw [Lib.strCells_eq, ByteArray.data_append, Array.toList_append, ← HLB.out, ba_data]
              rfl
            rw [← e]
            exact .inr HBB.out
        case measure => simp [intOf]; omega
    · obtain rfl : j = l.length := by omega
      have hg := HG.out
      rw [List.take_length] at HB HG
      have hres : RR = (ba (printL (l.map p45)), 0, 0) := by
        rw [← HRR.out]
        unfold printR
        rw [if_pos (badAt_all HG.out)]
      have HRES := Aside0.mk hres
      clear hres hg
      go_wp2_with (go_at_call 64; refine (Tryd.Builder_String_any w.heap.size w.heap.size _ wr HB.out HBE.out.size).mono ?_; rintro e w2 ⟨rfl, hb⟩; have HB2 := Aside0.mk hb; clear hb)
      exact bodyPost_ret (v := .tuple #[.string (ba (printL (l.map p45))), .int .i64 0, .int .i64 0]) (by simp [results, Tryd.results39, go_sem]; rfl) rfl ⟨by rw [HRES.out], HBE.out.trans HB2.out⟩
end Go.Proofs.YtdgdpkemboeaeaaDoor.H
namespace Go.Proofs.YtdgdpkemboeaeaaDoor.H
open Go.RowKit Go.Shelf Go.Proofs.YtdgdpkemboeaeaaDoor.PT Go.Proofs.YtdgdpkemboeaeaaDoorW.PrintWords Go.Proofs.YtdgdpkemboeaeaaDoorW.PrintLast Go.Proofs.YtdgdpkemboeaeaaDoorW.PrintMore
set_option linter.unusedVariables false
set_option linter.unusedSimpArgs false
def p46 (x : S46) : PAct := ⟨x.f0, x.f1, x.f2, x.f3, x.f4⟩
theorem beq_bb (s : ByteArray) : (s.toList == s.toList) = true := beq_self_eq_true _
set_option maxRecDepth 100000 in
set_option maxHeartbeats 8000000 in
theorem same_calls (A B : Option Addr) (c c' : Nat) (l : List S45) (m : List S46) (hlm : l.map p45 = m.map p46) (w : World) (hA : Kd.C k45 w A l.length l) (hB : Kd.C k46 w B m.length m) :
    Calls Tryd.prog 29 #[.slice A l.length c, .slice B m.length c'] w fun e w' => e = .returned (.bool true) ∧ Below w.heap.size w w' := by
  have hlen : m.length = l.length := by
    have := congrArg List.length hlm
    rw [List.length_map, List.length_map] at this
    exact this.symm
  have hget : ∀ (j : Nat) (h1 : j < l.length) (h2 : j < m.length), p46 m[j] = p45 l[j] := by
    intro j h1 h2
    have e1 : (l.map p45)[j]? = some (p45 l[j]) := by rw [List.getElem?_map, List.getElem?_eq_getElem h1]; rfl
    have e2 : (m.map p46)[j]? = some (p46 m[j]) := by rw [List.getElem?_map, List.getElem?_eq_getElem h2]; rfl
    rw [hlm, e2] at e1
    exact Option.some.inj e1
  have hmx := hA.2.1
  have HGET := Aside0.mk hget
  have HA := Aside0.mk hA
  have HB := Aside0.mk hB
  have HLEN := Aside0.mk hlen
  rw [hlen]
  clear hA hB hget hlm hlen
  go_enter Tryd.func29, Tryd.ntmps29
  go_wp2
  go_loopw [5, 6, 14] (fun _ _ v wr => ∃ j : Nat, j ≤ l.length ∧ v = .int .i64 j ∧ Below w.heap.size w wr) (fun _ _ v _ => l.length - (intOf v).toNat)
  case atStart => exact ⟨0, Nat.zero_le _, rfl, Below.refl _ _⟩
  case round =>
    obtain ⟨j, hj, rfl, hbe⟩ := hrel
    have HBE := Aside0.mk hbe
    clear hbe
    by_cases hlt : j < l.length
    · have hj2 : j < m.length := by rw [HLEN.out]; exact hlt
      obtain ⟨ad, A4, c4, rfl, k0, k1, k2, k3, k4, hc4, hC4⟩ := at_T45 (Kd.C_below HA.out HBE.out) (j : Int) (by omega) (by omega)
      obtain ⟨bd, B4, d4, rfl, r0, r1, r2, r3, r4, hd4, hD4⟩ := at_T46 (Kd.C_below HB.out HBE.out) (j : Int) (by omega) (by omega)
      have hrd : rd_T45 l (j : Int) = l[j] := by unfold rd_T45; rw [Int.toNat_natCast, List.getD_eq_getElem?_getD, List.getElem?_eq_getElem hlt]; rfl
      have hrd2 : rd_T46 m (j : Int) = m[j] := by unfold rd_T46; rw [Int.toNat_natCast, List.getD_eq_getElem?_getD, List.getElem?_eq_getElem hj2]; rfl
      rw [hrd] at k0 k1 k2 k3 k4 hc4 hC4
      rw [hrd2] at r0 r1 r2 r3 r4 hd4 hD4
      have hg := HGET.out j hlt hj2
      simp only [Int.toNat_natCast] at k0 k1 k2 k3 k4 r0 r1 r2 r3 r4
      clear hrd hrd2
      generalize l[j] = x at k0 k1 k2 k3 k4 hc4 hC4 hg
      generalize m[j] = y at r0 r1 r2 r3 r4 hd4 hD4 hg
      obtain ⟨x0, x1, x2, xt, xk⟩ := x
      obtain ⟨y0, y1, y2, yt, yk⟩ := y
      clear hj2
      unfold p45 p46 at hg
      simp only [PAct.mk.injEq] at hg
      obtain ⟨rfl, rfl, rfl, rfl, rfl⟩ := hg
      simp only at k0 k1 k2 k3 k4 r0 r1 r2 r3 r4 hc4 hC4 hd4 hD4
      have bb := beq_bb yt
      have HC4 := Aside0.mk hC4
      have HD4 := Aside0.mk hD4
      have hkm := hC4.2.1
      clear hC4 hD4
      have q3 : (0 : Int) ≤ (j : Int) := by omega
      have q4 : (j : Int) < (l.length : Int) := by omega
      go_wp2
      go_quiet (fail)
      go_wp2
      go_loopw [6, 88] (fun _ v wr2 => ∃ k : Nat, k ≤ yk.length ∧ v = .int .i64 k ∧ Below wr.heap.size wr wr2) (fun _ v _ => yk.length - (intOf v).toNat)
      case atStart => exact ⟨0, Nat.zero_le _, rfl, pw_below_drewN (Below.refl _ _) _⟩
      case round =>
        obtain ⟨k, hk, rfl, hbe⟩ := hrel
        have HB2 := Aside0.mk hbe
        clear hbe
        by_cases hlt2 : k < yk.length
        · obtain ⟨ae, rfl, e0⟩ := Kd.at_int (Kd.C_below HC4.out HB2.out) (k : Int) (by omega) (by omega)
          obtain ⟨be, rfl, f0⟩ := Kd.at_int (Kd.C_below HD4.out HB2.out) (k : Int) (by omega) (by omega)
          simp only [Int.toNat_natCast] at e0 f0
          replace k4 := (HB2.out.cell (World.block_lt_of_cell? _ _ k4)).trans k4
          replace r4 := (HB2.out.cell (World.block_lt_of_cell? _ _ r4)).trans r4
          clear k0 k1 k2 k3 r0 r1 r2 r3
          have q5 : (0 : Int) ≤ (k : Int) := by omega
          have q6 : (k : Int) < (yk.length : Int) := by omega
          go_wp2
          go_quiet (fail)
          go_wp2
          go_roundw
          case rel => exact ⟨k + 1, by omega, by simp, pw_below_drewN HB2.out _⟩
          case measure => simp [intOf]; omega
        · obtain rfl : k = yk.length := by omega
          go_wp2
          go_roundw
          case rel => exact ⟨j + 1, by omega, by simp, HBE.out.trans (HB2.out.mono HBE.out.size)⟩
          case measure => simp [intOf]; omega
    · obtain rfl : j = l.length := by omega
      go_wp2
      exact bodyPost_ret (v := .bool true) (by simp [results, Tryd.results29, go_sem]) rfl ⟨rfl, HBE.out⟩
end Go.Proofs.YtdgdpkemboeaeaaDoor.H

