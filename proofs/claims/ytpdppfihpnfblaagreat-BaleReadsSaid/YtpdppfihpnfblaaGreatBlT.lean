/- What is taken: some thing of its kind, no more is told. Laid by wip/takes_bl.py. -/
import Derived.Test.YtpdppfihpnfblaaGreatBlK
namespace Go.Proofs.YtpdppfihpnfblaaGreat.H
open Go.RowKit Go.Shelf Go.Proofs.YtpdppfihpnfblaaGreat.PA Go.Proofs.YtpdppfihpnfblaaGreatW.PrintWords Go.Proofs.YtpdppfihpnfblaaGreatW.PrintLast Go.Proofs.YtpdppfihpnfblaaGreatW.PrintMore
set_option linter.unusedVariables false
set_option linter.unusedSimpArgs false
def gUp (n : Int) : Prop := 0 ≤ n ∧ n ≤ 9007199254740992
def gInt (n : Int) : Prop := -4611686018427387904 ≤ n ∧ n ≤ 4611686018427387903
def gTxt (s : ByteArray) : Prop := (s.size : Int) ≤ 10000
def gList {α : Type} (G : α → Prop) (l : List α) : Prop := l.length ≤ 1000 ∧ ∀ x ∈ l, G x
def gSrc (x : Src) : Prop := gTxt x.name ∧ gUp x.time ∧ gUp x.at_
def gSen (x : Sen) : Prop := gTxt x.name ∧ gUp x.floor ∧ gList gUp x.seqs
def gLab (x : Lab) : Prop := gTxt x.name ∧ gTxt x.value
def gVatS (x : VatS) : Prop := gUp x.kind ∧ gUp x.many ∧ gInt x.high ∧ gInt x.low ∧ gInt x.last ∧ gUp x.time ∧ gUp x.seq ∧ gTxt x.source ∧ gList gInt x.samples ∧ gList gTxt x.members
def gCel (x : Cel) : Prop := gTxt x.metric ∧ gList gLab x.labels ∧ gUp x.policy ∧ gUp x.start ∧ gUp x.rev ∧ gVatS x.vat
def gI64 (n : Int) : Prop := -9223372036854775808 ≤ n ∧ n ≤ 9223372036854775807
def gEmi (x : Emi) : Prop := gTxt x.key ∧ gTxt x.policy ∧ gUp x.kind ∧ gUp x.start ∧ gUp x.rev ∧ gUp x.rkind ∧ gUp x.count ∧ gI64 x.sum ∧ gInt x.min ∧ gInt x.max ∧ gInt x.q0 ∧ gInt x.q1 ∧ gInt x.q2
def gBat (x : Bat) : Prop := gUp x.number ∧ gUp x.now ∧ gTxt x.text
def encA (cs : List Value) : Value := .agg cs.toArray
def enc1 (cs : List Value) : Value := cs.headD undef
theorem infoInt : (Tryz.prog.info? 3).map (fun i => (i.zero, i.size, i.bytes)) = some (some (.int .i64 0), 1, 8) := by kernel_rfl
theorem infoStr : (Tryz.prog.info? 9).map (fun i => (i.zero, i.size, i.bytes)) = some (some (.string ⟨#[]⟩), 1, 16) := by kernel_rfl
structure TakeAns {α : Type} (k : Kd α) (enc : List Value → Value) (G : α → Prop) (w0 : World) (rb : Nat) (w : World) (e : Ending) (w' : World) : Prop where
  out : ∃ x cs, e = .returned (enc cs) ∧ k.M w' w.heap.size (fun q => q ≠ rb) x cs ∧ G x
  rs : ∃ f, RS w0 rb f w'
  gr : w.grownBy w' (some rb)
theorem M_apart {α : Type} {d : Kd α} {w : World} {base b0 : Nat} {ok : Nat → Prop} {x : α} {cs : List Value} {v : Value} {e s n : Nat} {ys : List Value} (h : d.M w base ok x cs) (ho : w.ownsRow b0 e s v n ys) (ht : ∀ q, q ∈ d.E → q ≠ e) : d.M w base (fun k => ok k ∧ some k ≠ v.ownBlock) x cs := by
  refine d.M_mono (fun k hk => ⟨hk.1, fun e1 => ?_⟩) (d.M_bound h)
  obtain ⟨_, _, _, q, hq, cells, hc⟩ := hk
  obtain ⟨c2, hc2⟩ := own_typed ho k e1.symm
  rw [hc] at hc2
  injection hc2 with hc2
  injection hc2 with _ hc2
  exact ht q hq hc2
theorem R_grownS {α : Type} {d : Kd α} {w w1 : World} {base rb e : Nat} {v : Value} {xs : List α} (h : Kd.R d e w base (fun q => q ≠ rb) v xs) (hg : w.grownBy w1 (some rb)) : Kd.R d e w1 base (fun q => q ≠ rb) v xs := Kd.R_grown h hg (fun k hk e => hk (by injection e))
theorem R_sl {α : Type} {d : Kd α} {e base : Nat} {W : World} {ok : Nat → Prop} {v : Value} {xs : List α} (h : Kd.R d e W base ok v xs) : ∃ A n c, v = .slice A n c := by
  obtain ⟨A, c, e⟩ := Kd.R_slice h
  exact ⟨A, _, c, e⟩
theorem grown_own {w W W1 : World} {g : Nat} {row : Option Nat} (h : w.grownBy W (some g)) (hg : W.grownBy W1 row) (hr : ∀ k, row = some k → w.heap.size ≤ k) : w.grownBy W1 (some g) :=
  ⟨hg.os.trans h.os, hg.tape.trans h.tape, hg.output.trans h.output, Nat.le_trans h.size hg.size, fun i hi hne => (hg.block i (Nat.lt_of_lt_of_le hi h.size) (fun e => by have := hr i e.symm; omega)).trans (h.block i hi hne)⟩
theorem RS.grown {w0 W W1 : World} {g : Nat} {f : Int} {row : Option Nat} (h : RS w0 g f W) (hg : W.grownBy W1 row) (hne : some g ≠ row) (hr : ∀ k, row = some k → w0.heap.size ≤ k) : RS w0 g f W1 := by
  obtain ⟨h1, h2, A, c, l, hk, r⟩ := h
  exact ⟨h1.grown hg h1.size hr, h2, A, c, l, blk_grown hk hg hne, r⟩
set_option maxRecDepth 100000 in
set_option maxHeartbeats 8000000 in
theorem TakeSrc_calls (w0 : World) (rb : Nat) (G : Src → Prop) (h1 : ∀ f W, RS w0 rb f W → Calls Tryz.prog 52 #[.pointer (some ⟨rb, 0, none⟩)] W (TakeAns kSrc encA G w0 rb W)) (f : Int) (w : World) (h : RS w0 rb f w) :
    Calls Tryz.prog 81 #[.pointer (some ⟨rb, 0, none⟩), .int .i64 1000, .func (.func 52) #[] #[]] w (TakeAns (Kd.slice 119 kSrc) enc1 (gList G) w0 rb w) := by
  have hup := up_calls w0 rb f 1000 (by omega) w h
  have H1 := Aside0.mk h1
  have HW0 := Aside0.mk (show w0.heap.size ≤ w.heap.size from h.1.size)
  clear h1 h
  go_enter Tryz.func81, Tryz.ntmps81
  go_wp2_with (go_at_call 63; refine hup.mono ?_; rintro e w1 ⟨⟨n, rfl, hn0, hn1⟩, ⟨f1, hr⟩, hg⟩; have HR := Aside0.mk hr; have HG := Aside0.mk hg; clear hr hg hup)
  obtain ⟨m, rfl⟩ := Int.eq_ofNat_of_zero_le hn0
  go_loopw [7, 8, 12] (fun v7 _ v12 wr => ∃ (j : Nat) (xs : List (Src)), j ≤ m ∧ v12 = .int .i64 j ∧ xs.length = j ∧ (∀ x ∈ xs, G x) ∧ Kd.R kSrc 119 wr w.heap.size (fun q => q ≠ rb) v7 xs ∧ (∃ f, RS w0 rb f wr) ∧ w.grownBy wr (some rb)) (fun _ _ v12 _ => m - (intOf v12).toNat)
  case atStart => exact ⟨0, [], Nat.zero_le _, rfl, rfl, by simp, Kd.R_nil _ _ _ _ _, ⟨_, HR.out⟩, HG.out⟩
  case round =>
    obtain ⟨j, xs, hj, rfl, hxl, hxg, hR, ⟨f2, hrs⟩, hgr⟩ := hrel
    have HXL := Aside0.mk hxl
    have HXG := Aside0.mk hxg
    have HRR := Aside0.mk hR
    have HGR := Aside0.mk hgr
    have HRS := Aside0.mk hrs
    clear hxl hxg hR hgr hrs HR HG
    by_cases hlt : j < m
    · have hc := H1.out f2 wr HRS.out
      go_upto_region 5 with (go_at_call 52; refine (show Calls _ _ _ _ _ from hc).mono ?_; rintro e w2 ⟨⟨x, cs, rfl, hM, hG⟩, ⟨f3, hr⟩, hg⟩; have hcs := kSrc_openM hM; rw [hcs] at hM; subst hcs; have HM := Aside0.mk hM; have HG2 := Aside0.mk hg; have HR2 := Aside0.mk hr; have HGX := Aside0.mk hG; clear hM hg hr hG hc; simp only [encA, List.headD_cons])
      generalize hW3 : w2.alloc (.cells #[.string x.name, .int .i64 x.time, .int .i64 x.at_] 119) = W3
      have hb3 : Below w2.heap.size w2 W3 := by rw [← hW3]; exact (Below.refl _ _).alloc (Nat.le_refl _) _
      have hbk : W3.heap[w2.heap.size]? = some (.cells #[.string x.name, .int .i64 x.time, .int .i64 x.at_] 119 (0, 0)) := by rw [← hW3]; exact blk_new _ _
      have HR3 := Aside0.mk (HR2.out.kept hb3)
      have HG3 := Aside0.mk (World.grownBy.trans HGR.out (World.grownBy.trans HG2.out (grown_of_below hb3 _)))
      have HRR3 := Aside0.mk (Kd.R_below (R_grownS HRR.out HG2.out) hb3)
      have HM3 := Aside0.mk (kSrc.M_lower HGR.out.size (Kd.M_below HM.out hb3))
      obtain ⟨rA, rn, rc, d0, d1⟩ := HR3.out.cells
      have b0 := blk_cell hbk 0
      have b1 := blk_cell hbk 1
      have b2 := blk_cell hbk 2
      clear hW3 hb3 hbk HRR HM HGR HG2 HRS HR2
      by_cases hf : f3 = 0
      · subst hf
        have HXX := Aside0.mk (show xs.length < 1000 by have := HXL.out; omega)
        have HLT := Aside0.mk (show (xs.length + 1) * 1000 ≤ 140737488355328 by have := HXX.out; omega)
        have HSZ := Aside0.mk (show w.heap.size ≤ W3.heap.size from HG3.out.size)
        have HRB := Aside0.mk (show ∀ k, W3.heap.size ≤ k → k ≠ rb from fun k hk => by have := HR3.out.lt; omega)
        obtain ⟨inner, hown⟩ := Kd.R_own HRR3.out
        have HMA := Aside0.mk (M_apart HM3.out hown (by decide))
        have HROW := Aside0.mk (fun k hk => own_base hown k hk)
        have HNR := Aside0.mk (fun (e : some rb = _) => (HRR3.out.1 rb e.symm) rfl)
        clear hown d0
        go_wp2_with (at_builtin; refine Kd.R_append kSrc (w0 := W3) w.heap.size rfl (.tmp 22) (.tmp 24) 34 119 (.agg #[.string ⟨#[]⟩, .int .i64 0, .int .i64 0]) 32 rfl Tryz.underlying34 infoSrc1 rfl (by decide) (by omega) _ xs x [.string x.name, .int .i64 x.time, .int .i64 x.at_] (fun q => q ≠ rb) (fun q => q ≠ rb ∧ _) rfl rfl HMA.out (fun _ hk => hk) HRB.out HRR3.out (Below.refl _ _) HSZ.out (Nat.le_trans (Nat.mul_le_mul_left _ (by decide)) HLT.out) ?_; intro v1 w4 hr hb hg hat; have HR4 := Aside0.mk hr; have HG4 := Aside0.mk (grown_own HG3.out hg HROW.out); have HRS4 := Aside0.mk (show ∃ f, RS w0 rb f w4 from ⟨_, HR3.out.grown hg HNR.out (fun k hk => Nat.le_trans HW0.out (HROW.out k hk))⟩); clear hr hb hg hat)
        go_roundw
        case rel =>
          refine ⟨j + 1, xs ++ [x], by omega, by simp, by rw [List.length_append, List.length_singleton, HXL.out], ?_, HR4.out, HRS4.out, HG4.out⟩
          intro y hy
          rcases List.mem_append.1 hy with hy | hy
          · exact HXG.out y hy
          · rw [List.mem_singleton.1 hy]; exact HGX.out
        case measure => simp [intOf]; omega
      · have hf2 : (f3 != 0) = true := by simpa using hf
        go_wp2_with fail
        exact bodyPost_ret (v := .slice none 0 0) (by simp [results, Tryz.results81, go_sem]) rfl ⟨⟨[], [.slice none 0 0], rfl, ⟨_, rfl, Kd.R_nil _ _ _ _ _⟩, by simp, by simp⟩, ⟨_, HR3.out⟩, HG3.out⟩
    · obtain rfl : j = m := by omega
      obtain ⟨A, c, rfl⟩ := Kd.R_slice HRR.out
      obtain ⟨n, hn⟩ : ∃ n, xs.length = n := ⟨_, rfl⟩
      rw [hn] at HRR ⊢
      clear hn
      go_wp2
      exact bodyPost_ret (v := .slice A n c) (by simp [results, Tryz.results81, go_sem]) rfl ⟨⟨xs, [.slice A n c], rfl, ⟨_, rfl, HRR.out⟩, by have := HXL.out; omega, HXG.out⟩, ⟨_, HRS.out⟩, HGR.out⟩

set_option maxRecDepth 100000 in
set_option maxHeartbeats 8000000 in
theorem TakeSen_calls (w0 : World) (rb : Nat) (G : Sen → Prop) (h1 : ∀ f W, RS w0 rb f W → Calls Tryz.prog 54 #[.pointer (some ⟨rb, 0, none⟩)] W (TakeAns kSen encA G w0 rb W)) (f : Int) (w : World) (h : RS w0 rb f w) :
    Calls Tryz.prog 82 #[.pointer (some ⟨rb, 0, none⟩), .int .i64 1000, .func (.func 54) #[] #[]] w (TakeAns (Kd.slice 122 kSen) enc1 (gList G) w0 rb w) := by
  have hup := up_calls w0 rb f 1000 (by omega) w h
  have H1 := Aside0.mk h1
  have HW0 := Aside0.mk (show w0.heap.size ≤ w.heap.size from h.1.size)
  clear h1 h
  go_enter Tryz.func82, Tryz.ntmps82
  go_wp2_with (go_at_call 63; refine hup.mono ?_; rintro e w1 ⟨⟨n, rfl, hn0, hn1⟩, ⟨f1, hr⟩, hg⟩; have HR := Aside0.mk hr; have HG := Aside0.mk hg; clear hr hg hup)
  obtain ⟨m, rfl⟩ := Int.eq_ofNat_of_zero_le hn0
  go_loopw [7, 8, 12] (fun v7 _ v12 wr => ∃ (j : Nat) (xs : List (Sen)), j ≤ m ∧ v12 = .int .i64 j ∧ xs.length = j ∧ (∀ x ∈ xs, G x) ∧ Kd.R kSen 122 wr w.heap.size (fun q => q ≠ rb) v7 xs ∧ (∃ f, RS w0 rb f wr) ∧ w.grownBy wr (some rb)) (fun _ _ v12 _ => m - (intOf v12).toNat)
  case atStart => exact ⟨0, [], Nat.zero_le _, rfl, rfl, by simp, Kd.R_nil _ _ _ _ _, ⟨_, HR.out⟩, HG.out⟩
  case round =>
    obtain ⟨j, xs, hj, rfl, hxl, hxg, hR, ⟨f2, hrs⟩, hgr⟩ := hrel
    have HXL := Aside0.mk hxl
    have HXG := Aside0.mk hxg
    have HRR := Aside0.mk hR
    have HGR := Aside0.mk hgr
    have HRS := Aside0.mk hrs
    clear hxl hxg hR hgr hrs HR HG
    by_cases hlt : j < m
    · have hc := H1.out f2 wr HRS.out
      go_upto_region 5 with (go_at_call 54; refine (show Calls _ _ _ _ _ from hc).mono ?_; rintro e w2 ⟨⟨x, cs, rfl, hM, hG⟩, ⟨f3, hr⟩, hg⟩; obtain ⟨v_seqs, hcs, o_seqs⟩ := kSen_openM hM; obtain ⟨A_seqs, n_seqs, c_seqs, e_seqs⟩ := R_sl o_seqs; subst e_seqs; clear o_seqs; rw [hcs] at hM; subst hcs; have HM := Aside0.mk hM; have HG2 := Aside0.mk hg; have HR2 := Aside0.mk hr; have HGX := Aside0.mk hG; clear hM hg hr hG hc; simp only [encA, List.headD_cons])
      generalize hW3 : w2.alloc (.cells #[.string x.name, .int .i64 x.floor, .slice A_seqs n_seqs c_seqs] 122) = W3
      have hb3 : Below w2.heap.size w2 W3 := by rw [← hW3]; exact (Below.refl _ _).alloc (Nat.le_refl _) _
      have hbk : W3.heap[w2.heap.size]? = some (.cells #[.string x.name, .int .i64 x.floor, .slice A_seqs n_seqs c_seqs] 122 (0, 0)) := by rw [← hW3]; exact blk_new _ _
      have HR3 := Aside0.mk (HR2.out.kept hb3)
      have HG3 := Aside0.mk (World.grownBy.trans HGR.out (World.grownBy.trans HG2.out (grown_of_below hb3 _)))
      have HRR3 := Aside0.mk (Kd.R_below (R_grownS HRR.out HG2.out) hb3)
      have HM3 := Aside0.mk (kSen.M_lower HGR.out.size (Kd.M_below HM.out hb3))
      obtain ⟨rA, rn, rc, d0, d1⟩ := HR3.out.cells
      have b0 := blk_cell hbk 0
      have b1 := blk_cell hbk 1
      have b2 := blk_cell hbk 2
      clear hW3 hb3 hbk HRR HM HGR HG2 HRS HR2
      by_cases hf : f3 = 0
      · subst hf
        have HXX := Aside0.mk (show xs.length < 1000 by have := HXL.out; omega)
        have HLT := Aside0.mk (show (xs.length + 1) * 1000 ≤ 140737488355328 by have := HXX.out; omega)
        have HSZ := Aside0.mk (show w.heap.size ≤ W3.heap.size from HG3.out.size)
        have HRB := Aside0.mk (show ∀ k, W3.heap.size ≤ k → k ≠ rb from fun k hk => by have := HR3.out.lt; omega)
        obtain ⟨inner, hown⟩ := Kd.R_own HRR3.out
        have HMA := Aside0.mk (M_apart HM3.out hown (by decide))
        have HROW := Aside0.mk (fun k hk => own_base hown k hk)
        have HNR := Aside0.mk (fun (e : some rb = _) => (HRR3.out.1 rb e.symm) rfl)
        clear hown d0
        go_wp2_with (at_builtin; refine Kd.R_append kSen (w0 := W3) w.heap.size rfl (.tmp 22) (.tmp 24) 37 122 (.agg #[.string ⟨#[]⟩, .int .i64 0, .slice none 0 0]) 48 rfl Tryz.underlying37 infoSen1 rfl (by decide) (by omega) _ xs x [.string x.name, .int .i64 x.floor, .slice A_seqs n_seqs c_seqs] (fun q => q ≠ rb) (fun q => q ≠ rb ∧ _) rfl rfl HMA.out (fun _ hk => hk) HRB.out HRR3.out (Below.refl _ _) HSZ.out (Nat.le_trans (Nat.mul_le_mul_left _ (by decide)) HLT.out) ?_; intro v1 w4 hr hb hg hat; have HR4 := Aside0.mk hr; have HG4 := Aside0.mk (grown_own HG3.out hg HROW.out); have HRS4 := Aside0.mk (show ∃ f, RS w0 rb f w4 from ⟨_, HR3.out.grown hg HNR.out (fun k hk => Nat.le_trans HW0.out (HROW.out k hk))⟩); clear hr hb hg hat)
        go_roundw
        case rel =>
          refine ⟨j + 1, xs ++ [x], by omega, by simp, by rw [List.length_append, List.length_singleton, HXL.out], ?_, HR4.out, HRS4.out, HG4.out⟩
          intro y hy
          rcases List.mem_append.1 hy with hy | hy
          · exact HXG.out y hy
          · rw [List.mem_singleton.1 hy]; exact HGX.out
        case measure => simp [intOf]; omega
      · have hf2 : (f3 != 0) = true := by simpa using hf
        go_wp2_with fail
        exact bodyPost_ret (v := .slice none 0 0) (by simp [results, Tryz.results82, go_sem]) rfl ⟨⟨[], [.slice none 0 0], rfl, ⟨_, rfl, Kd.R_nil _ _ _ _ _⟩, by simp, by simp⟩, ⟨_, HR3.out⟩, HG3.out⟩
    · obtain rfl : j = m := by omega
      obtain ⟨A, c, rfl⟩ := Kd.R_slice HRR.out
      obtain ⟨n, hn⟩ : ∃ n, xs.length = n := ⟨_, rfl⟩
      rw [hn] at HRR ⊢
      clear hn
      go_wp2
      exact bodyPost_ret (v := .slice A n c) (by simp [results, Tryz.results82, go_sem]) rfl ⟨⟨xs, [.slice A n c], rfl, ⟨_, rfl, HRR.out⟩, by have := HXL.out; omega, HXG.out⟩, ⟨_, HRS.out⟩, HGR.out⟩

set_option maxRecDepth 100000 in
set_option maxHeartbeats 8000000 in
theorem TakeCel_calls (w0 : World) (rb : Nat) (G : Cel → Prop) (h1 : ∀ f W, RS w0 rb f W → Calls Tryz.prog 56 #[.pointer (some ⟨rb, 0, none⟩)] W (TakeAns kCel encA G w0 rb W)) (f : Int) (w : World) (h : RS w0 rb f w) :
    Calls Tryz.prog 84 #[.pointer (some ⟨rb, 0, none⟩), .int .i64 1000, .func (.func 56) #[] #[]] w (TakeAns (Kd.slice 104 kCel) enc1 (gList G) w0 rb w) := by
  have hup := up_calls w0 rb f 1000 (by omega) w h
  have H1 := Aside0.mk h1
  have HW0 := Aside0.mk (show w0.heap.size ≤ w.heap.size from h.1.size)
  clear h1 h
  go_enter Tryz.func84, Tryz.ntmps84
  go_wp2_with (go_at_call 63; refine hup.mono ?_; rintro e w1 ⟨⟨n, rfl, hn0, hn1⟩, ⟨f1, hr⟩, hg⟩; have HR := Aside0.mk hr; have HG := Aside0.mk hg; clear hr hg hup)
  obtain ⟨m, rfl⟩ := Int.eq_ofNat_of_zero_le hn0
  go_loopw [7, 8, 12] (fun v7 _ v12 wr => ∃ (j : Nat) (xs : List (Cel)), j ≤ m ∧ v12 = .int .i64 j ∧ xs.length = j ∧ (∀ x ∈ xs, G x) ∧ Kd.R kCel 104 wr w.heap.size (fun q => q ≠ rb) v7 xs ∧ (∃ f, RS w0 rb f wr) ∧ w.grownBy wr (some rb)) (fun _ _ v12 _ => m - (intOf v12).toNat)
  case atStart => exact ⟨0, [], Nat.zero_le _, rfl, rfl, by simp, Kd.R_nil _ _ _ _ _, ⟨_, HR.out⟩, HG.out⟩
  case round =>
    obtain ⟨j, xs, hj, rfl, hxl, hxg, hR, ⟨f2, hrs⟩, hgr⟩ := hrel
    have HXL := Aside0.mk hxl
    have HXG := Aside0.mk hxg
    have HRR := Aside0.mk hR
    have HGR := Aside0.mk hgr
    have HRS := Aside0.mk hrs
    clear hxl hxg hR hgr hrs HR HG
    by_cases hlt : j < m
    · have hc := H1.out f2 wr HRS.out
      go_upto_region 5 with (go_at_call 56; refine (show Calls _ _ _ _ _ from hc).mono ?_; rintro e w2 ⟨⟨x, cs, rfl, hM, hG⟩, ⟨f3, hr⟩, hg⟩; obtain ⟨v_labels, v_vsamples, v_vmembers, hcs, o_labels, o_vsamples, o_vmembers⟩ := kCel_openM hM; obtain ⟨A_labels, n_labels, c_labels, e1_⟩ := R_sl o_labels; obtain ⟨A_vsamples, n_vsamples, c_vsamples, e2_⟩ := R_sl o_vsamples; obtain ⟨A_vmembers, n_vmembers, c_vmembers, e3_⟩ := R_sl o_vmembers; subst e1_; subst e2_; subst e3_; clear o_labels o_vsamples o_vmembers; rw [hcs] at hM; subst hcs; have HM := Aside0.mk hM; have HG2 := Aside0.mk hg; have HR2 := Aside0.mk hr; have HGX := Aside0.mk hG; clear hM hg hr hG hc; simp only [encA, List.headD_cons])
      generalize hW3 : w2.alloc (.cells #[.string x.metric, .slice A_labels n_labels c_labels, .int .i64 x.policy, .int .i64 x.start, .int .i64 x.rev, .bool x.dirty, .int .i64 x.vat.kind, .int .i64 x.vat.many, .int .i64 x.vat.high, .int .i64 x.vat.low, .int .i64 x.vat.last, .int .i64 x.vat.time, .int .i64 x.vat.seq, .string x.vat.source, .slice A_vsamples n_vsamples c_vsamples, .slice A_vmembers n_vmembers c_vmembers] 104) = W3
      have hb3 : Below w2.heap.size w2 W3 := by rw [← hW3]; exact (Below.refl _ _).alloc (Nat.le_refl _) _
      have hbk : W3.heap[w2.heap.size]? = some (.cells #[.string x.metric, .slice A_labels n_labels c_labels, .int .i64 x.policy, .int .i64 x.start, .int .i64 x.rev, .bool x.dirty, .int .i64 x.vat.kind, .int .i64 x.vat.many, .int .i64 x.vat.high, .int .i64 x.vat.low, .int .i64 x.vat.last, .int .i64 x.vat.time, .int .i64 x.vat.seq, .string x.vat.source, .slice A_vsamples n_vsamples c_vsamples, .slice A_vmembers n_vmembers c_vmembers] 104 (0, 0)) := by rw [← hW3]; exact blk_new _ _
      have HR3 := Aside0.mk (HR2.out.kept hb3)
      have HG3 := Aside0.mk (World.grownBy.trans HGR.out (World.grownBy.trans HG2.out (grown_of_below hb3 _)))
      have HRR3 := Aside0.mk (Kd.R_below (R_grownS HRR.out HG2.out) hb3)
      have HM3 := Aside0.mk (kCel.M_lower HGR.out.size (Kd.M_below HM.out hb3))
      obtain ⟨rA, rn, rc, d0, d1⟩ := HR3.out.cells
      have b0 := blk_cell hbk 0
      have b1 := blk_cell hbk 1
      have b2 := blk_cell hbk 2
      have b3 := blk_cell hbk 3
      have b4 := blk_cell hbk 4
      have b5 := blk_cell hbk 5
      have b6 := blk_cell hbk 6
      have b7 := blk_cell hbk 7
      have b8 := blk_cell hbk 8
      have b9 := blk_cell hbk 9
      have b10 := blk_cell hbk 10
      have b11 := blk_cell hbk 11
      have b12 := blk_cell hbk 12
      have b13 := blk_cell hbk 13
      have b14 := blk_cell hbk 14
      have b15 := blk_cell hbk 15
      clear hW3 hb3 hbk HRR HM HGR HG2 HRS HR2
      by_cases hf : f3 = 0
      · subst hf
        have HXX := Aside0.mk (show xs.length < 1000 by have := HXL.out; omega)
        have HLT := Aside0.mk (show (xs.length + 1) * 1000 ≤ 140737488355328 by have := HXX.out; omega)
        have HSZ := Aside0.mk (show w.heap.size ≤ W3.heap.size from HG3.out.size)
        have HRB := Aside0.mk (show ∀ k, W3.heap.size ≤ k → k ≠ rb from fun k hk => by have := HR3.out.lt; omega)
        obtain ⟨inner, hown⟩ := Kd.R_own HRR3.out
        have HMA := Aside0.mk (M_apart HM3.out hown (by decide))
        have HROW := Aside0.mk (fun k hk => own_base hown k hk)
        have HNR := Aside0.mk (fun (e : some rb = _) => (HRR3.out.1 rb e.symm) rfl)
        clear hown d0
        go_wp2_with (at_builtin; refine Kd.R_append kCel (w0 := W3) w.heap.size rfl (.tmp 22) (.tmp 24) 40 104 (.agg #[.string ⟨#[]⟩, .slice none 0 0, .int .i64 0, .int .i64 0, .int .i64 0, .bool false, .int .i64 0, .int .i64 0, .int .i64 0, .int .i64 0, .int .i64 0, .int .i64 0, .int .i64 0, .string ⟨#[]⟩, .slice none 0 0, .slice none 0 0]) 192 rfl Tryz.underlying40 infoCel1 rfl (by decide) (by omega) _ xs x [.string x.metric, .slice A_labels n_labels c_labels, .int .i64 x.policy, .int .i64 x.start, .int .i64 x.rev, .bool x.dirty, .int .i64 x.vat.kind, .int .i64 x.vat.many, .int .i64 x.vat.high, .int .i64 x.vat.low, .int .i64 x.vat.last, .int .i64 x.vat.time, .int .i64 x.vat.seq, .string x.vat.source, .slice A_vsamples n_vsamples c_vsamples, .slice A_vmembers n_vmembers c_vmembers] (fun q => q ≠ rb) (fun q => q ≠ rb ∧ _) rfl rfl HMA.out (fun _ hk => hk) HRB.out HRR3.out (Below.refl _ _) HSZ.out (Nat.le_trans (Nat.mul_le_mul_left _ (by decide)) HLT.out) ?_; intro v1 w4 hr hb hg hat; have HR4 := Aside0.mk hr; have HG4 := Aside0.mk (grown_own HG3.out hg HROW.out); have HRS4 := Aside0.mk (show ∃ f, RS w0 rb f w4 from ⟨_, HR3.out.grown hg HNR.out (fun k hk => Nat.le_trans HW0.out (HROW.out k hk))⟩); clear hr hb hg hat)
        go_roundw
        case rel =>
          refine ⟨j + 1, xs ++ [x], by omega, by simp, by rw [List.length_append, List.length_singleton, HXL.out], ?_, HR4.out, HRS4.out, HG4.out⟩
          intro y hy
          rcases List.mem_append.1 hy with hy | hy
          · exact HXG.out y hy
          · rw [List.mem_singleton.1 hy]; exact HGX.out
        case measure => simp [intOf]; omega
      · have hf2 : (f3 != 0) = true := by simpa using hf
        go_wp2_with fail
        exact bodyPost_ret (v := .slice none 0 0) (by simp [results, Tryz.results84, go_sem]) rfl ⟨⟨[], [.slice none 0 0], rfl, ⟨_, rfl, Kd.R_nil _ _ _ _ _⟩, by simp, by simp⟩, ⟨_, HR3.out⟩, HG3.out⟩
    · obtain rfl : j = m := by omega
      obtain ⟨A, c, rfl⟩ := Kd.R_slice HRR.out
      obtain ⟨n, hn⟩ : ∃ n, xs.length = n := ⟨_, rfl⟩
      rw [hn] at HRR ⊢
      clear hn
      go_wp2
      exact bodyPost_ret (v := .slice A n c) (by simp [results, Tryz.results84, go_sem]) rfl ⟨⟨xs, [.slice A n c], rfl, ⟨_, rfl, HRR.out⟩, by have := HXL.out; omega, HXG.out⟩, ⟨_, HRS.out⟩, HGR.out⟩

set_option maxRecDepth 100000 in
set_option maxHeartbeats 8000000 in
theorem TakeEmi_calls (w0 : World) (rb : Nat) (G : Emi → Prop) (h1 : ∀ f W, RS w0 rb f W → Calls Tryz.prog 14 #[.pointer (some ⟨rb, 0, none⟩)] W (TakeAns kEmi encA G w0 rb W)) (f : Int) (w : World) (h : RS w0 rb f w) :
    Calls Tryz.prog 88 #[.pointer (some ⟨rb, 0, none⟩), .int .i64 1000, .func (.func 14) #[] #[]] w (TakeAns (Kd.slice 30 kEmi) enc1 (gList G) w0 rb w) := by
  have hup := up_calls w0 rb f 1000 (by omega) w h
  have H1 := Aside0.mk h1
  have HW0 := Aside0.mk (show w0.heap.size ≤ w.heap.size from h.1.size)
  clear h1 h
  go_enter Tryz.func88, Tryz.ntmps88
  go_wp2_with (go_at_call 63; refine hup.mono ?_; rintro e w1 ⟨⟨n, rfl, hn0, hn1⟩, ⟨f1, hr⟩, hg⟩; have HR := Aside0.mk hr; have HG := Aside0.mk hg; clear hr hg hup)
  obtain ⟨m, rfl⟩ := Int.eq_ofNat_of_zero_le hn0
  go_loopw [7, 8, 12] (fun v7 _ v12 wr => ∃ (j : Nat) (xs : List (Emi)), j ≤ m ∧ v12 = .int .i64 j ∧ xs.length = j ∧ (∀ x ∈ xs, G x) ∧ Kd.R kEmi 30 wr w.heap.size (fun q => q ≠ rb) v7 xs ∧ (∃ f, RS w0 rb f wr) ∧ w.grownBy wr (some rb)) (fun _ _ v12 _ => m - (intOf v12).toNat)
  case atStart => exact ⟨0, [], Nat.zero_le _, rfl, rfl, by simp, Kd.R_nil _ _ _ _ _, ⟨_, HR.out⟩, HG.out⟩
  case round =>
    obtain ⟨j, xs, hj, rfl, hxl, hxg, hR, ⟨f2, hrs⟩, hgr⟩ := hrel
    have HXL := Aside0.mk hxl
    have HXG := Aside0.mk hxg
    have HRR := Aside0.mk hR
    have HGR := Aside0.mk hgr
    have HRS := Aside0.mk hrs
    clear hxl hxg hR hgr hrs HR HG
    by_cases hlt : j < m
    · have hc := H1.out f2 wr HRS.out
      go_upto_region 5 with (go_at_call 14; refine (show Calls _ _ _ _ _ from hc).mono ?_; rintro e w2 ⟨⟨x, cs, rfl, hM, hG⟩, ⟨f3, hr⟩, hg⟩; have hcs := kEmi_openM hM; rw [hcs] at hM; subst hcs; have HM := Aside0.mk hM; have HG2 := Aside0.mk hg; have HR2 := Aside0.mk hr; have HGX := Aside0.mk hG; clear hM hg hr hG hc; simp only [encA, List.headD_cons])
      generalize hW3 : w2.alloc (.cells #[.string x.key, .string x.policy, .int .i64 x.kind, .int .i64 x.start, .int .i64 x.rev, .bool x.final, .int .i64 x.rkind, .int .i64 x.count, .int .i64 x.sum, .int .i64 x.min, .int .i64 x.max, .int .i64 x.q0, .int .i64 x.q1, .int .i64 x.q2, .bool x.over] 30) = W3
      have hb3 : Below w2.heap.size w2 W3 := by rw [← hW3]; exact (Below.refl _ _).alloc (Nat.le_refl _) _
      have hbk : W3.heap[w2.heap.size]? = some (.cells #[.string x.key, .string x.policy, .int .i64 x.kind, .int .i64 x.start, .int .i64 x.rev, .bool x.final, .int .i64 x.rkind, .int .i64 x.count, .int .i64 x.sum, .int .i64 x.min, .int .i64 x.max, .int .i64 x.q0, .int .i64 x.q1, .int .i64 x.q2, .bool x.over] 30 (0, 0)) := by rw [← hW3]; exact blk_new _ _
      have HR3 := Aside0.mk (HR2.out.kept hb3)
      have HG3 := Aside0.mk (World.grownBy.trans HGR.out (World.grownBy.trans HG2.out (grown_of_below hb3 _)))
      have HRR3 := Aside0.mk (Kd.R_below (R_grownS HRR.out HG2.out) hb3)
      have HM3 := Aside0.mk (kEmi.M_lower HGR.out.size (Kd.M_below HM.out hb3))
      obtain ⟨rA, rn, rc, d0, d1⟩ := HR3.out.cells
      have b0 := blk_cell hbk 0
      have b1 := blk_cell hbk 1
      have b2 := blk_cell hbk 2
      have b3 := blk_cell hbk 3
      have b4 := blk_cell hbk 4
      have b5 := blk_cell hbk 5
      have b6 := blk_cell hbk 6
      have b7 := blk_cell hbk 7
      have b8 := blk_cell hbk 8
      have b9 := blk_cell hbk 9
      have b10 := blk_cell hbk 10
      have b11 := blk_cell hbk 11
      have b12 := blk_cell hbk 12
      have b13 := blk_cell hbk 13
      have b14 := blk_cell hbk 14
      clear hW3 hb3 hbk HRR HM HGR HG2 HRS HR2
      by_cases hf : f3 = 0
      · subst hf
        have HXX := Aside0.mk (show xs.length < 1000 by have := HXL.out; omega)
        have HLT := Aside0.mk (show (xs.length + 1) * 1000 ≤ 140737488355328 by have := HXX.out; omega)
        have HSZ := Aside0.mk (show w.heap.size ≤ W3.heap.size from HG3.out.size)
        have HRB := Aside0.mk (show ∀ k, W3.heap.size ≤ k → k ≠ rb from fun k hk => by have := HR3.out.lt; omega)
        obtain ⟨inner, hown⟩ := Kd.R_own HRR3.out
        have HMA := Aside0.mk (M_apart HM3.out hown (by decide))
        have HROW := Aside0.mk (fun k hk => own_base hown k hk)
        have HNR := Aside0.mk (fun (e : some rb = _) => (HRR3.out.1 rb e.symm) rfl)
        clear hown d0
        go_wp2_with (at_builtin; refine Kd.R_append kEmi (w0 := W3) w.heap.size rfl (.tmp 22) (.tmp 24) 41 30 (.agg #[.string ⟨#[]⟩, .string ⟨#[]⟩, .int .i64 0, .int .i64 0, .int .i64 0, .bool false, .int .i64 0, .int .i64 0, .int .i64 0, .int .i64 0, .int .i64 0, .int .i64 0, .int .i64 0, .int .i64 0, .bool false]) 136 rfl Tryz.underlying41 infoEmi1 rfl (by decide) (by omega) _ xs x [.string x.key, .string x.policy, .int .i64 x.kind, .int .i64 x.start, .int .i64 x.rev, .bool x.final, .int .i64 x.rkind, .int .i64 x.count, .int .i64 x.sum, .int .i64 x.min, .int .i64 x.max, .int .i64 x.q0, .int .i64 x.q1, .int .i64 x.q2, .bool x.over] (fun q => q ≠ rb) (fun q => q ≠ rb ∧ _) rfl rfl HMA.out (fun _ hk => hk) HRB.out HRR3.out (Below.refl _ _) HSZ.out (Nat.le_trans (Nat.mul_le_mul_left _ (by decide)) HLT.out) ?_; intro v1 w4 hr hb hg hat; have HR4 := Aside0.mk hr; have HG4 := Aside0.mk (grown_own HG3.out hg HROW.out); have HRS4 := Aside0.mk (show ∃ f, RS w0 rb f w4 from ⟨_, HR3.out.grown hg HNR.out (fun k hk => Nat.le_trans HW0.out (HROW.out k hk))⟩); clear hr hb hg hat)
        go_roundw
        case rel =>
          refine ⟨j + 1, xs ++ [x], by omega, by simp, by rw [List.length_append, List.length_singleton, HXL.out], ?_, HR4.out, HRS4.out, HG4.out⟩
          intro y hy
          rcases List.mem_append.1 hy with hy | hy
          · exact HXG.out y hy
          · rw [List.mem_singleton.1 hy]; exact HGX.out
        case measure => simp [intOf]; omega
      · have hf2 : (f3 != 0) = true := by simpa using hf
        go_wp2_with fail
        exact bodyPost_ret (v := .slice none 0 0) (by simp [results, Tryz.results88, go_sem]) rfl ⟨⟨[], [.slice none 0 0], rfl, ⟨_, rfl, Kd.R_nil _ _ _ _ _⟩, by simp, by simp⟩, ⟨_, HR3.out⟩, HG3.out⟩
    · obtain rfl : j = m := by omega
      obtain ⟨A, c, rfl⟩ := Kd.R_slice HRR.out
      obtain ⟨n, hn⟩ : ∃ n, xs.length = n := ⟨_, rfl⟩
      rw [hn] at HRR ⊢
      clear hn
      go_wp2
      exact bodyPost_ret (v := .slice A n c) (by simp [results, Tryz.results88, go_sem]) rfl ⟨⟨xs, [.slice A n c], rfl, ⟨_, rfl, HRR.out⟩, by have := HXL.out; omega, HXG.out⟩, ⟨_, HRS.out⟩, HGR.out⟩

set_option maxRecDepth 100000 in
set_option maxHeartbeats 8000000 in
theorem TakeLab_calls (w0 : World) (rb : Nat) (G : Lab → Prop) (h1 : ∀ f W, RS w0 rb f W → Calls Tryz.prog 86 #[.pointer (some ⟨rb, 0, none⟩)] W (TakeAns kLab encA G w0 rb W)) (f : Int) (w : World) (h : RS w0 rb f w) :
    Calls Tryz.prog 104 #[.pointer (some ⟨rb, 0, none⟩), .int .i64 1000, .func (.func 86) #[] #[]] w (TakeAns (Kd.slice 98 kLab) enc1 (gList G) w0 rb w) := by
  have hup := up_calls w0 rb f 1000 (by omega) w h
  have H1 := Aside0.mk h1
  have HW0 := Aside0.mk (show w0.heap.size ≤ w.heap.size from h.1.size)
  clear h1 h
  go_enter Tryz.func104, Tryz.ntmps104
  go_wp2_with (go_at_call 63; refine hup.mono ?_; rintro e w1 ⟨⟨n, rfl, hn0, hn1⟩, ⟨f1, hr⟩, hg⟩; have HR := Aside0.mk hr; have HG := Aside0.mk hg; clear hr hg hup)
  obtain ⟨m, rfl⟩ := Int.eq_ofNat_of_zero_le hn0
  go_loopw [7, 8, 12] (fun v7 _ v12 wr => ∃ (j : Nat) (xs : List (Lab)), j ≤ m ∧ v12 = .int .i64 j ∧ xs.length = j ∧ (∀ x ∈ xs, G x) ∧ Kd.R kLab 98 wr w.heap.size (fun q => q ≠ rb) v7 xs ∧ (∃ f, RS w0 rb f wr) ∧ w.grownBy wr (some rb)) (fun _ _ v12 _ => m - (intOf v12).toNat)
  case atStart => exact ⟨0, [], Nat.zero_le _, rfl, rfl, by simp, Kd.R_nil _ _ _ _ _, ⟨_, HR.out⟩, HG.out⟩
  case round =>
    obtain ⟨j, xs, hj, rfl, hxl, hxg, hR, ⟨f2, hrs⟩, hgr⟩ := hrel
    have HXL := Aside0.mk hxl
    have HXG := Aside0.mk hxg
    have HRR := Aside0.mk hR
    have HGR := Aside0.mk hgr
    have HRS := Aside0.mk hrs
    clear hxl hxg hR hgr hrs HR HG
    by_cases hlt : j < m
    · have hc := H1.out f2 wr HRS.out
      go_upto_region 5 with (go_at_call 86; refine (show Calls _ _ _ _ _ from hc).mono ?_; rintro e w2 ⟨⟨x, cs, rfl, hM, hG⟩, ⟨f3, hr⟩, hg⟩; have hcs := kLab_openM hM; rw [hcs] at hM; subst hcs; have HM := Aside0.mk hM; have HG2 := Aside0.mk hg; have HR2 := Aside0.mk hr; have HGX := Aside0.mk hG; clear hM hg hr hG hc; simp only [encA, List.headD_cons])
      generalize hW3 : w2.alloc (.cells #[.string x.name, .string x.value] 98) = W3
      have hb3 : Below w2.heap.size w2 W3 := by rw [← hW3]; exact (Below.refl _ _).alloc (Nat.le_refl _) _
      have hbk : W3.heap[w2.heap.size]? = some (.cells #[.string x.name, .string x.value] 98 (0, 0)) := by rw [← hW3]; exact blk_new _ _
      have HR3 := Aside0.mk (HR2.out.kept hb3)
      have HG3 := Aside0.mk (World.grownBy.trans HGR.out (World.grownBy.trans HG2.out (grown_of_below hb3 _)))
      have HRR3 := Aside0.mk (Kd.R_below (R_grownS HRR.out HG2.out) hb3)
      have HM3 := Aside0.mk (kLab.M_lower HGR.out.size (Kd.M_below HM.out hb3))
      obtain ⟨rA, rn, rc, d0, d1⟩ := HR3.out.cells
      have b0 := blk_cell hbk 0
      have b1 := blk_cell hbk 1
      clear hW3 hb3 hbk HRR HM HGR HG2 HRS HR2
      by_cases hf : f3 = 0
      · subst hf
        have HXX := Aside0.mk (show xs.length < 1000 by have := HXL.out; omega)
        have HLT := Aside0.mk (show (xs.length + 1) * 1000 ≤ 140737488355328 by have := HXX.out; omega)
        have HSZ := Aside0.mk (show w.heap.size ≤ W3.heap.size from HG3.out.size)
        have HRB := Aside0.mk (show ∀ k, W3.heap.size ≤ k → k ≠ rb from fun k hk => by have := HR3.out.lt; omega)
        obtain ⟨inner, hown⟩ := Kd.R_own HRR3.out
        have HMA := Aside0.mk (M_apart HM3.out hown (by decide))
        have HROW := Aside0.mk (fun k hk => own_base hown k hk)
        have HNR := Aside0.mk (fun (e : some rb = _) => (HRR3.out.1 rb e.symm) rfl)
        clear hown d0
        go_wp2_with (at_builtin; refine Kd.R_append kLab (w0 := W3) w.heap.size rfl (.tmp 22) (.tmp 24) 89 98 (.agg #[.string ⟨#[]⟩, .string ⟨#[]⟩]) 32 rfl Tryz.underlying89 infoLab1 rfl (by decide) (by omega) _ xs x [.string x.name, .string x.value] (fun q => q ≠ rb) (fun q => q ≠ rb ∧ _) rfl rfl HMA.out (fun _ hk => hk) HRB.out HRR3.out (Below.refl _ _) HSZ.out (Nat.le_trans (Nat.mul_le_mul_left _ (by decide)) HLT.out) ?_; intro v1 w4 hr hb hg hat; have HR4 := Aside0.mk hr; have HG4 := Aside0.mk (grown_own HG3.out hg HROW.out); have HRS4 := Aside0.mk (show ∃ f, RS w0 rb f w4 from ⟨_, HR3.out.grown hg HNR.out (fun k hk => Nat.le_trans HW0.out (HROW.out k hk))⟩); clear hr hb hg hat)
        go_roundw
        case rel =>
          refine ⟨j + 1, xs ++ [x], by omega, by simp, by rw [List.length_append, List.length_singleton, HXL.out], ?_, HR4.out, HRS4.out, HG4.out⟩
          intro y hy
          rcases List.mem_append.1 hy with hy | hy
          · exact HXG.out y hy
          · rw [List.mem_singleton.1 hy]; exact HGX.out
        case measure => simp [intOf]; omega
      · have hf2 : (f3 != 0) = true := by simpa using hf
        go_wp2_with fail
        exact bodyPost_ret (v := .slice none 0 0) (by simp [results, Tryz.results104, go_sem]) rfl ⟨⟨[], [.slice none 0 0], rfl, ⟨_, rfl, Kd.R_nil _ _ _ _ _⟩, by simp, by simp⟩, ⟨_, HR3.out⟩, HG3.out⟩
    · obtain rfl : j = m := by omega
      obtain ⟨A, c, rfl⟩ := Kd.R_slice HRR.out
      obtain ⟨n, hn⟩ : ∃ n, xs.length = n := ⟨_, rfl⟩
      rw [hn] at HRR ⊢
      clear hn
      go_wp2
      exact bodyPost_ret (v := .slice A n c) (by simp [results, Tryz.results104, go_sem]) rfl ⟨⟨xs, [.slice A n c], rfl, ⟨_, rfl, HRR.out⟩, by have := HXL.out; omega, HXG.out⟩, ⟨_, HRS.out⟩, HGR.out⟩

set_option maxRecDepth 100000 in
set_option maxHeartbeats 8000000 in
theorem TakeIntU_calls (w0 : World) (rb : Nat) (G : Int → Prop) (h1 : ∀ f W, RS w0 rb f W → Calls Tryz.prog 35 #[.pointer (some ⟨rb, 0, none⟩)] W (TakeAns (Kd.int .i64) enc1 G w0 rb W)) (f : Int) (w : World) (h : RS w0 rb f w) :
    Calls Tryz.prog 103 #[.pointer (some ⟨rb, 0, none⟩), .int .i64 1000, .func (.func 35) #[] #[]] w (TakeAns (Kd.slice 3 (Kd.int .i64)) enc1 (gList G) w0 rb w) := by
  have hup := up_calls w0 rb f 1000 (by omega) w h
  have H1 := Aside0.mk h1
  have HW0 := Aside0.mk (show w0.heap.size ≤ w.heap.size from h.1.size)
  clear h1 h
  go_enter Tryz.func103, Tryz.ntmps103
  go_wp2_with (go_at_call 63; refine hup.mono ?_; rintro e w1 ⟨⟨n, rfl, hn0, hn1⟩, ⟨f1, hr⟩, hg⟩; have HR := Aside0.mk hr; have HG := Aside0.mk hg; clear hr hg hup)
  obtain ⟨m, rfl⟩ := Int.eq_ofNat_of_zero_le hn0
  go_loopw [7, 8, 12] (fun v7 _ v12 wr => ∃ (j : Nat) (xs : List (Int)), j ≤ m ∧ v12 = .int .i64 j ∧ xs.length = j ∧ (∀ x ∈ xs, G x) ∧ Kd.R (Kd.int .i64) 3 wr w.heap.size (fun q => q ≠ rb) v7 xs ∧ (∃ f, RS w0 rb f wr) ∧ w.grownBy wr (some rb)) (fun _ _ v12 _ => m - (intOf v12).toNat)
  case atStart => exact ⟨0, [], Nat.zero_le _, rfl, rfl, by simp, Kd.R_nil _ _ _ _ _, ⟨_, HR.out⟩, HG.out⟩
  case round =>
    obtain ⟨j, xs, hj, rfl, hxl, hxg, hR, ⟨f2, hrs⟩, hgr⟩ := hrel
    have HXL := Aside0.mk hxl
    have HXG := Aside0.mk hxg
    have HRR := Aside0.mk hR
    have HGR := Aside0.mk hgr
    have HRS := Aside0.mk hrs
    clear hxl hxg hR hgr hrs HR HG
    by_cases hlt : j < m
    · have hc := H1.out f2 wr HRS.out
      go_upto_region 5 with (go_at_call 35; refine (show Calls _ _ _ _ _ from hc).mono ?_; rintro e w2 ⟨⟨x, cs, rfl, hM, hG⟩, ⟨f3, hr⟩, hg⟩; have hcs : cs = [.int .i64 x] := hM; rw [hcs] at hM; subst hcs; have HM := Aside0.mk hM; have HG2 := Aside0.mk hg; have HR2 := Aside0.mk hr; have HGX := Aside0.mk hG; clear hM hg hr hG hc; simp only [enc1, List.headD_cons])
      have hb3 : Below w2.heap.size w2 w2 := Below.refl _ _
      have HR3 := Aside0.mk (HR2.out.kept hb3)
      have HG3 := Aside0.mk (World.grownBy.trans HGR.out (World.grownBy.trans HG2.out (grown_of_below hb3 _)))
      have HRR3 := Aside0.mk (Kd.R_below (R_grownS HRR.out HG2.out) hb3)
      have HM3 := Aside0.mk ((Kd.int .i64).M_lower HGR.out.size (Kd.M_below HM.out hb3))
      obtain ⟨rA, rn, rc, d0, d1⟩ := HR3.out.cells
      clear hb3 HRR HM HGR HG2 HRS HR2
      by_cases hf : f3 = 0
      · subst hf
        have HXX := Aside0.mk (show xs.length < 1000 by have := HXL.out; omega)
        have HLT := Aside0.mk (show (xs.length + 1) * 1000 ≤ 140737488355328 by have := HXX.out; omega)
        have HSZ := Aside0.mk (show w.heap.size ≤ w2.heap.size from HG3.out.size)
        have HRB := Aside0.mk (show ∀ k, w2.heap.size ≤ k → k ≠ rb from fun k hk => by have := HR3.out.lt; omega)
        obtain ⟨inner, hown⟩ := Kd.R_own HRR3.out
        have HMA := Aside0.mk (M_apart HM3.out hown (by decide))
        have HROW := Aside0.mk (fun k hk => own_base hown k hk)
        have HNR := Aside0.mk (fun (e : some rb = _) => (HRR3.out.1 rb e.symm) rfl)
        clear hown d0
        go_wp2_with (at_builtin; refine Kd.R_append (Kd.int .i64) (w0 := w2) w.heap.size rfl (.tmp 22) (.tmp 24) 86 3 (.int .i64 0) 8 rfl Tryz.underlying86 infoInt rfl (by decide) (by omega) _ xs x [.int .i64 x] (fun q => q ≠ rb) (fun q => q ≠ rb ∧ _) rfl rfl HMA.out (fun _ hk => hk) HRB.out HRR3.out (Below.refl _ _) HSZ.out (Nat.le_trans (Nat.mul_le_mul_left _ (by decide)) HLT.out) ?_; intro v1 w4 hr hb hg hat; have HR4 := Aside0.mk hr; have HG4 := Aside0.mk (grown_own HG3.out hg HROW.out); have HRS4 := Aside0.mk (show ∃ f, RS w0 rb f w4 from ⟨_, HR3.out.grown hg HNR.out (fun k hk => Nat.le_trans HW0.out (HROW.out k hk))⟩); clear hr hb hg hat)
        go_roundw
        case rel =>
          refine ⟨j + 1, xs ++ [x], by omega, by simp, by rw [List.length_append, List.length_singleton, HXL.out], ?_, HR4.out, HRS4.out, HG4.out⟩
          intro y hy
          rcases List.mem_append.1 hy with hy | hy
          · exact HXG.out y hy
          · rw [List.mem_singleton.1 hy]; exact HGX.out
        case measure => simp [intOf]; omega
      · have hf2 : (f3 != 0) = true := by simpa using hf
        go_wp2_with fail
        exact bodyPost_ret (v := .slice none 0 0) (by simp [results, Tryz.results103, go_sem]) rfl ⟨⟨[], [.slice none 0 0], rfl, ⟨_, rfl, Kd.R_nil _ _ _ _ _⟩, by simp, by simp⟩, ⟨_, HR3.out⟩, HG3.out⟩
    · obtain rfl : j = m := by omega
      obtain ⟨A, c, rfl⟩ := Kd.R_slice HRR.out
      obtain ⟨n, hn⟩ : ∃ n, xs.length = n := ⟨_, rfl⟩
      rw [hn] at HRR ⊢
      clear hn
      go_wp2
      exact bodyPost_ret (v := .slice A n c) (by simp [results, Tryz.results103, go_sem]) rfl ⟨⟨xs, [.slice A n c], rfl, ⟨_, rfl, HRR.out⟩, by have := HXL.out; omega, HXG.out⟩, ⟨_, HRS.out⟩, HGR.out⟩

set_option maxRecDepth 100000 in
set_option maxHeartbeats 8000000 in
theorem TakeIntI_calls (w0 : World) (rb : Nat) (G : Int → Prop) (h1 : ∀ f W, RS w0 rb f W → Calls Tryz.prog 37 #[.pointer (some ⟨rb, 0, none⟩)] W (TakeAns (Kd.int .i64) enc1 G w0 rb W)) (f : Int) (w : World) (h : RS w0 rb f w) :
    Calls Tryz.prog 103 #[.pointer (some ⟨rb, 0, none⟩), .int .i64 1000, .func (.func 37) #[] #[]] w (TakeAns (Kd.slice 3 (Kd.int .i64)) enc1 (gList G) w0 rb w) := by
  have hup := up_calls w0 rb f 1000 (by omega) w h
  have H1 := Aside0.mk h1
  have HW0 := Aside0.mk (show w0.heap.size ≤ w.heap.size from h.1.size)
  clear h1 h
  go_enter Tryz.func103, Tryz.ntmps103
  go_wp2_with (go_at_call 63; refine hup.mono ?_; rintro e w1 ⟨⟨n, rfl, hn0, hn1⟩, ⟨f1, hr⟩, hg⟩; have HR := Aside0.mk hr; have HG := Aside0.mk hg; clear hr hg hup)
  obtain ⟨m, rfl⟩ := Int.eq_ofNat_of_zero_le hn0
  go_loopw [7, 8, 12] (fun v7 _ v12 wr => ∃ (j : Nat) (xs : List (Int)), j ≤ m ∧ v12 = .int .i64 j ∧ xs.length = j ∧ (∀ x ∈ xs, G x) ∧ Kd.R (Kd.int .i64) 3 wr w.heap.size (fun q => q ≠ rb) v7 xs ∧ (∃ f, RS w0 rb f wr) ∧ w.grownBy wr (some rb)) (fun _ _ v12 _ => m - (intOf v12).toNat)
  case atStart => exact ⟨0, [], Nat.zero_le _, rfl, rfl, by simp, Kd.R_nil _ _ _ _ _, ⟨_, HR.out⟩, HG.out⟩
  case round =>
    obtain ⟨j, xs, hj, rfl, hxl, hxg, hR, ⟨f2, hrs⟩, hgr⟩ := hrel
    have HXL := Aside0.mk hxl
    have HXG := Aside0.mk hxg
    have HRR := Aside0.mk hR
    have HGR := Aside0.mk hgr
    have HRS := Aside0.mk hrs
    clear hxl hxg hR hgr hrs HR HG
    by_cases hlt : j < m
    · have hc := H1.out f2 wr HRS.out
      go_upto_region 5 with (go_at_call 37; refine (show Calls _ _ _ _ _ from hc).mono ?_; rintro e w2 ⟨⟨x, cs, rfl, hM, hG⟩, ⟨f3, hr⟩, hg⟩; have hcs : cs = [.int .i64 x] := hM; rw [hcs] at hM; subst hcs; have HM := Aside0.mk hM; have HG2 := Aside0.mk hg; have HR2 := Aside0.mk hr; have HGX := Aside0.mk hG; clear hM hg hr hG hc; simp only [enc1, List.headD_cons])
      have hb3 : Below w2.heap.size w2 w2 := Below.refl _ _
      have HR3 := Aside0.mk (HR2.out.kept hb3)
      have HG3 := Aside0.mk (World.grownBy.trans HGR.out (World.grownBy.trans HG2.out (grown_of_below hb3 _)))
      have HRR3 := Aside0.mk (Kd.R_below (R_grownS HRR.out HG2.out) hb3)
      have HM3 := Aside0.mk ((Kd.int .i64).M_lower HGR.out.size (Kd.M_below HM.out hb3))
      obtain ⟨rA, rn, rc, d0, d1⟩ := HR3.out.cells
      clear hb3 HRR HM HGR HG2 HRS HR2
      by_cases hf : f3 = 0
      · subst hf
        have HXX := Aside0.mk (show xs.length < 1000 by have := HXL.out; omega)
        have HLT := Aside0.mk (show (xs.length + 1) * 1000 ≤ 140737488355328 by have := HXX.out; omega)
        have HSZ := Aside0.mk (show w.heap.size ≤ w2.heap.size from HG3.out.size)
        have HRB := Aside0.mk (show ∀ k, w2.heap.size ≤ k → k ≠ rb from fun k hk => by have := HR3.out.lt; omega)
        obtain ⟨inner, hown⟩ := Kd.R_own HRR3.out
        have HMA := Aside0.mk (M_apart HM3.out hown (by decide))
        have HROW := Aside0.mk (fun k hk => own_base hown k hk)
        have HNR := Aside0.mk (fun (e : some rb = _) => (HRR3.out.1 rb e.symm) rfl)
        clear hown d0
        go_wp2_with (at_builtin; refine Kd.R_append (Kd.int .i64) (w0 := w2) w.heap.size rfl (.tmp 22) (.tmp 24) 86 3 (.int .i64 0) 8 rfl Tryz.underlying86 infoInt rfl (by decide) (by omega) _ xs x [.int .i64 x] (fun q => q ≠ rb) (fun q => q ≠ rb ∧ _) rfl rfl HMA.out (fun _ hk => hk) HRB.out HRR3.out (Below.refl _ _) HSZ.out (Nat.le_trans (Nat.mul_le_mul_left _ (by decide)) HLT.out) ?_; intro v1 w4 hr hb hg hat; have HR4 := Aside0.mk hr; have HG4 := Aside0.mk (grown_own HG3.out hg HROW.out); have HRS4 := Aside0.mk (show ∃ f, RS w0 rb f w4 from ⟨_, HR3.out.grown hg HNR.out (fun k hk => Nat.le_trans HW0.out (HROW.out k hk))⟩); clear hr hb hg hat)
        go_roundw
        case rel =>
          refine ⟨j + 1, xs ++ [x], by omega, by simp, by rw [List.length_append, List.length_singleton, HXL.out], ?_, HR4.out, HRS4.out, HG4.out⟩
          intro y hy
          rcases List.mem_append.1 hy with hy | hy
          · exact HXG.out y hy
          · rw [List.mem_singleton.1 hy]; exact HGX.out
        case measure => simp [intOf]; omega
      · have hf2 : (f3 != 0) = true := by simpa using hf
        go_wp2_with fail
        exact bodyPost_ret (v := .slice none 0 0) (by simp [results, Tryz.results103, go_sem]) rfl ⟨⟨[], [.slice none 0 0], rfl, ⟨_, rfl, Kd.R_nil _ _ _ _ _⟩, by simp, by simp⟩, ⟨_, HR3.out⟩, HG3.out⟩
    · obtain rfl : j = m := by omega
      obtain ⟨A, c, rfl⟩ := Kd.R_slice HRR.out
      obtain ⟨n, hn⟩ : ∃ n, xs.length = n := ⟨_, rfl⟩
      rw [hn] at HRR ⊢
      clear hn
      go_wp2
      exact bodyPost_ret (v := .slice A n c) (by simp [results, Tryz.results103, go_sem]) rfl ⟨⟨xs, [.slice A n c], rfl, ⟨_, rfl, HRR.out⟩, by have := HXL.out; omega, HXG.out⟩, ⟨_, HRS.out⟩, HGR.out⟩

set_option maxRecDepth 100000 in
set_option maxHeartbeats 8000000 in
theorem TakeStr_calls (w0 : World) (rb : Nat) (G : ByteArray → Prop) (h1 : ∀ f W, RS w0 rb f W → Calls Tryz.prog 34 #[.pointer (some ⟨rb, 0, none⟩)] W (TakeAns Kd.string enc1 G w0 rb W)) (f : Int) (w : World) (h : RS w0 rb f w) :
    Calls Tryz.prog 111 #[.pointer (some ⟨rb, 0, none⟩), .int .i64 1000, .func (.func 34) #[] #[]] w (TakeAns (Kd.slice 9 Kd.string) enc1 (gList G) w0 rb w) := by
  have hup := up_calls w0 rb f 1000 (by omega) w h
  have H1 := Aside0.mk h1
  have HW0 := Aside0.mk (show w0.heap.size ≤ w.heap.size from h.1.size)
  clear h1 h
  go_enter Tryz.func111, Tryz.ntmps111
  go_wp2_with (go_at_call 63; refine hup.mono ?_; rintro e w1 ⟨⟨n, rfl, hn0, hn1⟩, ⟨f1, hr⟩, hg⟩; have HR := Aside0.mk hr; have HG := Aside0.mk hg; clear hr hg hup)
  obtain ⟨m, rfl⟩ := Int.eq_ofNat_of_zero_le hn0
  go_loopw [7, 8, 12] (fun v7 _ v12 wr => ∃ (j : Nat) (xs : List (ByteArray)), j ≤ m ∧ v12 = .int .i64 j ∧ xs.length = j ∧ (∀ x ∈ xs, G x) ∧ Kd.R Kd.string 9 wr w.heap.size (fun q => q ≠ rb) v7 xs ∧ (∃ f, RS w0 rb f wr) ∧ w.grownBy wr (some rb)) (fun _ _ v12 _ => m - (intOf v12).toNat)
  case atStart => exact ⟨0, [], Nat.zero_le _, rfl, rfl, by simp, Kd.R_nil _ _ _ _ _, ⟨_, HR.out⟩, HG.out⟩
  case round =>
    obtain ⟨j, xs, hj, rfl, hxl, hxg, hR, ⟨f2, hrs⟩, hgr⟩ := hrel
    have HXL := Aside0.mk hxl
    have HXG := Aside0.mk hxg
    have HRR := Aside0.mk hR
    have HGR := Aside0.mk hgr
    have HRS := Aside0.mk hrs
    clear hxl hxg hR hgr hrs HR HG
    by_cases hlt : j < m
    · have hc := H1.out f2 wr HRS.out
      go_upto_region 5 with (go_at_call 34; refine (show Calls _ _ _ _ _ from hc).mono ?_; rintro e w2 ⟨⟨x, cs, rfl, hM, hG⟩, ⟨f3, hr⟩, hg⟩; have hcs : cs = [.string x] := hM; rw [hcs] at hM; subst hcs; have HM := Aside0.mk hM; have HG2 := Aside0.mk hg; have HR2 := Aside0.mk hr; have HGX := Aside0.mk hG; clear hM hg hr hG hc; simp only [enc1, List.headD_cons])
      have hb3 : Below w2.heap.size w2 w2 := Below.refl _ _
      have HR3 := Aside0.mk (HR2.out.kept hb3)
      have HG3 := Aside0.mk (World.grownBy.trans HGR.out (World.grownBy.trans HG2.out (grown_of_below hb3 _)))
      have HRR3 := Aside0.mk (Kd.R_below (R_grownS HRR.out HG2.out) hb3)
      have HM3 := Aside0.mk (Kd.string.M_lower HGR.out.size (Kd.M_below HM.out hb3))
      obtain ⟨rA, rn, rc, d0, d1⟩ := HR3.out.cells
      clear hb3 HRR HM HGR HG2 HRS HR2
      by_cases hf : f3 = 0
      · subst hf
        have HXX := Aside0.mk (show xs.length < 1000 by have := HXL.out; omega)
        have HLT := Aside0.mk (show (xs.length + 1) * 1000 ≤ 140737488355328 by have := HXX.out; omega)
        have HSZ := Aside0.mk (show w.heap.size ≤ w2.heap.size from HG3.out.size)
        have HRB := Aside0.mk (show ∀ k, w2.heap.size ≤ k → k ≠ rb from fun k hk => by have := HR3.out.lt; omega)
        obtain ⟨inner, hown⟩ := Kd.R_own HRR3.out
        have HMA := Aside0.mk (M_apart HM3.out hown (by decide))
        have HROW := Aside0.mk (fun k hk => own_base hown k hk)
        have HNR := Aside0.mk (fun (e : some rb = _) => (HRR3.out.1 rb e.symm) rfl)
        clear hown d0
        go_wp2_with (at_builtin; refine Kd.R_append Kd.string (w0 := w2) w.heap.size rfl (.tmp 22) (.tmp 24) 92 9 (.string ⟨#[]⟩) 16 rfl Tryz.underlying92 infoStr rfl (by decide) (by omega) _ xs x [.string x] (fun q => q ≠ rb) (fun q => q ≠ rb ∧ _) rfl rfl HMA.out (fun _ hk => hk) HRB.out HRR3.out (Below.refl _ _) HSZ.out (Nat.le_trans (Nat.mul_le_mul_left _ (by decide)) HLT.out) ?_; intro v1 w4 hr hb hg hat; have HR4 := Aside0.mk hr; have HG4 := Aside0.mk (grown_own HG3.out hg HROW.out); have HRS4 := Aside0.mk (show ∃ f, RS w0 rb f w4 from ⟨_, HR3.out.grown hg HNR.out (fun k hk => Nat.le_trans HW0.out (HROW.out k hk))⟩); clear hr hb hg hat)
        go_roundw
        case rel =>
          refine ⟨j + 1, xs ++ [x], by omega, by simp, by rw [List.length_append, List.length_singleton, HXL.out], ?_, HR4.out, HRS4.out, HG4.out⟩
          intro y hy
          rcases List.mem_append.1 hy with hy | hy
          · exact HXG.out y hy
          · rw [List.mem_singleton.1 hy]; exact HGX.out
        case measure => simp [intOf]; omega
      · have hf2 : (f3 != 0) = true := by simpa using hf
        go_wp2_with fail
        exact bodyPost_ret (v := .slice none 0 0) (by simp [results, Tryz.results111, go_sem]) rfl ⟨⟨[], [.slice none 0 0], rfl, ⟨_, rfl, Kd.R_nil _ _ _ _ _⟩, by simp, by simp⟩, ⟨_, HR3.out⟩, HG3.out⟩
    · obtain rfl : j = m := by omega
      obtain ⟨A, c, rfl⟩ := Kd.R_slice HRR.out
      obtain ⟨n, hn⟩ : ∃ n, xs.length = n := ⟨_, rfl⟩
      rw [hn] at HRR ⊢
      clear hn
      go_wp2
      exact bodyPost_ret (v := .slice A n c) (by simp [results, Tryz.results111, go_sem]) rfl ⟨⟨xs, [.slice A n c], rfl, ⟨_, rfl, HRR.out⟩, by have := HXL.out; omega, HXG.out⟩, ⟨_, HRS.out⟩, HGR.out⟩
end Go.Proofs.YtpdppfihpnfblaaGreat.H
