/- bale's takers: laid by wip/takers_bl.py. -/
import Derived.Test.YtpdppfihpnfblaaGreatBlT
namespace Go.Proofs.YtpdppfihpnfblaaGreat.H
open Go.RowKit Go.Shelf Go.Proofs.YtpdppfihpnfblaaGreat.PA Go.Proofs.YtpdppfihpnfblaaGreatW.PrintWords Go.Proofs.YtpdppfihpnfblaaGreatW.PrintLast Go.Proofs.YtpdppfihpnfblaaGreatW.PrintMore
set_option linter.unusedVariables false
set_option linter.unusedSimpArgs false
/-- What is known of rows that were made, and stays while more is taken into a struct of type T. -/
structure Stab (rb T : Nat) (R : World → Prop) : Prop where
  grow : ∀ W W', R W → W.grownBy W' (some rb) → R W'
  keep : ∀ W W' b cs, R W → W.heap[b]? = some (.cells cs T (0, 0)) → W.grownBy W' (some b) → R W'
theorem Stab.nil (rb T : Nat) : Stab rb T (fun _ => True) := ⟨fun _ _ _ _ => trivial, fun _ _ _ _ _ _ _ => trivial⟩
theorem Stab.row {α : Type} {d : Kd α} {e base rb T : Nat} {v : Value} {xs : List α} {R : World → Prop} (h : Stab rb T R) (ht : ∀ q, q ∈ e :: d.E → q ≠ T) : Stab rb T (fun W => R W ∧ Kd.R d e W base (fun q => q ≠ rb) v xs) :=
  ⟨fun W W' hr hg => ⟨h.grow W W' hr.1 hg, R_grownS hr.2 hg⟩, fun W W' b cs hr hb hg => ⟨h.keep W W' b cs hr.1 hb hg, Kd.R_mono (Kd.R_grown (Kd.R_types hr.2 hb ht) hg (fun k hk e => hk.2 (by injection e))) (fun _ hk => hk.1)⟩⟩
/-- Where a struct is being taken: block b2 is the result's, b3 the variable's. -/
structure TS (w0 w : World) (rb T b2 b3 : Nat) (R : World → Prop) (zs cs : Array Value) (W : World) : Prop where
  gr : w.grownBy W (some rb)
  rs : ∃ f, RS w0 rb f W
  r2 : W.heap[b2]? = some (.cells zs T (0, 0))
  r3 : W.heap[b3]? = some (.cells cs T (0, 0))
  rw_ : R W
  h2 : w.heap.size ≤ b2
  h3 : w.heap.size ≤ b3
  h23 : b2 ≠ b3
  n2 : b2 ≠ rb
  n3 : b3 ≠ rb
  h0 : w0.heap.size ≤ w.heap.size
theorem grownBy_set (W : World) (b j : Nat) (v : Value) : W.grownBy (W.setCell ⟨b, j, none⟩ v) (some b) := grown_set (World.grownBy.refl W (some b)) j v
theorem TS.call {w0 w W W' : World} {rb T b2 b3 : Nat} {R : World → Prop} {zs cs : Array Value} (h : TS w0 w rb T b2 b3 R zs cs W) (hS : Stab rb T R) (hr : ∃ f, RS w0 rb f W') (hg : W.grownBy W' (some rb)) : TS w0 w rb T b2 b3 R zs cs W' :=
  ⟨World.grownBy.trans h.gr hg, hr, blk_grown h.r2 hg (fun e => h.n2 (by injection e)), blk_grown h.r3 hg (fun e => h.n3 (by injection e)), hS.grow _ _ h.rw_ hg, h.h2, h.h3, h.h23, h.n2, h.n3, h.h0⟩
theorem TS.set {w0 w W : World} {rb T b2 b3 : Nat} {R : World → Prop} {zs cs cs' : Array Value} (h : TS w0 w rb T b2 b3 R zs cs W) (hS : Stab rb T R) (i : Nat) (v : Value) (e : cs.setIfInBounds i v = cs') : TS w0 w rb T b2 b3 R zs cs' (W.setCell ⟨b3, i, none⟩ v) := by
  have hg := grownBy_set W b3 i v
  have hw := h.gr.size
  obtain ⟨f, hr⟩ := h.rs
  have hw0 : w0.heap.size ≤ b3 := Nat.le_trans h.h0 h.h3
  exact ⟨grown_own h.gr hg (fun k e => by injection e with e; have := h.h3; omega), ⟨f, hr.far hw0 h.n3 i v⟩, blk_far h.r2 (p := ⟨b3, i, none⟩) h.h23 v, by rw [← e]; exact blk_set h.r3 i v, hS.keep _ _ _ _ h.rw_ h.r3 hg, h.h2, h.h3, h.h23, h.n2, h.n3, h.h0⟩
theorem TS.callR {w0 w W W' : World} {rb T b2 b3 : Nat} {R R' : World → Prop} {zs cs : Array Value} (h : TS w0 w rb T b2 b3 R zs cs W) (hS : Stab rb T R) (hr : ∃ f, RS w0 rb f W') (hg : W.grownBy W' (some rb)) (hR : R' W') : TS w0 w rb T b2 b3 (fun W => R W ∧ R' W) zs cs W' := by
  have h1 := h.call hS hr hg
  exact ⟨h1.gr, h1.rs, h1.r2, h1.r3, ⟨h1.rw_, hR⟩, h1.h2, h1.h3, h1.h23, h1.n2, h1.n3, h1.h0⟩
theorem TS.start_var {w0 w : World} {rb T : Nat} {f : Int} (h : RS w0 rb f w) (zs : Array Value) : TS w0 w rb T w.heap.size (w.heap.size + 1) (fun _ => True) zs zs ((w.alloc (.cells zs T)).alloc (.cells zs T)) := by
  have hb := ((Below.refl _ w).alloc (Nat.le_refl _) (.cells zs T)).alloc (by simp) (.cells zs T)
  have hl := h.lt
  exact ⟨grown_of_below hb _, ⟨f, h.kept hb⟩, heap_alloc2_old w _ _, heap_alloc2_new w _ _, trivial, Nat.le_refl _, by omega, by omega, by omega, by omega, h.1.size⟩
theorem TS.start_build {w0 w w1 : World} {rb T : Nat} {f : Int} (h : RS w0 rb f w) {zs : Array Value} (hg : (w.alloc (.cells zs T)).grownBy w1 (some rb)) (hr : ∃ f, RS w0 rb f w1) (cs : Array Value) : TS w0 w rb T w.heap.size w1.heap.size (fun _ => True) zs cs (w1.alloc (.cells cs T)) := by
  have hb := (Below.refl _ w).alloc (Nat.le_refl _) (.cells zs T)
  have hb1 := (Below.refl _ w1).alloc (Nat.le_refl _) (.cells cs T)
  have hl := h.lt
  have hs := hg.size
  have hs1 : (w.alloc (.cells zs T)).heap.size = w.heap.size + 1 := World.size_alloc _ _
  obtain ⟨f1, hr1⟩ := hr
  exact ⟨World.grownBy.trans (grown_of_below hb _) (World.grownBy.trans hg (grown_of_below hb1 _)), ⟨f1, hr1.kept hb1⟩, blk_below (blk_grown (blk_new w (.cells zs T)) hg (fun e => by injection e; omega)) hb1, blk_new _ _, trivial, Nat.le_refl _, by omega, by omega, by omega, by omega, h.1.size⟩
/-- The variable is the result. -/
theorem TS.fin {w0 w W : World} {rb T b2 b3 : Nat} {R : World → Prop} {zs cs : Array Value} (h : TS w0 w rb T b2 b3 R zs cs W) (hS : Stab rb T R) (hz : zs.size = cs.size) : (W.setRow b2 cs).heap[b2]? = some (.cells cs T (0, 0)) ∧ w.grownBy (W.setRow b2 cs) (some rb) ∧ (∃ f, RS w0 rb f (W.setRow b2 cs)) ∧ R (W.setRow b2 cs) := by
  have hne : ∀ k, k ≠ b2 → (W.setRow b2 cs).heap[k]? = W.heap[k]? := fun k hk => setRow_other W b2 k cs hk
  have hg : W.grownBy (W.setRow b2 cs) (some b2) := ⟨rfl, rfl, rfl, by simp, fun i hi hk => hne i (fun e => hk (by rw [e]))⟩
  obtain ⟨f, hr⟩ := h.rs
  exact ⟨setRow_heap W b2 zs cs T (0, 0) h.r2, grown_own h.gr hg (fun k e => by injection e with e; have := h.h2; omega), ⟨f, hr.grown hg (fun e => h.n2 (by injection e with e; exact e.symm)) (fun k e => by injection e with e; have := h.h2; have := h.h0; omega)⟩, hS.keep _ _ _ _ h.rw_ h.r2 hg⟩

theorem tlSrc_calls (w0 : World) (rb : Nat) (G : Src → Prop) (h1 : ∀ f W, RS w0 rb f W → Calls Tryz.prog 52 #[.pointer (some ⟨rb, 0, none⟩)] W (TakeAns kSrc encA G w0 rb W)) (f : Int) (w : World) (h : RS w0 rb f w) :
    Calls Tryz.prog 51 #[.pointer (some ⟨rb, 0, none⟩), .func (.func 52) #[] #[]] w (TakeAns (Kd.slice 119 kSrc) enc1 (gList G) w0 rb w) := by
  have hc := TakeSrc_calls w0 rb G h1 f w h
  clear h1 h
  go_enter Tryz.func51, Tryz.ntmps51
  go_wp2_with (go_at_call 81; refine (show Calls _ _ _ _ _ from hc).mono ?_; rintro e w1 ⟨⟨xs, cs, rfl, ⟨v, rfl, hR⟩, hG⟩, hr, hg⟩; obtain ⟨A, n, c, e1⟩ := R_sl hR; subst e1; have HR := Aside0.mk hR; have HG := Aside0.mk hG; have HRS := Aside0.mk hr; have HGR := Aside0.mk hg; clear hR hG hr hg hc; simp only [enc1, List.headD_cons])
  exact bodyPost_ret (v := .slice A n c) (by simp [results, Tryz.results51, go_sem]) rfl ⟨⟨xs, [.slice A n c], rfl, ⟨_, rfl, HR.out⟩, HG.out⟩, HRS.out, HGR.out⟩

theorem tlSen_calls (w0 : World) (rb : Nat) (G : Sen → Prop) (h1 : ∀ f W, RS w0 rb f W → Calls Tryz.prog 54 #[.pointer (some ⟨rb, 0, none⟩)] W (TakeAns kSen encA G w0 rb W)) (f : Int) (w : World) (h : RS w0 rb f w) :
    Calls Tryz.prog 53 #[.pointer (some ⟨rb, 0, none⟩), .func (.func 54) #[] #[]] w (TakeAns (Kd.slice 122 kSen) enc1 (gList G) w0 rb w) := by
  have hc := TakeSen_calls w0 rb G h1 f w h
  clear h1 h
  go_enter Tryz.func53, Tryz.ntmps53
  go_wp2_with (go_at_call 82; refine (show Calls _ _ _ _ _ from hc).mono ?_; rintro e w1 ⟨⟨xs, cs, rfl, ⟨v, rfl, hR⟩, hG⟩, hr, hg⟩; obtain ⟨A, n, c, e1⟩ := R_sl hR; subst e1; have HR := Aside0.mk hR; have HG := Aside0.mk hG; have HRS := Aside0.mk hr; have HGR := Aside0.mk hg; clear hR hG hr hg hc; simp only [enc1, List.headD_cons])
  exact bodyPost_ret (v := .slice A n c) (by simp [results, Tryz.results53, go_sem]) rfl ⟨⟨xs, [.slice A n c], rfl, ⟨_, rfl, HR.out⟩, HG.out⟩, HRS.out, HGR.out⟩

theorem tlCel_calls (w0 : World) (rb : Nat) (G : Cel → Prop) (h1 : ∀ f W, RS w0 rb f W → Calls Tryz.prog 56 #[.pointer (some ⟨rb, 0, none⟩)] W (TakeAns kCel encA G w0 rb W)) (f : Int) (w : World) (h : RS w0 rb f w) :
    Calls Tryz.prog 55 #[.pointer (some ⟨rb, 0, none⟩), .func (.func 56) #[] #[]] w (TakeAns (Kd.slice 104 kCel) enc1 (gList G) w0 rb w) := by
  have hc := TakeCel_calls w0 rb G h1 f w h
  clear h1 h
  go_enter Tryz.func55, Tryz.ntmps55
  go_wp2_with (go_at_call 84; refine (show Calls _ _ _ _ _ from hc).mono ?_; rintro e w1 ⟨⟨xs, cs, rfl, ⟨v, rfl, hR⟩, hG⟩, hr, hg⟩; obtain ⟨A, n, c, e1⟩ := R_sl hR; subst e1; have HR := Aside0.mk hR; have HG := Aside0.mk hG; have HRS := Aside0.mk hr; have HGR := Aside0.mk hg; clear hR hG hr hg hc; simp only [enc1, List.headD_cons])
  exact bodyPost_ret (v := .slice A n c) (by simp [results, Tryz.results55, go_sem]) rfl ⟨⟨xs, [.slice A n c], rfl, ⟨_, rfl, HR.out⟩, HG.out⟩, HRS.out, HGR.out⟩

theorem tlEmi_calls (w0 : World) (rb : Nat) (G : Emi → Prop) (h1 : ∀ f W, RS w0 rb f W → Calls Tryz.prog 14 #[.pointer (some ⟨rb, 0, none⟩)] W (TakeAns kEmi encA G w0 rb W)) (f : Int) (w : World) (h : RS w0 rb f w) :
    Calls Tryz.prog 57 #[.pointer (some ⟨rb, 0, none⟩), .func (.func 14) #[] #[]] w (TakeAns (Kd.slice 30 kEmi) enc1 (gList G) w0 rb w) := by
  have hc := TakeEmi_calls w0 rb G h1 f w h
  clear h1 h
  go_enter Tryz.func57, Tryz.ntmps57
  go_wp2_with (go_at_call 88; refine (show Calls _ _ _ _ _ from hc).mono ?_; rintro e w1 ⟨⟨xs, cs, rfl, ⟨v, rfl, hR⟩, hG⟩, hr, hg⟩; obtain ⟨A, n, c, e1⟩ := R_sl hR; subst e1; have HR := Aside0.mk hR; have HG := Aside0.mk hG; have HRS := Aside0.mk hr; have HGR := Aside0.mk hg; clear hR hG hr hg hc; simp only [enc1, List.headD_cons])
  exact bodyPost_ret (v := .slice A n c) (by simp [results, Tryz.results57, go_sem]) rfl ⟨⟨xs, [.slice A n c], rfl, ⟨_, rfl, HR.out⟩, HG.out⟩, HRS.out, HGR.out⟩

theorem tlLab_calls (w0 : World) (rb : Nat) (G : Lab → Prop) (h1 : ∀ f W, RS w0 rb f W → Calls Tryz.prog 86 #[.pointer (some ⟨rb, 0, none⟩)] W (TakeAns kLab encA G w0 rb W)) (f : Int) (w : World) (h : RS w0 rb f w) :
    Calls Tryz.prog 85 #[.pointer (some ⟨rb, 0, none⟩), .func (.func 86) #[] #[]] w (TakeAns (Kd.slice 98 kLab) enc1 (gList G) w0 rb w) := by
  have hc := TakeLab_calls w0 rb G h1 f w h
  clear h1 h
  go_enter Tryz.func85, Tryz.ntmps85
  go_wp2_with (go_at_call 104; refine (show Calls _ _ _ _ _ from hc).mono ?_; rintro e w1 ⟨⟨xs, cs, rfl, ⟨v, rfl, hR⟩, hG⟩, hr, hg⟩; obtain ⟨A, n, c, e1⟩ := R_sl hR; subst e1; have HR := Aside0.mk hR; have HG := Aside0.mk hG; have HRS := Aside0.mk hr; have HGR := Aside0.mk hg; clear hR hG hr hg hc; simp only [enc1, List.headD_cons])
  exact bodyPost_ret (v := .slice A n c) (by simp [results, Tryz.results85, go_sem]) rfl ⟨⟨xs, [.slice A n c], rfl, ⟨_, rfl, HR.out⟩, HG.out⟩, HRS.out, HGR.out⟩

theorem tlIntU_calls (w0 : World) (rb : Nat) (G : Int → Prop) (h1 : ∀ f W, RS w0 rb f W → Calls Tryz.prog 35 #[.pointer (some ⟨rb, 0, none⟩)] W (TakeAns (Kd.int .i64) enc1 G w0 rb W)) (f : Int) (w : World) (h : RS w0 rb f w) :
    Calls Tryz.prog 83 #[.pointer (some ⟨rb, 0, none⟩), .func (.func 35) #[] #[]] w (TakeAns (Kd.slice 3 (Kd.int .i64)) enc1 (gList G) w0 rb w) := by
  have hc := TakeIntU_calls w0 rb G h1 f w h
  clear h1 h
  go_enter Tryz.func83, Tryz.ntmps83
  go_wp2_with (go_at_call 103; refine (show Calls _ _ _ _ _ from hc).mono ?_; rintro e w1 ⟨⟨xs, cs, rfl, ⟨v, rfl, hR⟩, hG⟩, hr, hg⟩; obtain ⟨A, n, c, e1⟩ := R_sl hR; subst e1; have HR := Aside0.mk hR; have HG := Aside0.mk hG; have HRS := Aside0.mk hr; have HGR := Aside0.mk hg; clear hR hG hr hg hc; simp only [enc1, List.headD_cons])
  exact bodyPost_ret (v := .slice A n c) (by simp [results, Tryz.results83, go_sem]) rfl ⟨⟨xs, [.slice A n c], rfl, ⟨_, rfl, HR.out⟩, HG.out⟩, HRS.out, HGR.out⟩

theorem tlIntI_calls (w0 : World) (rb : Nat) (G : Int → Prop) (h1 : ∀ f W, RS w0 rb f W → Calls Tryz.prog 37 #[.pointer (some ⟨rb, 0, none⟩)] W (TakeAns (Kd.int .i64) enc1 G w0 rb W)) (f : Int) (w : World) (h : RS w0 rb f w) :
    Calls Tryz.prog 83 #[.pointer (some ⟨rb, 0, none⟩), .func (.func 37) #[] #[]] w (TakeAns (Kd.slice 3 (Kd.int .i64)) enc1 (gList G) w0 rb w) := by
  have hc := TakeIntI_calls w0 rb G h1 f w h
  clear h1 h
  go_enter Tryz.func83, Tryz.ntmps83
  go_wp2_with (go_at_call 103; refine (show Calls _ _ _ _ _ from hc).mono ?_; rintro e w1 ⟨⟨xs, cs, rfl, ⟨v, rfl, hR⟩, hG⟩, hr, hg⟩; obtain ⟨A, n, c, e1⟩ := R_sl hR; subst e1; have HR := Aside0.mk hR; have HG := Aside0.mk hG; have HRS := Aside0.mk hr; have HGR := Aside0.mk hg; clear hR hG hr hg hc; simp only [enc1, List.headD_cons])
  exact bodyPost_ret (v := .slice A n c) (by simp [results, Tryz.results83, go_sem]) rfl ⟨⟨xs, [.slice A n c], rfl, ⟨_, rfl, HR.out⟩, HG.out⟩, HRS.out, HGR.out⟩

theorem tlStr_calls (w0 : World) (rb : Nat) (G : ByteArray → Prop) (h1 : ∀ f W, RS w0 rb f W → Calls Tryz.prog 34 #[.pointer (some ⟨rb, 0, none⟩)] W (TakeAns Kd.string enc1 G w0 rb W)) (f : Int) (w : World) (h : RS w0 rb f w) :
    Calls Tryz.prog 105 #[.pointer (some ⟨rb, 0, none⟩), .func (.func 34) #[] #[]] w (TakeAns (Kd.slice 9 Kd.string) enc1 (gList G) w0 rb w) := by
  have hc := TakeStr_calls w0 rb G h1 f w h
  clear h1 h
  go_enter Tryz.func105, Tryz.ntmps105
  go_wp2_with (go_at_call 111; refine (show Calls _ _ _ _ _ from hc).mono ?_; rintro e w1 ⟨⟨xs, cs, rfl, ⟨v, rfl, hR⟩, hG⟩, hr, hg⟩; obtain ⟨A, n, c, e1⟩ := R_sl hR; subst e1; have HR := Aside0.mk hR; have HG := Aside0.mk hG; have HRS := Aside0.mk hr; have HGR := Aside0.mk hg; clear hR hG hr hg hc; simp only [enc1, List.headD_cons])
  exact bodyPost_ret (v := .slice A n c) (by simp [results, Tryz.results105, go_sem]) rfl ⟨⟨xs, [.slice A n c], rfl, ⟨_, rfl, HR.out⟩, HG.out⟩, HRS.out, HGR.out⟩

theorem takeUpA_calls (w0 : World) (rb : Nat) (f : Int) (w : World) (h : RS w0 rb f w) : Calls Tryz.prog 35 #[.pointer (some ⟨rb, 0, none⟩)] w (TakeAns (Kd.int .i64) enc1 gUp w0 rb w) := by
  refine (takeUp_calls w0 rb f w h).mono ?_
  rintro e w1 ⟨⟨n, rfl, h0, h1⟩, hr, hg⟩
  exact ⟨⟨n, [.int .i64 n], rfl, rfl, h0, h1⟩, hr, hg⟩
theorem rintA_calls (w0 : World) (rb : Nat) (f : Int) (w : World) (h : RS w0 rb f w) : Calls Tryz.prog 37 #[.pointer (some ⟨rb, 0, none⟩)] w (TakeAns (Kd.int .i64) enc1 gInt w0 rb w) := by
  refine (rint_calls w0 rb f w h).mono ?_
  rintro e w1 ⟨⟨n, rfl, h0, h1⟩, hr, hg⟩
  exact ⟨⟨n, [.int .i64 n], rfl, rfl, h0, h1⟩, hr, hg⟩
theorem takeTextA_calls (w0 : World) (rb : Nat) (f : Int) (w : World) (h : RS w0 rb f w) : Calls Tryz.prog 34 #[.pointer (some ⟨rb, 0, none⟩)] w (TakeAns Kd.string enc1 gTxt w0 rb w) := by
  refine (takeText_calls w0 rb f w h).mono ?_
  rintro e w1 ⟨⟨n, rfl, h0⟩, hr, hg⟩
  exact ⟨⟨n, [.string n], rfl, rfl, h0⟩, hr, hg⟩

theorem sum_some (a b : Int) : ∃ r, bale_sum.f a b = some r ∧ gI64 r := by
  have hz : gI64 0 := by unfold gI64; omega
  have hw : ∀ n, gI64 (wrap64 n) := fun n => by unfold gI64 wrap64; omega
  unfold bale_sum.f
  repeat' split
  all_goals first | exact ⟨_, rfl, hz⟩ | exact ⟨_, rfl, hw _⟩
set_option maxRecDepth 100000 in
set_option maxHeartbeats 8000000 in
theorem takeSrc_calls (w0 : World) (rb : Nat) (f : Int) (w : World) (h : RS w0 rb f w) :
    Calls Tryz.prog 52 #[.pointer (some ⟨rb, 0, none⟩)] w (TakeAns kSrc encA gSrc w0 rb w) := by
  have hu := Tryz.underlying119
  have H0 := Aside0.mk h
  clear h
  have hz0 := Aside0.mk (H0.out.kept ((Below.refl _ w).alloc (Nat.le_refl _) (.cells #[.string ⟨#[]⟩, .int .i64 0, .int .i64 0] 119)))
  have hc := takeText_calls w0 rb _ _ hz0.out
  go_enter Tryz.func52, Tryz.ntmps52
  go_upto_region 2 with (go_at_call 34; refine (show Calls _ _ _ _ _ from hc).mono ?_; rintro e W ⟨⟨x_name, rfl, hn0⟩, hr, hg⟩; have G_name := Aside0.mk hn0; have HS := Aside0.mk (TS.start_build (T := 119) H0.out hg hr #[.string x_name, .int .i64 0, .int .i64 0]); clear hr hg hc hn0)
  generalize hb3 : W.heap.size = b3 at HS ⊢
  generalize W.alloc (.cells #[.string x_name, .int .i64 0, .int .i64 0] 119) = W at HS ⊢
  clear hb3
  have HST := Aside0.mk (Stab.nil rb 119)
  obtain ⟨f_, hr_⟩ := HS.out.rs
  have hc := takeUp_calls w0 rb f_ _ hr_
  clear hr_
  go_upto_region 3 with (go_at_call 35; refine (show Calls _ _ _ _ _ from hc).mono ?_; rintro e W1 ⟨⟨x_time, rfl, hn0, hn1⟩, hr, hg⟩; have G_time := Aside0.mk (And.intro hn0 hn1); have HS1 := Aside0.mk (HS.out.call HST.out hr hg); have c3 := blk_cell HS1.out.r3 1; have z3 := blk_frozen HS1.out.r3 1; clear hr hg hc hn0 hn1)
  have HS2 := Aside0.mk (HS1.out.set HST.out 1 (.int .i64 x_time) (cs' := #[.string x_name, .int .i64 x_time, .int .i64 0]) rfl)
  clear c3 z3 HS HS1
  generalize W1.setCell ⟨b3, 1, none⟩ (.int .i64 x_time) = W2 at HS2 ⊢
  have HS := HS2
  clear HS2
  obtain ⟨f_, hr_⟩ := HS.out.rs
  have hc := takeUp_calls w0 rb f_ _ hr_
  clear hr_
  go_upto_region 4 with (go_at_call 35; refine (show Calls _ _ _ _ _ from hc).mono ?_; rintro e W1 ⟨⟨x_at_, rfl, hn0, hn1⟩, hr, hg⟩; have G_at_ := Aside0.mk (And.intro hn0 hn1); have HS1 := Aside0.mk (HS.out.call HST.out hr hg); have c3 := blk_cell HS1.out.r3 2; have z3 := blk_frozen HS1.out.r3 2; clear hr hg hc hn0 hn1)
  have HS2 := Aside0.mk (HS1.out.set HST.out 2 (.int .i64 x_at_) (cs' := #[.string x_name, .int .i64 x_time, .int .i64 x_at_]) rfl)
  clear c3 z3 HS HS1
  generalize W1.setCell ⟨b3, 2, none⟩ (.int .i64 x_at_) = W2 at HS2 ⊢
  have HS := HS2
  clear HS2
  have FIN := Aside0.mk (HS.out.fin HST.out rfl)
  have h2 := HS.out.r2
  have h3 := HS.out.r3
  have hi : (Tryz.prog.info? 119).map (·.size) = some 3 := by kernel_rfl
  have H1C := Aside0.mk (show (#[.string x_name, .int .i64 x_time, .int .i64 x_at_] : Array Value).all (·.oneCell') = true by simp [Value.oneCell'])
  go_wp2_with (first | (refine wpList_load_row rfl 119 (.tmp 3) rfl b3 rfl 119 #[.string x_name, .int .i64 x_time, .int .i64 x_at_] (0, 0) _ h3 hu rfl hi ?_) | (refine wpList_store_row rfl 119 (.tmp 2) (.tmp 13) rfl w.heap.size #[.string x_name, .int .i64 x_time, .int .i64 x_at_] rfl rfl 119 #[.string ⟨#[]⟩, .int .i64 0, .int .i64 0] h2 hi rfl H1C.out ?_))
  refine bodyPost_ret (v := .agg #[.string x_name, .int .i64 x_time, .int .i64 x_at_]) (results_cell_row rfl _ _ w.heap.size 119 #[.string x_name, .int .i64 x_time, .int .i64 x_at_] (0, 0) _ rfl FIN.out.1 hu rfl hi) rfl ⟨⟨⟨x_name, x_time, x_at_⟩, [.string x_name, .int .i64 x_time, .int .i64 x_at_], rfl, ?_, ⟨G_name.out, G_time.out, G_at_.out⟩⟩, FIN.out.2.2.1, FIN.out.2.1⟩
  exact kSrc_mkM _ _ _ _
set_option maxRecDepth 100000 in
set_option maxHeartbeats 8000000 in
theorem takeLab_calls (w0 : World) (rb : Nat) (f : Int) (w : World) (h : RS w0 rb f w) :
    Calls Tryz.prog 86 #[.pointer (some ⟨rb, 0, none⟩)] w (TakeAns kLab encA gLab w0 rb w) := by
  have hu := Tryz.underlying98
  have H0 := Aside0.mk h
  clear h
  have hz0 := Aside0.mk (H0.out.kept ((Below.refl _ w).alloc (Nat.le_refl _) (.cells #[.string ⟨#[]⟩, .string ⟨#[]⟩] 98)))
  have hc := takeText_calls w0 rb _ _ hz0.out
  go_enter Tryz.func86, Tryz.ntmps86
  go_upto_region 2 with (go_at_call 34; refine (show Calls _ _ _ _ _ from hc).mono ?_; rintro e W ⟨⟨x_name, rfl, hn0⟩, hr, hg⟩; have G_name := Aside0.mk hn0; have HS := Aside0.mk (TS.start_build (T := 98) H0.out hg hr #[.string x_name, .string ⟨#[]⟩]); clear hr hg hc hn0)
  generalize hb3 : W.heap.size = b3 at HS ⊢
  generalize W.alloc (.cells #[.string x_name, .string ⟨#[]⟩] 98) = W at HS ⊢
  clear hb3
  have HST := Aside0.mk (Stab.nil rb 98)
  obtain ⟨f_, hr_⟩ := HS.out.rs
  have hc := takeText_calls w0 rb f_ _ hr_
  clear hr_
  go_upto_region 3 with (go_at_call 34; refine (show Calls _ _ _ _ _ from hc).mono ?_; rintro e W1 ⟨⟨x_value, rfl, hn0⟩, hr, hg⟩; have G_value := Aside0.mk hn0; have HS1 := Aside0.mk (HS.out.call HST.out hr hg); have c3 := blk_cell HS1.out.r3 1; have z3 := blk_frozen HS1.out.r3 1; clear hr hg hc hn0)
  have HS2 := Aside0.mk (HS1.out.set HST.out 1 (.string x_value) (cs' := #[.string x_name, .string x_value]) rfl)
  clear c3 z3 HS HS1
  generalize W1.setCell ⟨b3, 1, none⟩ (.string x_value) = W2 at HS2 ⊢
  have HS := HS2
  clear HS2
  have FIN := Aside0.mk (HS.out.fin HST.out rfl)
  have h2 := HS.out.r2
  have h3 := HS.out.r3
  have hi : (Tryz.prog.info? 98).map (·.size) = some 2 := by kernel_rfl
  have H1C := Aside0.mk (show (#[.string x_name, .string x_value] : Array Value).all (·.oneCell') = true by simp [Value.oneCell'])
  go_wp2_with (first | (refine wpList_load_row rfl 98 (.tmp 3) rfl b3 rfl 98 #[.string x_name, .string x_value] (0, 0) _ h3 hu rfl hi ?_) | (refine wpList_store_row rfl 98 (.tmp 2) (.tmp 10) rfl w.heap.size #[.string x_name, .string x_value] rfl rfl 98 #[.string ⟨#[]⟩, .string ⟨#[]⟩] h2 hi rfl H1C.out ?_))
  refine bodyPost_ret (v := .agg #[.string x_name, .string x_value]) (results_cell_row rfl _ _ w.heap.size 98 #[.string x_name, .string x_value] (0, 0) _ rfl FIN.out.1 hu rfl hi) rfl ⟨⟨⟨x_name, x_value⟩, [.string x_name, .string x_value], rfl, ?_, ⟨G_name.out, G_value.out⟩⟩, FIN.out.2.2.1, FIN.out.2.1⟩
  exact kLab_mkM _ _ _ _
set_option maxRecDepth 100000 in
set_option maxHeartbeats 8000000 in
theorem takeBat_calls (w0 : World) (rb : Nat) (f : Int) (w : World) (h : RS w0 rb f w) :
    Calls Tryz.prog 20 #[.pointer (some ⟨rb, 0, none⟩)] w (TakeAns kBat encA gBat w0 rb w) := by
  have hu := Tryz.underlying48
  have H0 := Aside0.mk h
  clear h
  have hz0 := Aside0.mk (H0.out.kept ((Below.refl _ w).alloc (Nat.le_refl _) (.cells #[.int .i64 0, .int .i64 0, .string ⟨#[]⟩] 48)))
  have hc := takeUp_calls w0 rb _ _ hz0.out
  go_enter Tryz.func20, Tryz.ntmps20
  go_upto_region 2 with (go_at_call 35; refine (show Calls _ _ _ _ _ from hc).mono ?_; rintro e W ⟨⟨x_number, rfl, hn0, hn1⟩, hr, hg⟩; have G_number := Aside0.mk (And.intro hn0 hn1); have HS := Aside0.mk (TS.start_build (T := 48) H0.out hg hr #[.int .i64 x_number, .int .i64 0, .string ⟨#[]⟩]); clear hr hg hc hn0 hn1)
  generalize hb3 : W.heap.size = b3 at HS ⊢
  generalize W.alloc (.cells #[.int .i64 x_number, .int .i64 0, .string ⟨#[]⟩] 48) = W at HS ⊢
  clear hb3
  have HST := Aside0.mk (Stab.nil rb 48)
  obtain ⟨f_, hr_⟩ := HS.out.rs
  have hc := takeUp_calls w0 rb f_ _ hr_
  clear hr_
  go_upto_region 3 with (go_at_call 35; refine (show Calls _ _ _ _ _ from hc).mono ?_; rintro e W1 ⟨⟨x_now, rfl, hn0, hn1⟩, hr, hg⟩; have G_now := Aside0.mk (And.intro hn0 hn1); have HS1 := Aside0.mk (HS.out.call HST.out hr hg); have c3 := blk_cell HS1.out.r3 1; have z3 := blk_frozen HS1.out.r3 1; clear hr hg hc hn0 hn1)
  have HS2 := Aside0.mk (HS1.out.set HST.out 1 (.int .i64 x_now) (cs' := #[.int .i64 x_number, .int .i64 x_now, .string ⟨#[]⟩]) rfl)
  clear c3 z3 HS HS1
  generalize W1.setCell ⟨b3, 1, none⟩ (.int .i64 x_now) = W2 at HS2 ⊢
  have HS := HS2
  clear HS2
  obtain ⟨f_, hr_⟩ := HS.out.rs
  have hc := takeText_calls w0 rb f_ _ hr_
  clear hr_
  go_upto_region 4 with (go_at_call 34; refine (show Calls _ _ _ _ _ from hc).mono ?_; rintro e W1 ⟨⟨x_text, rfl, hn0⟩, hr, hg⟩; have G_text := Aside0.mk hn0; have HS1 := Aside0.mk (HS.out.call HST.out hr hg); have c3 := blk_cell HS1.out.r3 2; have z3 := blk_frozen HS1.out.r3 2; clear hr hg hc hn0)
  have HS2 := Aside0.mk (HS1.out.set HST.out 2 (.string x_text) (cs' := #[.int .i64 x_number, .int .i64 x_now, .string x_text]) rfl)
  clear c3 z3 HS HS1
  generalize W1.setCell ⟨b3, 2, none⟩ (.string x_text) = W2 at HS2 ⊢
  have HS := HS2
  clear HS2
  have FIN := Aside0.mk (HS.out.fin HST.out rfl)
  have h2 := HS.out.r2
  have h3 := HS.out.r3
  have hi : (Tryz.prog.info? 48).map (·.size) = some 3 := by kernel_rfl
  have H1C := Aside0.mk (show (#[.int .i64 x_number, .int .i64 x_now, .string x_text] : Array Value).all (·.oneCell') = true by simp [Value.oneCell'])
  go_wp2_with (first | (refine wpList_load_row rfl 48 (.tmp 3) rfl b3 rfl 48 #[.int .i64 x_number, .int .i64 x_now, .string x_text] (0, 0) _ h3 hu rfl hi ?_) | (refine wpList_store_row rfl 48 (.tmp 2) (.tmp 13) rfl w.heap.size #[.int .i64 x_number, .int .i64 x_now, .string x_text] rfl rfl 48 #[.int .i64 0, .int .i64 0, .string ⟨#[]⟩] h2 hi rfl H1C.out ?_))
  refine bodyPost_ret (v := .agg #[.int .i64 x_number, .int .i64 x_now, .string x_text]) (results_cell_row rfl _ _ w.heap.size 48 #[.int .i64 x_number, .int .i64 x_now, .string x_text] (0, 0) _ rfl FIN.out.1 hu rfl hi) rfl ⟨⟨⟨x_number, x_now, x_text⟩, [.int .i64 x_number, .int .i64 x_now, .string x_text], rfl, ?_, ⟨G_number.out, G_now.out, G_text.out⟩⟩, FIN.out.2.2.1, FIN.out.2.1⟩
  exact kBat_mkM _ _ _ _
set_option maxRecDepth 100000 in
set_option maxHeartbeats 8000000 in
theorem takeSen_calls (w0 : World) (rb : Nat) (f : Int) (w : World) (h : RS w0 rb f w) :
    Calls Tryz.prog 54 #[.pointer (some ⟨rb, 0, none⟩)] w (TakeAns kSen encA gSen w0 rb w) := by
  have hu := Tryz.underlying122
  have H0 := Aside0.mk h
  clear h
  have hz0 := Aside0.mk (H0.out.kept ((Below.refl _ w).alloc (Nat.le_refl _) (.cells #[.string ⟨#[]⟩, .int .i64 0, .slice none 0 0] 122)))
  have hc := takeText_calls w0 rb _ _ hz0.out
  go_enter Tryz.func54, Tryz.ntmps54
  go_upto_region 2 with (go_at_call 34; refine (show Calls _ _ _ _ _ from hc).mono ?_; rintro e W ⟨⟨x_name, rfl, hn0⟩, hr, hg⟩; have G_name := Aside0.mk hn0; have HS := Aside0.mk (TS.start_build (T := 122) H0.out hg hr #[.string x_name, .int .i64 0, .slice none 0 0]); clear hr hg hc hn0)
  generalize hb3 : W.heap.size = b3 at HS ⊢
  generalize W.alloc (.cells #[.string x_name, .int .i64 0, .slice none 0 0] 122) = W at HS ⊢
  clear hb3
  have HST := Aside0.mk (Stab.nil rb 122)
  obtain ⟨f_, hr_⟩ := HS.out.rs
  have hc := takeUp_calls w0 rb f_ _ hr_
  clear hr_
  go_upto_region 3 with (go_at_call 35; refine (show Calls _ _ _ _ _ from hc).mono ?_; rintro e W1 ⟨⟨x_floor, rfl, hn0, hn1⟩, hr, hg⟩; have G_floor := Aside0.mk (And.intro hn0 hn1); have HS1 := Aside0.mk (HS.out.call HST.out hr hg); have c3 := blk_cell HS1.out.r3 1; have z3 := blk_frozen HS1.out.r3 1; clear hr hg hc hn0 hn1)
  have HS2 := Aside0.mk (HS1.out.set HST.out 1 (.int .i64 x_floor) (cs' := #[.string x_name, .int .i64 x_floor, .slice none 0 0]) rfl)
  clear c3 z3 HS HS1
  generalize W1.setCell ⟨b3, 1, none⟩ (.int .i64 x_floor) = W2 at HS2 ⊢
  have HS := HS2
  clear HS2
  obtain ⟨f_, hr_⟩ := HS.out.rs
  have hc := tlIntU_calls w0 rb gUp (fun f W hW => takeUpA_calls w0 rb f W hW) f_ _ hr_
  clear hr_
  go_upto_region 4 with (go_at_call 83; refine (show Calls _ _ _ _ _ from hc).mono ?_; rintro e W1 ⟨⟨x_seqs, cs, rfl, ⟨v, rfl, hR⟩, hG⟩, hr, hg⟩; obtain ⟨A_seqs, n_seqs, c_seqs, e1⟩ := R_sl hR; subst e1; have G_seqs := Aside0.mk hG; have HS1 := Aside0.mk (HS.out.callR (R' := fun W => Kd.R (Kd.int .i64) 3 W w.heap.size (fun q => q ≠ rb) (.slice A_seqs n_seqs c_seqs) x_seqs) HST.out hr hg (Kd.R_lower hR HS.out.gr.size)); have c3 := blk_cell HS1.out.r3 2; have z3 := blk_frozen HS1.out.r3 2; clear hr hg hc hG hR; simp only [enc1, List.headD_cons])
  have HST2 := Aside0.mk (HST.out.row (d := (Kd.int .i64)) (e := 3) (base := w.heap.size) (v := .slice A_seqs n_seqs c_seqs) (xs := x_seqs) (by decide))
  clear HST
  have HST := HST2
  clear HST2
  have HS2 := Aside0.mk (HS1.out.set HST.out 2 (.slice A_seqs n_seqs c_seqs) (cs' := #[.string x_name, .int .i64 x_floor, .slice A_seqs n_seqs c_seqs]) rfl)
  clear c3 z3 HS HS1
  generalize W1.setCell ⟨b3, 2, none⟩ (.slice A_seqs n_seqs c_seqs) = W2 at HS2 ⊢
  have HS := HS2
  clear HS2
  have FIN := Aside0.mk (HS.out.fin HST.out rfl)
  have h2 := HS.out.r2
  have h3 := HS.out.r3
  have hi : (Tryz.prog.info? 122).map (·.size) = some 3 := by kernel_rfl
  have H1C := Aside0.mk (show (#[.string x_name, .int .i64 x_floor, .slice A_seqs n_seqs c_seqs] : Array Value).all (·.oneCell') = true by simp [Value.oneCell'])
  go_wp2_with (first | (refine wpList_load_row rfl 122 (.tmp 3) rfl b3 rfl 122 #[.string x_name, .int .i64 x_floor, .slice A_seqs n_seqs c_seqs] (0, 0) _ h3 hu rfl hi ?_) | (refine wpList_store_row rfl 122 (.tmp 2) (.tmp 13) rfl w.heap.size #[.string x_name, .int .i64 x_floor, .slice A_seqs n_seqs c_seqs] rfl rfl 122 #[.string ⟨#[]⟩, .int .i64 0, .slice none 0 0] h2 hi rfl H1C.out ?_))
  refine bodyPost_ret (v := .agg #[.string x_name, .int .i64 x_floor, .slice A_seqs n_seqs c_seqs]) (results_cell_row rfl _ _ w.heap.size 122 #[.string x_name, .int .i64 x_floor, .slice A_seqs n_seqs c_seqs] (0, 0) _ rfl FIN.out.1 hu rfl hi) rfl ⟨⟨⟨x_name, x_floor, x_seqs⟩, [.string x_name, .int .i64 x_floor, .slice A_seqs n_seqs c_seqs], rfl, ?_, ⟨G_name.out, G_floor.out, G_seqs.out⟩⟩, FIN.out.2.2.1, FIN.out.2.1⟩
  exact kSen_mkM _ _ _ _ FIN.out.2.2.2.2
set_option maxRecDepth 100000 in
set_option maxHeartbeats 8000000 in
theorem takeVatS_calls (w0 : World) (rb : Nat) (f : Int) (w : World) (h : RS w0 rb f w) :
    Calls Tryz.prog 87 #[.pointer (some ⟨rb, 0, none⟩)] w (TakeAns kVatS encA gVatS w0 rb w) := by
  have hu := Tryz.underlying102
  have H0 := Aside0.mk h
  clear h
  have hz0 := Aside0.mk (H0.out.kept ((Below.refl _ w).alloc (Nat.le_refl _) (.cells #[.int .i64 0, .int .i64 0, .int .i64 0, .int .i64 0, .int .i64 0, .int .i64 0, .int .i64 0, .string ⟨#[]⟩, .slice none 0 0, .slice none 0 0] 102)))
  have hc := takeUp_calls w0 rb _ _ hz0.out
  go_enter Tryz.func87, Tryz.ntmps87
  go_upto_region 2 with (go_at_call 35; refine (show Calls _ _ _ _ _ from hc).mono ?_; rintro e W ⟨⟨x_kind, rfl, hn0, hn1⟩, hr, hg⟩; have G_kind := Aside0.mk (And.intro hn0 hn1); have HS := Aside0.mk (TS.start_build (T := 102) H0.out hg hr #[.int .i64 x_kind, .int .i64 0, .int .i64 0, .int .i64 0, .int .i64 0, .int .i64 0, .int .i64 0, .string ⟨#[]⟩, .slice none 0 0, .slice none 0 0]); clear hr hg hc hn0 hn1)
  generalize hb3 : W.heap.size = b3 at HS ⊢
  generalize W.alloc (.cells #[.int .i64 x_kind, .int .i64 0, .int .i64 0, .int .i64 0, .int .i64 0, .int .i64 0, .int .i64 0, .string ⟨#[]⟩, .slice none 0 0, .slice none 0 0] 102) = W at HS ⊢
  clear hb3
  have HST := Aside0.mk (Stab.nil rb 102)
  obtain ⟨f_, hr_⟩ := HS.out.rs
  have hc := takeUp_calls w0 rb f_ _ hr_
  clear hr_
  go_upto_region 3 with (go_at_call 35; refine (show Calls _ _ _ _ _ from hc).mono ?_; rintro e W1 ⟨⟨x_many, rfl, hn0, hn1⟩, hr, hg⟩; have G_many := Aside0.mk (And.intro hn0 hn1); have HS1 := Aside0.mk (HS.out.call HST.out hr hg); have c3 := blk_cell HS1.out.r3 1; have z3 := blk_frozen HS1.out.r3 1; clear hr hg hc hn0 hn1)
  have HS2 := Aside0.mk (HS1.out.set HST.out 1 (.int .i64 x_many) (cs' := #[.int .i64 x_kind, .int .i64 x_many, .int .i64 0, .int .i64 0, .int .i64 0, .int .i64 0, .int .i64 0, .string ⟨#[]⟩, .slice none 0 0, .slice none 0 0]) rfl)
  clear c3 z3 HS HS1
  generalize W1.setCell ⟨b3, 1, none⟩ (.int .i64 x_many) = W2 at HS2 ⊢
  have HS := HS2
  clear HS2
  obtain ⟨f_, hr_⟩ := HS.out.rs
  have hc := rint_calls w0 rb f_ _ hr_
  clear hr_
  go_upto_region 4 with (go_at_call 37; refine (show Calls _ _ _ _ _ from hc).mono ?_; rintro e W1 ⟨⟨x_high, rfl, hn0, hn1⟩, hr, hg⟩; have G_high := Aside0.mk (And.intro hn0 hn1); have HS1 := Aside0.mk (HS.out.call HST.out hr hg); have c3 := blk_cell HS1.out.r3 2; have z3 := blk_frozen HS1.out.r3 2; clear hr hg hc hn0 hn1)
  have HS2 := Aside0.mk (HS1.out.set HST.out 2 (.int .i64 x_high) (cs' := #[.int .i64 x_kind, .int .i64 x_many, .int .i64 x_high, .int .i64 0, .int .i64 0, .int .i64 0, .int .i64 0, .string ⟨#[]⟩, .slice none 0 0, .slice none 0 0]) rfl)
  clear c3 z3 HS HS1
  generalize W1.setCell ⟨b3, 2, none⟩ (.int .i64 x_high) = W2 at HS2 ⊢
  have HS := HS2
  clear HS2
  obtain ⟨f_, hr_⟩ := HS.out.rs
  have hc := rint_calls w0 rb f_ _ hr_
  clear hr_
  go_upto_region 5 with (go_at_call 37; refine (show Calls _ _ _ _ _ from hc).mono ?_; rintro e W1 ⟨⟨x_low, rfl, hn0, hn1⟩, hr, hg⟩; have G_low := Aside0.mk (And.intro hn0 hn1); have HS1 := Aside0.mk (HS.out.call HST.out hr hg); have c3 := blk_cell HS1.out.r3 3; have z3 := blk_frozen HS1.out.r3 3; clear hr hg hc hn0 hn1)
  have HS2 := Aside0.mk (HS1.out.set HST.out 3 (.int .i64 x_low) (cs' := #[.int .i64 x_kind, .int .i64 x_many, .int .i64 x_high, .int .i64 x_low, .int .i64 0, .int .i64 0, .int .i64 0, .string ⟨#[]⟩, .slice none 0 0, .slice none 0 0]) rfl)
  clear c3 z3 HS HS1
  generalize W1.setCell ⟨b3, 3, none⟩ (.int .i64 x_low) = W2 at HS2 ⊢
  have HS := HS2
  clear HS2
  obtain ⟨f_, hr_⟩ := HS.out.rs
  have hc := rint_calls w0 rb f_ _ hr_
  clear hr_
  go_upto_region 6 with (go_at_call 37; refine (show Calls _ _ _ _ _ from hc).mono ?_; rintro e W1 ⟨⟨x_last, rfl, hn0, hn1⟩, hr, hg⟩; have G_last := Aside0.mk (And.intro hn0 hn1); have HS1 := Aside0.mk (HS.out.call HST.out hr hg); have c3 := blk_cell HS1.out.r3 4; have z3 := blk_frozen HS1.out.r3 4; clear hr hg hc hn0 hn1)
  have HS2 := Aside0.mk (HS1.out.set HST.out 4 (.int .i64 x_last) (cs' := #[.int .i64 x_kind, .int .i64 x_many, .int .i64 x_high, .int .i64 x_low, .int .i64 x_last, .int .i64 0, .int .i64 0, .string ⟨#[]⟩, .slice none 0 0, .slice none 0 0]) rfl)
  clear c3 z3 HS HS1
  generalize W1.setCell ⟨b3, 4, none⟩ (.int .i64 x_last) = W2 at HS2 ⊢
  have HS := HS2
  clear HS2
  obtain ⟨f_, hr_⟩ := HS.out.rs
  have hc := takeUp_calls w0 rb f_ _ hr_
  clear hr_
  go_upto_region 7 with (go_at_call 35; refine (show Calls _ _ _ _ _ from hc).mono ?_; rintro e W1 ⟨⟨x_time, rfl, hn0, hn1⟩, hr, hg⟩; have G_time := Aside0.mk (And.intro hn0 hn1); have HS1 := Aside0.mk (HS.out.call HST.out hr hg); have c3 := blk_cell HS1.out.r3 5; have z3 := blk_frozen HS1.out.r3 5; clear hr hg hc hn0 hn1)
  have HS2 := Aside0.mk (HS1.out.set HST.out 5 (.int .i64 x_time) (cs' := #[.int .i64 x_kind, .int .i64 x_many, .int .i64 x_high, .int .i64 x_low, .int .i64 x_last, .int .i64 x_time, .int .i64 0, .string ⟨#[]⟩, .slice none 0 0, .slice none 0 0]) rfl)
  clear c3 z3 HS HS1
  generalize W1.setCell ⟨b3, 5, none⟩ (.int .i64 x_time) = W2 at HS2 ⊢
  have HS := HS2
  clear HS2
  obtain ⟨f_, hr_⟩ := HS.out.rs
  have hc := takeUp_calls w0 rb f_ _ hr_
  clear hr_
  go_upto_region 8 with (go_at_call 35; refine (show Calls _ _ _ _ _ from hc).mono ?_; rintro e W1 ⟨⟨x_seq, rfl, hn0, hn1⟩, hr, hg⟩; have G_seq := Aside0.mk (And.intro hn0 hn1); have HS1 := Aside0.mk (HS.out.call HST.out hr hg); have c3 := blk_cell HS1.out.r3 6; have z3 := blk_frozen HS1.out.r3 6; clear hr hg hc hn0 hn1)
  have HS2 := Aside0.mk (HS1.out.set HST.out 6 (.int .i64 x_seq) (cs' := #[.int .i64 x_kind, .int .i64 x_many, .int .i64 x_high, .int .i64 x_low, .int .i64 x_last, .int .i64 x_time, .int .i64 x_seq, .string ⟨#[]⟩, .slice none 0 0, .slice none 0 0]) rfl)
  clear c3 z3 HS HS1
  generalize W1.setCell ⟨b3, 6, none⟩ (.int .i64 x_seq) = W2 at HS2 ⊢
  have HS := HS2
  clear HS2
  obtain ⟨f_, hr_⟩ := HS.out.rs
  have hc := takeText_calls w0 rb f_ _ hr_
  clear hr_
  go_upto_region 9 with (go_at_call 34; refine (show Calls _ _ _ _ _ from hc).mono ?_; rintro e W1 ⟨⟨x_source, rfl, hn0⟩, hr, hg⟩; have G_source := Aside0.mk hn0; have HS1 := Aside0.mk (HS.out.call HST.out hr hg); have c3 := blk_cell HS1.out.r3 7; have z3 := blk_frozen HS1.out.r3 7; clear hr hg hc hn0)
  have HS2 := Aside0.mk (HS1.out.set HST.out 7 (.string x_source) (cs' := #[.int .i64 x_kind, .int .i64 x_many, .int .i64 x_high, .int .i64 x_low, .int .i64 x_last, .int .i64 x_time, .int .i64 x_seq, .string x_source, .slice none 0 0, .slice none 0 0]) rfl)
  clear c3 z3 HS HS1
  generalize W1.setCell ⟨b3, 7, none⟩ (.string x_source) = W2 at HS2 ⊢
  have HS := HS2
  clear HS2
  obtain ⟨f_, hr_⟩ := HS.out.rs
  have hc := tlIntI_calls w0 rb gInt (fun f W hW => rintA_calls w0 rb f W hW) f_ _ hr_
  clear hr_
  go_upto_region 10 with (go_at_call 83; refine (show Calls _ _ _ _ _ from hc).mono ?_; rintro e W1 ⟨⟨x_samples, cs, rfl, ⟨v, rfl, hR⟩, hG⟩, hr, hg⟩; obtain ⟨A_samples, n_samples, c_samples, e1⟩ := R_sl hR; subst e1; have G_samples := Aside0.mk hG; have HS1 := Aside0.mk (HS.out.callR (R' := fun W => Kd.R (Kd.int .i64) 3 W w.heap.size (fun q => q ≠ rb) (.slice A_samples n_samples c_samples) x_samples) HST.out hr hg (Kd.R_lower hR HS.out.gr.size)); have c3 := blk_cell HS1.out.r3 8; have z3 := blk_frozen HS1.out.r3 8; clear hr hg hc hG hR; simp only [enc1, List.headD_cons])
  have HST2 := Aside0.mk (HST.out.row (d := (Kd.int .i64)) (e := 3) (base := w.heap.size) (v := .slice A_samples n_samples c_samples) (xs := x_samples) (by decide))
  clear HST
  have HST := HST2
  clear HST2
  have HS2 := Aside0.mk (HS1.out.set HST.out 8 (.slice A_samples n_samples c_samples) (cs' := #[.int .i64 x_kind, .int .i64 x_many, .int .i64 x_high, .int .i64 x_low, .int .i64 x_last, .int .i64 x_time, .int .i64 x_seq, .string x_source, .slice A_samples n_samples c_samples, .slice none 0 0]) rfl)
  clear c3 z3 HS HS1
  generalize W1.setCell ⟨b3, 8, none⟩ (.slice A_samples n_samples c_samples) = W2 at HS2 ⊢
  have HS := HS2
  clear HS2
  obtain ⟨f_, hr_⟩ := HS.out.rs
  have hc := tlStr_calls w0 rb gTxt (fun f W hW => takeTextA_calls w0 rb f W hW) f_ _ hr_
  clear hr_
  go_upto_region 11 with (go_at_call 105; refine (show Calls _ _ _ _ _ from hc).mono ?_; rintro e W1 ⟨⟨x_members, cs, rfl, ⟨v, rfl, hR⟩, hG⟩, hr, hg⟩; obtain ⟨A_members, n_members, c_members, e1⟩ := R_sl hR; subst e1; have G_members := Aside0.mk hG; have HS1 := Aside0.mk (HS.out.callR (R' := fun W => Kd.R Kd.string 9 W w.heap.size (fun q => q ≠ rb) (.slice A_members n_members c_members) x_members) HST.out hr hg (Kd.R_lower hR HS.out.gr.size)); have c3 := blk_cell HS1.out.r3 9; have z3 := blk_frozen HS1.out.r3 9; clear hr hg hc hG hR; simp only [enc1, List.headD_cons])
  have HST2 := Aside0.mk (HST.out.row (d := Kd.string) (e := 9) (base := w.heap.size) (v := .slice A_members n_members c_members) (xs := x_members) (by decide))
  clear HST
  have HST := HST2
  clear HST2
  have HS2 := Aside0.mk (HS1.out.set HST.out 9 (.slice A_members n_members c_members) (cs' := #[.int .i64 x_kind, .int .i64 x_many, .int .i64 x_high, .int .i64 x_low, .int .i64 x_last, .int .i64 x_time, .int .i64 x_seq, .string x_source, .slice A_samples n_samples c_samples, .slice A_members n_members c_members]) rfl)
  clear c3 z3 HS HS1
  generalize W1.setCell ⟨b3, 9, none⟩ (.slice A_members n_members c_members) = W2 at HS2 ⊢
  have HS := HS2
  clear HS2
  have FIN := Aside0.mk (HS.out.fin HST.out rfl)
  have h2 := HS.out.r2
  have h3 := HS.out.r3
  have hi : (Tryz.prog.info? 102).map (·.size) = some 10 := by kernel_rfl
  have H1C := Aside0.mk (show (#[.int .i64 x_kind, .int .i64 x_many, .int .i64 x_high, .int .i64 x_low, .int .i64 x_last, .int .i64 x_time, .int .i64 x_seq, .string x_source, .slice A_samples n_samples c_samples, .slice A_members n_members c_members] : Array Value).all (·.oneCell') = true by simp [Value.oneCell'])
  go_wp2_with (first | (refine wpList_load_row rfl 102 (.tmp 3) rfl b3 rfl 102 #[.int .i64 x_kind, .int .i64 x_many, .int .i64 x_high, .int .i64 x_low, .int .i64 x_last, .int .i64 x_time, .int .i64 x_seq, .string x_source, .slice A_samples n_samples c_samples, .slice A_members n_members c_members] (0, 0) _ h3 hu rfl hi ?_) | (refine wpList_store_row rfl 102 (.tmp 2) (.tmp 34) rfl w.heap.size #[.int .i64 x_kind, .int .i64 x_many, .int .i64 x_high, .int .i64 x_low, .int .i64 x_last, .int .i64 x_time, .int .i64 x_seq, .string x_source, .slice A_samples n_samples c_samples, .slice A_members n_members c_members] rfl rfl 102 #[.int .i64 0, .int .i64 0, .int .i64 0, .int .i64 0, .int .i64 0, .int .i64 0, .int .i64 0, .string ⟨#[]⟩, .slice none 0 0, .slice none 0 0] h2 hi rfl H1C.out ?_))
  refine bodyPost_ret (v := .agg #[.int .i64 x_kind, .int .i64 x_many, .int .i64 x_high, .int .i64 x_low, .int .i64 x_last, .int .i64 x_time, .int .i64 x_seq, .string x_source, .slice A_samples n_samples c_samples, .slice A_members n_members c_members]) (results_cell_row rfl _ _ w.heap.size 102 #[.int .i64 x_kind, .int .i64 x_many, .int .i64 x_high, .int .i64 x_low, .int .i64 x_last, .int .i64 x_time, .int .i64 x_seq, .string x_source, .slice A_samples n_samples c_samples, .slice A_members n_members c_members] (0, 0) _ rfl FIN.out.1 hu rfl hi) rfl ⟨⟨⟨x_kind, x_many, x_high, x_low, x_last, x_time, x_seq, x_source, x_samples, x_members⟩, [.int .i64 x_kind, .int .i64 x_many, .int .i64 x_high, .int .i64 x_low, .int .i64 x_last, .int .i64 x_time, .int .i64 x_seq, .string x_source, .slice A_samples n_samples c_samples, .slice A_members n_members c_members], rfl, ?_, ⟨G_kind.out, G_many.out, G_high.out, G_low.out, G_last.out, G_time.out, G_seq.out, G_source.out, G_samples.out, G_members.out⟩⟩, FIN.out.2.2.1, FIN.out.2.1⟩
  exact kVatS_mkM _ _ _ _ FIN.out.2.2.2.1.2 FIN.out.2.2.2.2
set_option maxRecDepth 100000 in
set_option maxHeartbeats 8000000 in
theorem takeEmi_calls (w0 : World) (rb : Nat) (f : Int) (w : World) (h : RS w0 rb f w) :
    Calls Tryz.prog 14 #[.pointer (some ⟨rb, 0, none⟩)] w (TakeAns kEmi encA gEmi w0 rb w) := by
  have hu := Tryz.underlying30
  have H0 := Aside0.mk h
  clear h
  have HS := Aside0.mk (TS.start_var (T := 30) H0.out #[.string ⟨#[]⟩, .string ⟨#[]⟩, .int .i64 0, .int .i64 0, .int .i64 0, .bool false, .int .i64 0, .int .i64 0, .int .i64 0, .int .i64 0, .int .i64 0, .int .i64 0, .int .i64 0, .int .i64 0, .bool false])
  go_enter Tryz.func14, Tryz.ntmps14
  go_upto_region 2 with fail
  generalize (w.alloc (.cells #[.string ⟨#[]⟩, .string ⟨#[]⟩, .int .i64 0, .int .i64 0, .int .i64 0, .bool false, .int .i64 0, .int .i64 0, .int .i64 0, .int .i64 0, .int .i64 0, .int .i64 0, .int .i64 0, .int .i64 0, .bool false] 30)).alloc (.cells #[.string ⟨#[]⟩, .string ⟨#[]⟩, .int .i64 0, .int .i64 0, .int .i64 0, .bool false, .int .i64 0, .int .i64 0, .int .i64 0, .int .i64 0, .int .i64 0, .int .i64 0, .int .i64 0, .int .i64 0, .bool false] 30) = W at HS ⊢
  have HST := Aside0.mk (Stab.nil rb 30)
  obtain ⟨f_, hr_⟩ := HS.out.rs
  have hc := takeText_calls w0 rb f_ _ hr_
  clear hr_
  go_upto_region 3 with (go_at_call 34; refine (show Calls _ _ _ _ _ from hc).mono ?_; rintro e W1 ⟨⟨x_key, rfl, hn0⟩, hr, hg⟩; have G_key := Aside0.mk hn0; have HS1 := Aside0.mk (HS.out.call HST.out hr hg); have c3 := blk_cell HS1.out.r3 0; have z3 := blk_frozen HS1.out.r3 0; clear hr hg hc hn0)
  have HS2 := Aside0.mk (HS1.out.set HST.out 0 (.string x_key) (cs' := #[.string x_key, .string ⟨#[]⟩, .int .i64 0, .int .i64 0, .int .i64 0, .bool false, .int .i64 0, .int .i64 0, .int .i64 0, .int .i64 0, .int .i64 0, .int .i64 0, .int .i64 0, .int .i64 0, .bool false]) rfl)
  clear c3 z3 HS HS1
  generalize W1.setCell ⟨(w.heap.size + 1), 0, none⟩ (.string x_key) = W2 at HS2 ⊢
  have HS := HS2
  clear HS2
  obtain ⟨f_, hr_⟩ := HS.out.rs
  have hc := takeText_calls w0 rb f_ _ hr_
  clear hr_
  go_upto_region 4 with (go_at_call 34; refine (show Calls _ _ _ _ _ from hc).mono ?_; rintro e W1 ⟨⟨x_policy, rfl, hn0⟩, hr, hg⟩; have G_policy := Aside0.mk hn0; have HS1 := Aside0.mk (HS.out.call HST.out hr hg); have c3 := blk_cell HS1.out.r3 1; have z3 := blk_frozen HS1.out.r3 1; clear hr hg hc hn0)
  have HS2 := Aside0.mk (HS1.out.set HST.out 1 (.string x_policy) (cs' := #[.string x_key, .string x_policy, .int .i64 0, .int .i64 0, .int .i64 0, .bool false, .int .i64 0, .int .i64 0, .int .i64 0, .int .i64 0, .int .i64 0, .int .i64 0, .int .i64 0, .int .i64 0, .bool false]) rfl)
  clear c3 z3 HS HS1
  generalize W1.setCell ⟨(w.heap.size + 1), 1, none⟩ (.string x_policy) = W2 at HS2 ⊢
  have HS := HS2
  clear HS2
  obtain ⟨f_, hr_⟩ := HS.out.rs
  have hc := takeUp_calls w0 rb f_ _ hr_
  clear hr_
  go_upto_region 5 with (go_at_call 35; refine (show Calls _ _ _ _ _ from hc).mono ?_; rintro e W1 ⟨⟨x_kind, rfl, hn0, hn1⟩, hr, hg⟩; have G_kind := Aside0.mk (And.intro hn0 hn1); have HS1 := Aside0.mk (HS.out.call HST.out hr hg); have c3 := blk_cell HS1.out.r3 2; have z3 := blk_frozen HS1.out.r3 2; clear hr hg hc hn0 hn1)
  have HS2 := Aside0.mk (HS1.out.set HST.out 2 (.int .i64 x_kind) (cs' := #[.string x_key, .string x_policy, .int .i64 x_kind, .int .i64 0, .int .i64 0, .bool false, .int .i64 0, .int .i64 0, .int .i64 0, .int .i64 0, .int .i64 0, .int .i64 0, .int .i64 0, .int .i64 0, .bool false]) rfl)
  clear c3 z3 HS HS1
  generalize W1.setCell ⟨(w.heap.size + 1), 2, none⟩ (.int .i64 x_kind) = W2 at HS2 ⊢
  have HS := HS2
  clear HS2
  obtain ⟨f_, hr_⟩ := HS.out.rs
  have hc := takeUp_calls w0 rb f_ _ hr_
  clear hr_
  go_upto_region 6 with (go_at_call 35; refine (show Calls _ _ _ _ _ from hc).mono ?_; rintro e W1 ⟨⟨x_start, rfl, hn0, hn1⟩, hr, hg⟩; have G_start := Aside0.mk (And.intro hn0 hn1); have HS1 := Aside0.mk (HS.out.call HST.out hr hg); have c3 := blk_cell HS1.out.r3 3; have z3 := blk_frozen HS1.out.r3 3; clear hr hg hc hn0 hn1)
  have HS2 := Aside0.mk (HS1.out.set HST.out 3 (.int .i64 x_start) (cs' := #[.string x_key, .string x_policy, .int .i64 x_kind, .int .i64 x_start, .int .i64 0, .bool false, .int .i64 0, .int .i64 0, .int .i64 0, .int .i64 0, .int .i64 0, .int .i64 0, .int .i64 0, .int .i64 0, .bool false]) rfl)
  clear c3 z3 HS HS1
  generalize W1.setCell ⟨(w.heap.size + 1), 3, none⟩ (.int .i64 x_start) = W2 at HS2 ⊢
  have HS := HS2
  clear HS2
  obtain ⟨f_, hr_⟩ := HS.out.rs
  have hc := takeUp_calls w0 rb f_ _ hr_
  clear hr_
  go_upto_region 7 with (go_at_call 35; refine (show Calls _ _ _ _ _ from hc).mono ?_; rintro e W1 ⟨⟨x_rev, rfl, hn0, hn1⟩, hr, hg⟩; have G_rev := Aside0.mk (And.intro hn0 hn1); have HS1 := Aside0.mk (HS.out.call HST.out hr hg); have c3 := blk_cell HS1.out.r3 4; have z3 := blk_frozen HS1.out.r3 4; clear hr hg hc hn0 hn1)
  have HS2 := Aside0.mk (HS1.out.set HST.out 4 (.int .i64 x_rev) (cs' := #[.string x_key, .string x_policy, .int .i64 x_kind, .int .i64 x_start, .int .i64 x_rev, .bool false, .int .i64 0, .int .i64 0, .int .i64 0, .int .i64 0, .int .i64 0, .int .i64 0, .int .i64 0, .int .i64 0, .bool false]) rfl)
  clear c3 z3 HS HS1
  generalize W1.setCell ⟨(w.heap.size + 1), 4, none⟩ (.int .i64 x_rev) = W2 at HS2 ⊢
  have HS := HS2
  clear HS2
  obtain ⟨f_, hr_⟩ := HS.out.rs
  have hc := mark_calls w0 rb f_ _ hr_
  clear hr_
  go_upto_region 8 with (go_at_call 36; refine (show Calls _ _ _ _ _ from hc).mono ?_; rintro e W1 ⟨⟨x_final, rfl⟩, hr, hg⟩; have G_final := Aside0.mk trivial; have HS1 := Aside0.mk (HS.out.call HST.out hr hg); have c3 := blk_cell HS1.out.r3 5; have z3 := blk_frozen HS1.out.r3 5; clear hr hg hc)
  have HS2 := Aside0.mk (HS1.out.set HST.out 5 (.bool x_final) (cs' := #[.string x_key, .string x_policy, .int .i64 x_kind, .int .i64 x_start, .int .i64 x_rev, .bool x_final, .int .i64 0, .int .i64 0, .int .i64 0, .int .i64 0, .int .i64 0, .int .i64 0, .int .i64 0, .int .i64 0, .bool false]) rfl)
  clear c3 z3 HS HS1
  generalize W1.setCell ⟨(w.heap.size + 1), 5, none⟩ (.bool x_final) = W2 at HS2 ⊢
  have HS := HS2
  clear HS2
  obtain ⟨f_, hr_⟩ := HS.out.rs
  have hc := takeUp_calls w0 rb f_ _ hr_
  clear hr_
  go_upto_region 9 with (go_at_call 35; refine (show Calls _ _ _ _ _ from hc).mono ?_; rintro e W1 ⟨⟨x_rkind, rfl, hn0, hn1⟩, hr, hg⟩; have G_rkind := Aside0.mk (And.intro hn0 hn1); have HS1 := Aside0.mk (HS.out.call HST.out hr hg); have c3 := blk_cell HS1.out.r3 6; have z3 := blk_frozen HS1.out.r3 6; clear hr hg hc hn0 hn1)
  have HS2 := Aside0.mk (HS1.out.set HST.out 6 (.int .i64 x_rkind) (cs' := #[.string x_key, .string x_policy, .int .i64 x_kind, .int .i64 x_start, .int .i64 x_rev, .bool x_final, .int .i64 x_rkind, .int .i64 0, .int .i64 0, .int .i64 0, .int .i64 0, .int .i64 0, .int .i64 0, .int .i64 0, .bool false]) rfl)
  clear c3 z3 HS HS1
  generalize W1.setCell ⟨(w.heap.size + 1), 6, none⟩ (.int .i64 x_rkind) = W2 at HS2 ⊢
  have HS := HS2
  clear HS2
  obtain ⟨f_, hr_⟩ := HS.out.rs
  have hc := takeUp_calls w0 rb f_ _ hr_
  clear hr_
  go_upto_region 10 with (go_at_call 35; refine (show Calls _ _ _ _ _ from hc).mono ?_; rintro e W1 ⟨⟨x_count, rfl, hn0, hn1⟩, hr, hg⟩; have G_count := Aside0.mk (And.intro hn0 hn1); have HS1 := Aside0.mk (HS.out.call HST.out hr hg); have c3 := blk_cell HS1.out.r3 7; have z3 := blk_frozen HS1.out.r3 7; clear hr hg hc hn0 hn1)
  have HS2 := Aside0.mk (HS1.out.set HST.out 7 (.int .i64 x_count) (cs' := #[.string x_key, .string x_policy, .int .i64 x_kind, .int .i64 x_start, .int .i64 x_rev, .bool x_final, .int .i64 x_rkind, .int .i64 x_count, .int .i64 0, .int .i64 0, .int .i64 0, .int .i64 0, .int .i64 0, .int .i64 0, .bool false]) rfl)
  clear c3 z3 HS HS1
  generalize W1.setCell ⟨(w.heap.size + 1), 7, none⟩ (.int .i64 x_count) = W2 at HS2 ⊢
  have HS := HS2
  clear HS2
  obtain ⟨f_, hr_⟩ := HS.out.rs
  have hc := rint_calls w0 rb f_ _ hr_
  clear hr_
  go_upto_region 11 with (first | (go_at_call 37; refine (show Calls _ _ _ _ _ from hc).mono ?_; rintro e W0 ⟨⟨hi_, rfl, hn0, hn1⟩, hr, hg⟩; have HS0 := Aside0.mk (HS.out.call HST.out hr hg); clear hc; obtain ⟨f2_, hr2_⟩ := hr; have hc2 := rint_calls w0 rb f2_ _ hr2_; clear hr2_ hg hn0 hn1) | (go_at_call 37; refine (show Calls _ _ _ _ _ from hc2).mono ?_; rintro e W1 ⟨⟨lo_, rfl, hn0, hn1⟩, hr, hg⟩; have HS1 := Aside0.mk (HS0.out.call HST.out hr hg); clear hr hg hc2 hn0 hn1))
  obtain ⟨x_sum, hsum, hsb⟩ := sum_some hi_ lo_
  have hc := fun W => bale_sum.calls hi_ lo_ x_sum W hsum
  have G_sum := Aside0.mk hsb
  clear hsum hsb HS HS0
  go_upto_region 12 with (go_at_call 38; refine (show Calls _ _ _ _ _ from hc _).mono ?_; rintro e W2 ⟨rfl, hd⟩; have HS2 := Aside0.mk (HS1.out.call HST.out (by obtain ⟨f, hr⟩ := HS1.out.rs; exact ⟨f, hr.kept hd.below⟩) (grown_of_below hd.below _)); have c3 := blk_cell HS2.out.r3 8; have z3 := blk_frozen HS2.out.r3 8; clear hd hc)
  have HS := Aside0.mk (HS2.out.set HST.out 8 (.int .i64 x_sum) (cs' := #[.string x_key, .string x_policy, .int .i64 x_kind, .int .i64 x_start, .int .i64 x_rev, .bool x_final, .int .i64 x_rkind, .int .i64 x_count, .int .i64 x_sum, .int .i64 0, .int .i64 0, .int .i64 0, .int .i64 0, .int .i64 0, .bool false]) rfl)
  clear c3 z3 HS1 HS2
  generalize W2.setCell ⟨(w.heap.size + 1), 8, none⟩ (.int .i64 x_sum) = W3 at HS ⊢
  obtain ⟨f_, hr_⟩ := HS.out.rs
  have hc := rint_calls w0 rb f_ _ hr_
  clear hr_
  go_upto_region 13 with (go_at_call 37; refine (show Calls _ _ _ _ _ from hc).mono ?_; rintro e W1 ⟨⟨x_min, rfl, hn0, hn1⟩, hr, hg⟩; have G_min := Aside0.mk (And.intro hn0 hn1); have HS1 := Aside0.mk (HS.out.call HST.out hr hg); have c3 := blk_cell HS1.out.r3 9; have z3 := blk_frozen HS1.out.r3 9; clear hr hg hc hn0 hn1)
  have HS2 := Aside0.mk (HS1.out.set HST.out 9 (.int .i64 x_min) (cs' := #[.string x_key, .string x_policy, .int .i64 x_kind, .int .i64 x_start, .int .i64 x_rev, .bool x_final, .int .i64 x_rkind, .int .i64 x_count, .int .i64 x_sum, .int .i64 x_min, .int .i64 0, .int .i64 0, .int .i64 0, .int .i64 0, .bool false]) rfl)
  clear c3 z3 HS HS1
  generalize W1.setCell ⟨(w.heap.size + 1), 9, none⟩ (.int .i64 x_min) = W2 at HS2 ⊢
  have HS := HS2
  clear HS2
  obtain ⟨f_, hr_⟩ := HS.out.rs
  have hc := rint_calls w0 rb f_ _ hr_
  clear hr_
  go_upto_region 14 with (go_at_call 37; refine (show Calls _ _ _ _ _ from hc).mono ?_; rintro e W1 ⟨⟨x_max, rfl, hn0, hn1⟩, hr, hg⟩; have G_max := Aside0.mk (And.intro hn0 hn1); have HS1 := Aside0.mk (HS.out.call HST.out hr hg); have c3 := blk_cell HS1.out.r3 10; have z3 := blk_frozen HS1.out.r3 10; clear hr hg hc hn0 hn1)
  have HS2 := Aside0.mk (HS1.out.set HST.out 10 (.int .i64 x_max) (cs' := #[.string x_key, .string x_policy, .int .i64 x_kind, .int .i64 x_start, .int .i64 x_rev, .bool x_final, .int .i64 x_rkind, .int .i64 x_count, .int .i64 x_sum, .int .i64 x_min, .int .i64 x_max, .int .i64 0, .int .i64 0, .int .i64 0, .bool false]) rfl)
  clear c3 z3 HS HS1
  generalize W1.setCell ⟨(w.heap.size + 1), 10, none⟩ (.int .i64 x_max) = W2 at HS2 ⊢
  have HS := HS2
  clear HS2
  go_wp2_with fail
  go_loopw [6, 54] (fun _ v54 wr => ∃ (jj q0 q1 q2 : Int), 0 ≤ jj ∧ jj ≤ 3 ∧ v54 = .int .i64 jj ∧ gInt q0 ∧ gInt q1 ∧ gInt q2 ∧ TS w0 w rb 30 w.heap.size (w.heap.size + 1) (fun _ => True) #[.string ⟨#[]⟩, .string ⟨#[]⟩, .int .i64 0, .int .i64 0, .int .i64 0, .bool false, .int .i64 0, .int .i64 0, .int .i64 0, .int .i64 0, .int .i64 0, .int .i64 0, .int .i64 0, .int .i64 0, .bool false] #[.string x_key, .string x_policy, .int .i64 x_kind, .int .i64 x_start, .int .i64 x_rev, .bool x_final, .int .i64 x_rkind, .int .i64 x_count, .int .i64 x_sum, .int .i64 x_min, .int .i64 x_max, .int .i64 q0, .int .i64 q1, .int .i64 q2, .bool false] wr) (fun _ v54 _ => (3 - intOf v54).toNat)
  case atStart => exact ⟨0, 0, 0, 0, by omega, by omega, rfl, by unfold gInt; omega, by unfold gInt; omega, by unfold gInt; omega, HS.out⟩
  case round =>
    obtain ⟨jj, x_q0, x_q1, x_q2, hj0, hj1, rfl, hq0, hq1, hq2, hTS⟩ := hrel
    have G_q0 := Aside0.mk hq0
    have G_q1 := Aside0.mk hq1
    have G_q2 := Aside0.mk hq2
    have HS := Aside0.mk hTS
    clear hq0 hq1 hq2 hTS
    rcases (show jj = 0 ∨ jj = 1 ∨ jj = 2 ∨ jj = 3 by omega) with rfl | rfl | rfl | rfl
    · obtain ⟨f_, hr_⟩ := HS.out.rs
      have hc := rint_calls w0 rb f_ _ hr_
      clear hr_ hj0 hj1
      go_upto_region 18 with (go_at_call 37; refine (show Calls _ _ _ _ _ from hc).mono ?_; rintro e W1 ⟨⟨x_n, rfl, hn0, hn1⟩, hr, hg⟩; have G_n := Aside0.mk (And.intro hn0 hn1); have HS1 := Aside0.mk (HS.out.call HST.out hr hg); have c3 := blk_cell HS1.out.r3 11; have z3 := blk_frozen HS1.out.r3 11; clear hr hg hc hn0 hn1)
      have HS2 := Aside0.mk (HS1.out.set HST.out 11 (.int .i64 x_n) (cs' := #[.string x_key, .string x_policy, .int .i64 x_kind, .int .i64 x_start, .int .i64 x_rev, .bool x_final, .int .i64 x_rkind, .int .i64 x_count, .int .i64 x_sum, .int .i64 x_min, .int .i64 x_max, .int .i64 x_n, .int .i64 x_q1, .int .i64 x_q2, .bool false]) rfl)
      clear c3 z3 HS1 HS
      generalize W1.setCell ⟨(w.heap.size + 1), 11, none⟩ (.int .i64 x_n) = W2 at HS2 ⊢
      go_wp2
      go_roundw
      case rel => exact ⟨1, x_n, x_q1, x_q2, by omega, by omega, rfl, G_n.out, G_q1.out, G_q2.out, HS2.out⟩
      case measure => simp [intOf]
    · obtain ⟨f_, hr_⟩ := HS.out.rs
      have hc := rint_calls w0 rb f_ _ hr_
      clear hr_ hj0 hj1
      go_upto_region 18 with (go_at_call 37; refine (show Calls _ _ _ _ _ from hc).mono ?_; rintro e W1 ⟨⟨x_n, rfl, hn0, hn1⟩, hr, hg⟩; have G_n := Aside0.mk (And.intro hn0 hn1); have HS1 := Aside0.mk (HS.out.call HST.out hr hg); have c3 := blk_cell HS1.out.r3 12; have z3 := blk_frozen HS1.out.r3 12; clear hr hg hc hn0 hn1)
      have HS2 := Aside0.mk (HS1.out.set HST.out 12 (.int .i64 x_n) (cs' := #[.string x_key, .string x_policy, .int .i64 x_kind, .int .i64 x_start, .int .i64 x_rev, .bool x_final, .int .i64 x_rkind, .int .i64 x_count, .int .i64 x_sum, .int .i64 x_min, .int .i64 x_max, .int .i64 x_q0, .int .i64 x_n, .int .i64 x_q2, .bool false]) rfl)
      clear c3 z3 HS1 HS
      generalize W1.setCell ⟨(w.heap.size + 1), 12, none⟩ (.int .i64 x_n) = W2 at HS2 ⊢
      go_wp2
      go_roundw
      case rel => exact ⟨2, x_q0, x_n, x_q2, by omega, by omega, rfl, G_q0.out, G_n.out, G_q2.out, HS2.out⟩
      case measure => simp [intOf]
    · obtain ⟨f_, hr_⟩ := HS.out.rs
      have hc := rint_calls w0 rb f_ _ hr_
      clear hr_ hj0 hj1
      go_upto_region 18 with (go_at_call 37; refine (show Calls _ _ _ _ _ from hc).mono ?_; rintro e W1 ⟨⟨x_n, rfl, hn0, hn1⟩, hr, hg⟩; have G_n := Aside0.mk (And.intro hn0 hn1); have HS1 := Aside0.mk (HS.out.call HST.out hr hg); have c3 := blk_cell HS1.out.r3 13; have z3 := blk_frozen HS1.out.r3 13; clear hr hg hc hn0 hn1)
      have HS2 := Aside0.mk (HS1.out.set HST.out 13 (.int .i64 x_n) (cs' := #[.string x_key, .string x_policy, .int .i64 x_kind, .int .i64 x_start, .int .i64 x_rev, .bool x_final, .int .i64 x_rkind, .int .i64 x_count, .int .i64 x_sum, .int .i64 x_min, .int .i64 x_max, .int .i64 x_q0, .int .i64 x_q1, .int .i64 x_n, .bool false]) rfl)
      clear c3 z3 HS1 HS
      generalize W1.setCell ⟨(w.heap.size + 1), 13, none⟩ (.int .i64 x_n) = W2 at HS2 ⊢
      go_wp2
      go_roundw
      case rel => exact ⟨3, x_q0, x_q1, x_n, by omega, by omega, rfl, G_q0.out, G_q1.out, G_n.out, HS2.out⟩
      case measure => simp [intOf]
    · obtain ⟨f_, hr_⟩ := HS.out.rs
      have hc := mark_calls w0 rb f_ _ hr_
      clear hr_
      go_upto_region 20 with (go_at_call 36; refine (show Calls _ _ _ _ _ from hc).mono ?_; rintro e W1 ⟨⟨x_over, rfl⟩, hr, hg⟩; have G_over := Aside0.mk trivial; have HS1 := Aside0.mk (HS.out.call HST.out hr hg); have c3 := blk_cell HS1.out.r3 14; have z3 := blk_frozen HS1.out.r3 14; clear hr hg hc)
      have HS2 := Aside0.mk (HS1.out.set HST.out 14 (.bool x_over) (cs' := #[.string x_key, .string x_policy, .int .i64 x_kind, .int .i64 x_start, .int .i64 x_rev, .bool x_final, .int .i64 x_rkind, .int .i64 x_count, .int .i64 x_sum, .int .i64 x_min, .int .i64 x_max, .int .i64 x_q0, .int .i64 x_q1, .int .i64 x_q2, .bool x_over]) rfl)
      clear c3 z3 HS HS1
      generalize W1.setCell ⟨(w.heap.size + 1), 14, none⟩ (.bool x_over) = W2 at HS2 ⊢
      have HS := HS2
      clear HS2
      have FIN := Aside0.mk (HS.out.fin HST.out rfl)
      have h2 := HS.out.r2
      have h3 := HS.out.r3
      have hi : (Tryz.prog.info? 30).map (·.size) = some 15 := by kernel_rfl
      have H1C := Aside0.mk (show (#[.string x_key, .string x_policy, .int .i64 x_kind, .int .i64 x_start, .int .i64 x_rev, .bool x_final, .int .i64 x_rkind, .int .i64 x_count, .int .i64 x_sum, .int .i64 x_min, .int .i64 x_max, .int .i64 x_q0, .int .i64 x_q1, .int .i64 x_q2, .bool x_over] : Array Value).all (·.oneCell') = true by simp [Value.oneCell'])
      go_wp2_with (first | (refine wpList_load_row rfl 30 (.tmp 3) rfl (w.heap.size + 1) rfl 30 #[.string x_key, .string x_policy, .int .i64 x_kind, .int .i64 x_start, .int .i64 x_rev, .bool x_final, .int .i64 x_rkind, .int .i64 x_count, .int .i64 x_sum, .int .i64 x_min, .int .i64 x_max, .int .i64 x_q0, .int .i64 x_q1, .int .i64 x_q2, .bool x_over] (0, 0) _ h3 hu rfl hi ?_) | (refine wpList_store_row rfl 30 (.tmp 2) (.tmp 68) rfl w.heap.size #[.string x_key, .string x_policy, .int .i64 x_kind, .int .i64 x_start, .int .i64 x_rev, .bool x_final, .int .i64 x_rkind, .int .i64 x_count, .int .i64 x_sum, .int .i64 x_min, .int .i64 x_max, .int .i64 x_q0, .int .i64 x_q1, .int .i64 x_q2, .bool x_over] rfl rfl 30 #[.string ⟨#[]⟩, .string ⟨#[]⟩, .int .i64 0, .int .i64 0, .int .i64 0, .bool false, .int .i64 0, .int .i64 0, .int .i64 0, .int .i64 0, .int .i64 0, .int .i64 0, .int .i64 0, .int .i64 0, .bool false] h2 hi rfl H1C.out ?_))
      refine bodyPost_ret (v := .agg #[.string x_key, .string x_policy, .int .i64 x_kind, .int .i64 x_start, .int .i64 x_rev, .bool x_final, .int .i64 x_rkind, .int .i64 x_count, .int .i64 x_sum, .int .i64 x_min, .int .i64 x_max, .int .i64 x_q0, .int .i64 x_q1, .int .i64 x_q2, .bool x_over]) (results_cell_row rfl _ _ w.heap.size 30 #[.string x_key, .string x_policy, .int .i64 x_kind, .int .i64 x_start, .int .i64 x_rev, .bool x_final, .int .i64 x_rkind, .int .i64 x_count, .int .i64 x_sum, .int .i64 x_min, .int .i64 x_max, .int .i64 x_q0, .int .i64 x_q1, .int .i64 x_q2, .bool x_over] (0, 0) _ rfl FIN.out.1 hu rfl hi) rfl ⟨⟨⟨x_key, x_policy, x_kind, x_start, x_rev, x_final, x_rkind, x_count, x_sum, x_min, x_max, x_q0, x_q1, x_q2, x_over⟩, [.string x_key, .string x_policy, .int .i64 x_kind, .int .i64 x_start, .int .i64 x_rev, .bool x_final, .int .i64 x_rkind, .int .i64 x_count, .int .i64 x_sum, .int .i64 x_min, .int .i64 x_max, .int .i64 x_q0, .int .i64 x_q1, .int .i64 x_q2, .bool x_over], rfl, ?_, ⟨G_key.out, G_policy.out, G_kind.out, G_start.out, G_rev.out, G_rkind.out, G_count.out, G_sum.out, G_min.out, G_max.out, G_q0.out, G_q1.out, G_q2.out⟩⟩, FIN.out.2.2.1, FIN.out.2.1⟩
      exact kEmi_mkM _ _ _ _
set_option maxRecDepth 100000 in
set_option maxHeartbeats 8000000 in
theorem takeCel_calls (w0 : World) (rb : Nat) (f : Int) (w : World) (h : RS w0 rb f w) :
    Calls Tryz.prog 56 #[.pointer (some ⟨rb, 0, none⟩)] w (TakeAns kCel encA gCel w0 rb w) := by
  have hu := Tryz.underlying104
  have H0 := Aside0.mk h
  clear h
  have HS := Aside0.mk (TS.start_var (T := 104) H0.out #[.string ⟨#[]⟩, .slice none 0 0, .int .i64 0, .int .i64 0, .int .i64 0, .bool false, .int .i64 0, .int .i64 0, .int .i64 0, .int .i64 0, .int .i64 0, .int .i64 0, .int .i64 0, .string ⟨#[]⟩, .slice none 0 0, .slice none 0 0])
  go_enter Tryz.func56, Tryz.ntmps56
  go_upto_region 2 with fail
  generalize (w.alloc (.cells #[.string ⟨#[]⟩, .slice none 0 0, .int .i64 0, .int .i64 0, .int .i64 0, .bool false, .int .i64 0, .int .i64 0, .int .i64 0, .int .i64 0, .int .i64 0, .int .i64 0, .int .i64 0, .string ⟨#[]⟩, .slice none 0 0, .slice none 0 0] 104)).alloc (.cells #[.string ⟨#[]⟩, .slice none 0 0, .int .i64 0, .int .i64 0, .int .i64 0, .bool false, .int .i64 0, .int .i64 0, .int .i64 0, .int .i64 0, .int .i64 0, .int .i64 0, .int .i64 0, .string ⟨#[]⟩, .slice none 0 0, .slice none 0 0] 104) = W at HS ⊢
  have HST := Aside0.mk (Stab.nil rb 104)
  obtain ⟨f_, hr_⟩ := HS.out.rs
  have hc := takeText_calls w0 rb f_ _ hr_
  clear hr_
  go_upto_region 3 with (go_at_call 34; refine (show Calls _ _ _ _ _ from hc).mono ?_; rintro e W1 ⟨⟨x_metric, rfl, hn0⟩, hr, hg⟩; have G_metric := Aside0.mk hn0; have HS1 := Aside0.mk (HS.out.call HST.out hr hg); have c3 := blk_cell HS1.out.r3 0; have z3 := blk_frozen HS1.out.r3 0; clear hr hg hc hn0)
  have HS2 := Aside0.mk (HS1.out.set HST.out 0 (.string x_metric) (cs' := #[.string x_metric, .slice none 0 0, .int .i64 0, .int .i64 0, .int .i64 0, .bool false, .int .i64 0, .int .i64 0, .int .i64 0, .int .i64 0, .int .i64 0, .int .i64 0, .int .i64 0, .string ⟨#[]⟩, .slice none 0 0, .slice none 0 0]) rfl)
  clear c3 z3 HS HS1
  generalize W1.setCell ⟨(w.heap.size + 1), 0, none⟩ (.string x_metric) = W2 at HS2 ⊢
  have HS := HS2
  clear HS2
  obtain ⟨f_, hr_⟩ := HS.out.rs
  have hc := tlLab_calls w0 rb gLab (fun f W hW => takeLab_calls w0 rb f W hW) f_ _ hr_
  clear hr_
  go_upto_region 4 with (go_at_call 85; refine (show Calls _ _ _ _ _ from hc).mono ?_; rintro e W1 ⟨⟨x_labels, cs, rfl, ⟨v, rfl, hR⟩, hG⟩, hr, hg⟩; obtain ⟨A_labels, n_labels, c_labels, e1⟩ := R_sl hR; subst e1; have G_labels := Aside0.mk hG; have HS1 := Aside0.mk (HS.out.callR (R' := fun W => Kd.R kLab 98 W w.heap.size (fun q => q ≠ rb) (.slice A_labels n_labels c_labels) x_labels) HST.out hr hg (Kd.R_lower hR HS.out.gr.size)); have c3 := blk_cell HS1.out.r3 1; have z3 := blk_frozen HS1.out.r3 1; clear hr hg hc hG hR; simp only [enc1, List.headD_cons])
  have HST2 := Aside0.mk (HST.out.row (d := kLab) (e := 98) (base := w.heap.size) (v := .slice A_labels n_labels c_labels) (xs := x_labels) (by decide))
  clear HST
  have HST := HST2
  clear HST2
  have HS2 := Aside0.mk (HS1.out.set HST.out 1 (.slice A_labels n_labels c_labels) (cs' := #[.string x_metric, .slice A_labels n_labels c_labels, .int .i64 0, .int .i64 0, .int .i64 0, .bool false, .int .i64 0, .int .i64 0, .int .i64 0, .int .i64 0, .int .i64 0, .int .i64 0, .int .i64 0, .string ⟨#[]⟩, .slice none 0 0, .slice none 0 0]) rfl)
  clear c3 z3 HS HS1
  generalize W1.setCell ⟨(w.heap.size + 1), 1, none⟩ (.slice A_labels n_labels c_labels) = W2 at HS2 ⊢
  have HS := HS2
  clear HS2
  obtain ⟨f_, hr_⟩ := HS.out.rs
  have hc := takeUp_calls w0 rb f_ _ hr_
  clear hr_
  go_upto_region 5 with (go_at_call 35; refine (show Calls _ _ _ _ _ from hc).mono ?_; rintro e W1 ⟨⟨x_policy, rfl, hn0, hn1⟩, hr, hg⟩; have G_policy := Aside0.mk (And.intro hn0 hn1); have HS1 := Aside0.mk (HS.out.call HST.out hr hg); have c3 := blk_cell HS1.out.r3 2; have z3 := blk_frozen HS1.out.r3 2; clear hr hg hc hn0 hn1)
  have HS2 := Aside0.mk (HS1.out.set HST.out 2 (.int .i64 x_policy) (cs' := #[.string x_metric, .slice A_labels n_labels c_labels, .int .i64 x_policy, .int .i64 0, .int .i64 0, .bool false, .int .i64 0, .int .i64 0, .int .i64 0, .int .i64 0, .int .i64 0, .int .i64 0, .int .i64 0, .string ⟨#[]⟩, .slice none 0 0, .slice none 0 0]) rfl)
  clear c3 z3 HS HS1
  generalize W1.setCell ⟨(w.heap.size + 1), 2, none⟩ (.int .i64 x_policy) = W2 at HS2 ⊢
  have HS := HS2
  clear HS2
  obtain ⟨f_, hr_⟩ := HS.out.rs
  have hc := takeUp_calls w0 rb f_ _ hr_
  clear hr_
  go_upto_region 6 with (go_at_call 35; refine (show Calls _ _ _ _ _ from hc).mono ?_; rintro e W1 ⟨⟨x_start, rfl, hn0, hn1⟩, hr, hg⟩; have G_start := Aside0.mk (And.intro hn0 hn1); have HS1 := Aside0.mk (HS.out.call HST.out hr hg); have c3 := blk_cell HS1.out.r3 3; have z3 := blk_frozen HS1.out.r3 3; clear hr hg hc hn0 hn1)
  have HS2 := Aside0.mk (HS1.out.set HST.out 3 (.int .i64 x_start) (cs' := #[.string x_metric, .slice A_labels n_labels c_labels, .int .i64 x_policy, .int .i64 x_start, .int .i64 0, .bool false, .int .i64 0, .int .i64 0, .int .i64 0, .int .i64 0, .int .i64 0, .int .i64 0, .int .i64 0, .string ⟨#[]⟩, .slice none 0 0, .slice none 0 0]) rfl)
  clear c3 z3 HS HS1
  generalize W1.setCell ⟨(w.heap.size + 1), 3, none⟩ (.int .i64 x_start) = W2 at HS2 ⊢
  have HS := HS2
  clear HS2
  obtain ⟨f_, hr_⟩ := HS.out.rs
  have hc := takeUp_calls w0 rb f_ _ hr_
  clear hr_
  go_upto_region 7 with (go_at_call 35; refine (show Calls _ _ _ _ _ from hc).mono ?_; rintro e W1 ⟨⟨x_rev, rfl, hn0, hn1⟩, hr, hg⟩; have G_rev := Aside0.mk (And.intro hn0 hn1); have HS1 := Aside0.mk (HS.out.call HST.out hr hg); have c3 := blk_cell HS1.out.r3 4; have z3 := blk_frozen HS1.out.r3 4; clear hr hg hc hn0 hn1)
  have HS2 := Aside0.mk (HS1.out.set HST.out 4 (.int .i64 x_rev) (cs' := #[.string x_metric, .slice A_labels n_labels c_labels, .int .i64 x_policy, .int .i64 x_start, .int .i64 x_rev, .bool false, .int .i64 0, .int .i64 0, .int .i64 0, .int .i64 0, .int .i64 0, .int .i64 0, .int .i64 0, .string ⟨#[]⟩, .slice none 0 0, .slice none 0 0]) rfl)
  clear c3 z3 HS HS1
  generalize W1.setCell ⟨(w.heap.size + 1), 4, none⟩ (.int .i64 x_rev) = W2 at HS2 ⊢
  have HS := HS2
  clear HS2
  obtain ⟨f_, hr_⟩ := HS.out.rs
  have hc := mark_calls w0 rb f_ _ hr_
  clear hr_
  go_upto_region 8 with (go_at_call 36; refine (show Calls _ _ _ _ _ from hc).mono ?_; rintro e W1 ⟨⟨x_dirty, rfl⟩, hr, hg⟩; have G_dirty := Aside0.mk trivial; have HS1 := Aside0.mk (HS.out.call HST.out hr hg); have c3 := blk_cell HS1.out.r3 5; have z3 := blk_frozen HS1.out.r3 5; clear hr hg hc)
  have HS2 := Aside0.mk (HS1.out.set HST.out 5 (.bool x_dirty) (cs' := #[.string x_metric, .slice A_labels n_labels c_labels, .int .i64 x_policy, .int .i64 x_start, .int .i64 x_rev, .bool x_dirty, .int .i64 0, .int .i64 0, .int .i64 0, .int .i64 0, .int .i64 0, .int .i64 0, .int .i64 0, .string ⟨#[]⟩, .slice none 0 0, .slice none 0 0]) rfl)
  clear c3 z3 HS HS1
  generalize W1.setCell ⟨(w.heap.size + 1), 5, none⟩ (.bool x_dirty) = W2 at HS2 ⊢
  have HS := HS2
  clear HS2
  obtain ⟨f_, hr_⟩ := HS.out.rs
  have hc := takeVatS_calls w0 rb f_ _ hr_
  clear hr_
  go_upto_region 9 with (go_at_call 87; refine (show Calls _ _ _ _ _ from hc).mono ?_; rintro e W1 ⟨⟨x_vat, cs, rfl, hM, hG⟩, hr, hg⟩; obtain ⟨v_s, v_m, hcs, o1, o2⟩ := kVatS_openM hM; obtain ⟨A_vsamples, n_vsamples, c_vsamples, e1⟩ := R_sl o1; obtain ⟨A_vmembers, n_vmembers, c_vmembers, e2⟩ := R_sl o2; subst e1; subst e2; subst hcs; have G_vat := Aside0.mk hG; have HS1 := Aside0.mk (TS.callR (R' := fun W => Kd.R Kd.string 9 W w.heap.size (fun q => q ≠ rb) (.slice A_vmembers n_vmembers c_vmembers) x_vat.members) (HS.out.callR (R' := fun W => Kd.R (Kd.int .i64) 3 W w.heap.size (fun q => q ≠ rb) (.slice A_vsamples n_vsamples c_vsamples) x_vat.samples) HST.out hr hg (Kd.R_lower o1 HS.out.gr.size)) (HST.out.row (d := (Kd.int .i64)) (e := 3) (by decide)) (HS.out.call HST.out hr hg).rs (World.grownBy.refl _ _) (Kd.R_lower o2 HS.out.gr.size)); have c6 := blk_cell HS1.out.r3 6; have z6 := blk_frozen HS1.out.r3 6; have c7 := blk_cell HS1.out.r3 7; have z7 := blk_frozen HS1.out.r3 7; have c8 := blk_cell HS1.out.r3 8; have z8 := blk_frozen HS1.out.r3 8; have c9 := blk_cell HS1.out.r3 9; have z9 := blk_frozen HS1.out.r3 9; have c10 := blk_cell HS1.out.r3 10; have z10 := blk_frozen HS1.out.r3 10; have c11 := blk_cell HS1.out.r3 11; have z11 := blk_frozen HS1.out.r3 11; have c12 := blk_cell HS1.out.r3 12; have z12 := blk_frozen HS1.out.r3 12; have c13 := blk_cell HS1.out.r3 13; have z13 := blk_frozen HS1.out.r3 13; have c14 := blk_cell HS1.out.r3 14; have z14 := blk_frozen HS1.out.r3 14; have c15 := blk_cell HS1.out.r3 15; have z15 := blk_frozen HS1.out.r3 15; clear hr hg hc hG hM o1 o2; simp only [encA])
  have HST2 := Aside0.mk ((HST.out.row (d := (Kd.int .i64)) (e := 3) (base := w.heap.size) (v := .slice A_vsamples n_vsamples c_vsamples) (xs := x_vat.samples) (by decide)).row (d := Kd.string) (e := 9) (base := w.heap.size) (v := .slice A_vmembers n_vmembers c_vmembers) (xs := x_vat.members) (by decide))
  clear HST
  have HST := HST2
  clear HST2
  have HT0 := Aside0.mk (HS1.out.set HST.out 6 (.int .i64 x_vat.kind) (cs' := #[.string x_metric, .slice A_labels n_labels c_labels, .int .i64 x_policy, .int .i64 x_start, .int .i64 x_rev, .bool x_dirty, .int .i64 x_vat.kind, .int .i64 0, .int .i64 0, .int .i64 0, .int .i64 0, .int .i64 0, .int .i64 0, .string ⟨#[]⟩, .slice none 0 0, .slice none 0 0]) rfl)
  have HT1 := Aside0.mk (HT0.out.set HST.out 7 (.int .i64 x_vat.many) (cs' := #[.string x_metric, .slice A_labels n_labels c_labels, .int .i64 x_policy, .int .i64 x_start, .int .i64 x_rev, .bool x_dirty, .int .i64 x_vat.kind, .int .i64 x_vat.many, .int .i64 0, .int .i64 0, .int .i64 0, .int .i64 0, .int .i64 0, .string ⟨#[]⟩, .slice none 0 0, .slice none 0 0]) rfl)
  have HT2 := Aside0.mk (HT1.out.set HST.out 8 (.int .i64 x_vat.high) (cs' := #[.string x_metric, .slice A_labels n_labels c_labels, .int .i64 x_policy, .int .i64 x_start, .int .i64 x_rev, .bool x_dirty, .int .i64 x_vat.kind, .int .i64 x_vat.many, .int .i64 x_vat.high, .int .i64 0, .int .i64 0, .int .i64 0, .int .i64 0, .string ⟨#[]⟩, .slice none 0 0, .slice none 0 0]) rfl)
  have HT3 := Aside0.mk (HT2.out.set HST.out 9 (.int .i64 x_vat.low) (cs' := #[.string x_metric, .slice A_labels n_labels c_labels, .int .i64 x_policy, .int .i64 x_start, .int .i64 x_rev, .bool x_dirty, .int .i64 x_vat.kind, .int .i64 x_vat.many, .int .i64 x_vat.high, .int .i64 x_vat.low, .int .i64 0, .int .i64 0, .int .i64 0, .string ⟨#[]⟩, .slice none 0 0, .slice none 0 0]) rfl)
  have HT4 := Aside0.mk (HT3.out.set HST.out 10 (.int .i64 x_vat.last) (cs' := #[.string x_metric, .slice A_labels n_labels c_labels, .int .i64 x_policy, .int .i64 x_start, .int .i64 x_rev, .bool x_dirty, .int .i64 x_vat.kind, .int .i64 x_vat.many, .int .i64 x_vat.high, .int .i64 x_vat.low, .int .i64 x_vat.last, .int .i64 0, .int .i64 0, .string ⟨#[]⟩, .slice none 0 0, .slice none 0 0]) rfl)
  have HT5 := Aside0.mk (HT4.out.set HST.out 11 (.int .i64 x_vat.time) (cs' := #[.string x_metric, .slice A_labels n_labels c_labels, .int .i64 x_policy, .int .i64 x_start, .int .i64 x_rev, .bool x_dirty, .int .i64 x_vat.kind, .int .i64 x_vat.many, .int .i64 x_vat.high, .int .i64 x_vat.low, .int .i64 x_vat.last, .int .i64 x_vat.time, .int .i64 0, .string ⟨#[]⟩, .slice none 0 0, .slice none 0 0]) rfl)
  have HT6 := Aside0.mk (HT5.out.set HST.out 12 (.int .i64 x_vat.seq) (cs' := #[.string x_metric, .slice A_labels n_labels c_labels, .int .i64 x_policy, .int .i64 x_start, .int .i64 x_rev, .bool x_dirty, .int .i64 x_vat.kind, .int .i64 x_vat.many, .int .i64 x_vat.high, .int .i64 x_vat.low, .int .i64 x_vat.last, .int .i64 x_vat.time, .int .i64 x_vat.seq, .string ⟨#[]⟩, .slice none 0 0, .slice none 0 0]) rfl)
  have HT7 := Aside0.mk (HT6.out.set HST.out 13 (.string x_vat.source) (cs' := #[.string x_metric, .slice A_labels n_labels c_labels, .int .i64 x_policy, .int .i64 x_start, .int .i64 x_rev, .bool x_dirty, .int .i64 x_vat.kind, .int .i64 x_vat.many, .int .i64 x_vat.high, .int .i64 x_vat.low, .int .i64 x_vat.last, .int .i64 x_vat.time, .int .i64 x_vat.seq, .string x_vat.source, .slice none 0 0, .slice none 0 0]) rfl)
  have HT8 := Aside0.mk (HT7.out.set HST.out 14 (.slice A_vsamples n_vsamples c_vsamples) (cs' := #[.string x_metric, .slice A_labels n_labels c_labels, .int .i64 x_policy, .int .i64 x_start, .int .i64 x_rev, .bool x_dirty, .int .i64 x_vat.kind, .int .i64 x_vat.many, .int .i64 x_vat.high, .int .i64 x_vat.low, .int .i64 x_vat.last, .int .i64 x_vat.time, .int .i64 x_vat.seq, .string x_vat.source, .slice A_vsamples n_vsamples c_vsamples, .slice none 0 0]) rfl)
  have HT9 := Aside0.mk (HT8.out.set HST.out 15 (.slice A_vmembers n_vmembers c_vmembers) (cs' := #[.string x_metric, .slice A_labels n_labels c_labels, .int .i64 x_policy, .int .i64 x_start, .int .i64 x_rev, .bool x_dirty, .int .i64 x_vat.kind, .int .i64 x_vat.many, .int .i64 x_vat.high, .int .i64 x_vat.low, .int .i64 x_vat.last, .int .i64 x_vat.time, .int .i64 x_vat.seq, .string x_vat.source, .slice A_vsamples n_vsamples c_vsamples, .slice A_vmembers n_vmembers c_vmembers]) rfl)
  clear c6 z6 c7 z7 c8 z8 c9 z9 c10 z10 c11 z11 c12 z12 c13 z13 c14 z14 c15 z15 HS HS1 HT0 HT1 HT2 HT3 HT4 HT5 HT6 HT7 HT8
  generalize (((((((((W1.setCell ⟨(w.heap.size + 1), 6, none⟩ (.int .i64 x_vat.kind)).setCell ⟨(w.heap.size + 1), 7, none⟩ (.int .i64 x_vat.many)).setCell ⟨(w.heap.size + 1), 8, none⟩ (.int .i64 x_vat.high)).setCell ⟨(w.heap.size + 1), 9, none⟩ (.int .i64 x_vat.low)).setCell ⟨(w.heap.size + 1), 10, none⟩ (.int .i64 x_vat.last)).setCell ⟨(w.heap.size + 1), 11, none⟩ (.int .i64 x_vat.time)).setCell ⟨(w.heap.size + 1), 12, none⟩ (.int .i64 x_vat.seq)).setCell ⟨(w.heap.size + 1), 13, none⟩ (.string x_vat.source)).setCell ⟨(w.heap.size + 1), 14, none⟩ (.slice A_vsamples n_vsamples c_vsamples)).setCell ⟨(w.heap.size + 1), 15, none⟩ (.slice A_vmembers n_vmembers c_vmembers) = W2 at HT9 ⊢
  have HS := HT9
  clear HT9
  have FIN := Aside0.mk (HS.out.fin HST.out rfl)
  have h2 := HS.out.r2
  have h3 := HS.out.r3
  have hi : (Tryz.prog.info? 104).map (·.size) = some 16 := by kernel_rfl
  have H1C := Aside0.mk (show (#[.string x_metric, .slice A_labels n_labels c_labels, .int .i64 x_policy, .int .i64 x_start, .int .i64 x_rev, .bool x_dirty, .int .i64 x_vat.kind, .int .i64 x_vat.many, .int .i64 x_vat.high, .int .i64 x_vat.low, .int .i64 x_vat.last, .int .i64 x_vat.time, .int .i64 x_vat.seq, .string x_vat.source, .slice A_vsamples n_vsamples c_vsamples, .slice A_vmembers n_vmembers c_vmembers] : Array Value).all (·.oneCell') = true by simp [Value.oneCell'])
  go_wp2_with (first | (refine wpList_load_row rfl 104 (.tmp 3) rfl (w.heap.size + 1) rfl 104 #[.string x_metric, .slice A_labels n_labels c_labels, .int .i64 x_policy, .int .i64 x_start, .int .i64 x_rev, .bool x_dirty, .int .i64 x_vat.kind, .int .i64 x_vat.many, .int .i64 x_vat.high, .int .i64 x_vat.low, .int .i64 x_vat.last, .int .i64 x_vat.time, .int .i64 x_vat.seq, .string x_vat.source, .slice A_vsamples n_vsamples c_vsamples, .slice A_vmembers n_vmembers c_vmembers] (0, 0) _ h3 hu rfl hi ?_) | (refine wpList_store_row rfl 104 (.tmp 2) (.tmp 27) rfl w.heap.size #[.string x_metric, .slice A_labels n_labels c_labels, .int .i64 x_policy, .int .i64 x_start, .int .i64 x_rev, .bool x_dirty, .int .i64 x_vat.kind, .int .i64 x_vat.many, .int .i64 x_vat.high, .int .i64 x_vat.low, .int .i64 x_vat.last, .int .i64 x_vat.time, .int .i64 x_vat.seq, .string x_vat.source, .slice A_vsamples n_vsamples c_vsamples, .slice A_vmembers n_vmembers c_vmembers] rfl rfl 104 #[.string ⟨#[]⟩, .slice none 0 0, .int .i64 0, .int .i64 0, .int .i64 0, .bool false, .int .i64 0, .int .i64 0, .int .i64 0, .int .i64 0, .int .i64 0, .int .i64 0, .int .i64 0, .string ⟨#[]⟩, .slice none 0 0, .slice none 0 0] h2 hi rfl H1C.out ?_))
  refine bodyPost_ret (v := .agg #[.string x_metric, .slice A_labels n_labels c_labels, .int .i64 x_policy, .int .i64 x_start, .int .i64 x_rev, .bool x_dirty, .int .i64 x_vat.kind, .int .i64 x_vat.many, .int .i64 x_vat.high, .int .i64 x_vat.low, .int .i64 x_vat.last, .int .i64 x_vat.time, .int .i64 x_vat.seq, .string x_vat.source, .slice A_vsamples n_vsamples c_vsamples, .slice A_vmembers n_vmembers c_vmembers]) (results_cell_row rfl _ _ w.heap.size 104 #[.string x_metric, .slice A_labels n_labels c_labels, .int .i64 x_policy, .int .i64 x_start, .int .i64 x_rev, .bool x_dirty, .int .i64 x_vat.kind, .int .i64 x_vat.many, .int .i64 x_vat.high, .int .i64 x_vat.low, .int .i64 x_vat.last, .int .i64 x_vat.time, .int .i64 x_vat.seq, .string x_vat.source, .slice A_vsamples n_vsamples c_vsamples, .slice A_vmembers n_vmembers c_vmembers] (0, 0) _ rfl FIN.out.1 hu rfl hi) rfl ⟨⟨⟨x_metric, x_labels, x_policy, x_start, x_rev, x_dirty, x_vat⟩, [.string x_metric, .slice A_labels n_labels c_labels, .int .i64 x_policy, .int .i64 x_start, .int .i64 x_rev, .bool x_dirty, .int .i64 x_vat.kind, .int .i64 x_vat.many, .int .i64 x_vat.high, .int .i64 x_vat.low, .int .i64 x_vat.last, .int .i64 x_vat.time, .int .i64 x_vat.seq, .string x_vat.source, .slice A_vsamples n_vsamples c_vsamples, .slice A_vmembers n_vmembers c_vmembers], rfl, ?_, ⟨G_metric.out, G_labels.out, G_policy.out, G_start.out, G_rev.out, G_vat.out⟩⟩, FIN.out.2.2.1, FIN.out.2.1⟩
  exact kCel_mkM _ _ _ _ FIN.out.2.2.2.1.1.2 FIN.out.2.2.2.1.2 FIN.out.2.2.2.2
end Go.Proofs.YtpdppfihpnfblaaGreat.H
