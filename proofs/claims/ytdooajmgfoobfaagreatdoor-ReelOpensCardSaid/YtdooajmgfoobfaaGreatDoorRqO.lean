/- The walk of ReelOpens. Laid by wip/rq_o.py. -/
import Derived.Test.YtdooajmgfoobfaaGreatDoorRqX
namespace Go.Proofs.YtdooajmgfoobfaaGreatDoor.H
attribute [local go_sem] Oper.semAt_some
open Go.RowKit Go.Shelf Go.Proofs.YtdooajmgfoobfaaGreatDoor.PA Go.Proofs.YtdooajmgfoobfaaGreatDoorW.PrintWords Go.Proofs.YtdooajmgfoobfaaGreatDoorW.PrintLast Go.Proofs.YtdooajmgfoobfaaGreatDoorW.PrintMore
set_option linter.unusedVariables false
set_option linter.unusedSimpArgs false
/-- A reel, whatever stands on it. -/
def Any (W : World) (lo g s : Nat) (roll : Int) (i : Nat) : Prop := (∃ im rs, Live W lo g s roll i im rs) ∨ ∃ S, Dead W lo g s i S
section
variable {lo lo' g s i : Nat} {W W' : World} {roll : Int} {im : ByteArray} {rs : List ByteArray} {S S' : What}
theorem Any.below (h : Any W lo g s roll i) (hb : Below W.heap.size W W') : Any W' lo g s roll i := h.imp (fun ⟨a, b, h⟩ => ⟨a, b, h.below hb⟩) (fun ⟨a, h⟩ => ⟨a, h.below hb⟩)
theorem Any.up (h : Any W lo g s roll i) {j : Nat} (h1 : i ≤ j) (h2 : j ≤ 98) : Any W lo g s roll j := h.imp (fun ⟨a, b, h⟩ => ⟨a, b, h.up h1 h2⟩) (fun ⟨a, h⟩ => ⟨a, h.up h1 h2⟩)
structure AnyOut (lo g s : Nat) (roll : Int) (i : Nat) (W : World) (e : Ending) (W' : World) : Prop where
  st : Stp lo W W'
  ret : ∃ n, e = .returned (.int .i64 n)
  any : Any W' lo g s roll i
theorem any_app (h : Any W lo g s roll i) (hi : i < 98) (hro : 1 ≤ roll ∧ roll ≤ 60000) (hE : Ev lo W) (A : Option Addr) (c : Nat) (b : List Int) (hC : Kd.C (Kd.int .u8) W A b.length b) (hu : ∀ x ∈ b, 0 ≤ x ∧ x ≤ 255) (hl : b.length ≤ 1000) :
    Calls Tryz.prog 9 #[.pointer (some ⟨g, 0, none⟩), .slice A b.length c] W (AnyOut lo g s roll (i + 1) W) := by
  rcases h with ⟨im, rs, h⟩ | ⟨S, h⟩
  · refine (live_app h hi hro hE A c b hC hu hl).mono fun e W' ho => ⟨ho.st, ?_, ?_⟩
    · rcases ho.out with ⟨h, _⟩ | ⟨h, _⟩ | ⟨h, _⟩ <;> exact ⟨_, h⟩
    · rcases ho.out with ⟨_, h⟩ | ⟨_, h⟩ | ⟨_, h⟩
      · exact .inl ⟨_, _, h⟩
      · exact .inl ⟨_, _, h⟩
      · exact .inr ⟨_, h⟩
  · exact (dead_app h hi hE A c b hC hu hl).mono fun e W' ho => ⟨ho.st, ⟨_, ho.ret⟩, .inr ⟨_, ho.dd⟩⟩
theorem any_sav (h : Any W lo g s roll i) (hi : i < 98) (hro : 1 ≤ roll ∧ roll ≤ 60000) (hE : Ev lo W) (A : Option Addr) (c : Nat) (b : List Int) (hC : Kd.C (Kd.int .u8) W A b.length b) (hu : ∀ x ∈ b, 0 ≤ x ∧ x ≤ 255) (hl : b.length ≤ 1000) :
    Calls Tryz.prog 10 #[.pointer (some ⟨g, 0, none⟩), .slice A b.length c] W (AnyOut lo g s roll (i + 1) W) := by
  rcases h with ⟨im, rs, h⟩ | ⟨S, h⟩
  · refine (live_sav h hi hro hE A c b hC hu hl).mono fun e W' ho => ⟨ho.st, ?_, ?_⟩
    · rcases ho.out with ⟨h, _⟩ | ⟨h, _⟩ | ⟨h, _⟩ <;> exact ⟨_, h⟩
    · rcases ho.out with ⟨_, h⟩ | ⟨_, h⟩ | ⟨_, h⟩
      · exact .inl ⟨_, _, h⟩
      · exact .inl ⟨_, _, h⟩
      · exact .inr ⟨_, h⟩
  · exact (dead_sav h hi hE A c b hC hu hl).mono fun e W' ho => ⟨ho.st, ⟨_, ho.ret⟩, .inr ⟨_, ho.dd⟩⟩
theorem any_fuse (h : Any W lo g s roll i) (hs : lo ≤ W.heap.size) (n : Int) (h0 : 0 ≤ n) (h1 : n ≤ 1000000) : Calls Tryz.prog 15 #[.pointer (some ⟨s, 0, none⟩), .int .i64 n] W (AnyOut lo g s roll i W) := by
  rcases h with ⟨im, rs, h⟩ | ⟨S, h⟩
  · exact (live_fuse h hs n h0 h1).mono fun e W' ⟨p1, p2, p3⟩ => ⟨p3, ⟨_, p1⟩, .inl ⟨_, _, p2⟩⟩
  · exact (dead_fuse h hs n h0 h1).mono fun e W' ⟨p1, p2, p3⟩ => ⟨p3, ⟨_, p1⟩, .inr ⟨_, p2⟩⟩
theorem Rest.lower (h : Rest W lo' s i S) (h1 : lo ≤ lo') : Rest W lo s i S := by
  obtain ⟨E, first, img, pss, k1, k2⟩ := h
  exact ⟨E, first, img, pss, k1.lower h1, k2⟩
/-- How a stop ends, on a disk above lo. -/
structure RsOut (lo i : Nat) (S : What) (W : World) (e : Ending) (W' : World) : Prop where
  hb : Below W.heap.size W W'
  ex : ∃ s2, e = .returned (.pointer (some ⟨s2, 0, none⟩)) ∧ Rest W' lo s2 i S
theorem StOut.rest (hs : lo ≤ W.heap.size) {e : Ending} (h : StOut i S W e W') : RsOut lo i S W e W' := by
  obtain ⟨hb, s2, h1, E, first, img, pss, h2, h3, h4, _, h5, h6⟩ := h
  exact ⟨hb, s2, h1, E, first, img, pss, h2.lower hs, h3, h4, h5, h6⟩
theorem any_stop (h : Any W lo g s roll i) (hs : lo ≤ W.heap.size) (kA : Option Addr) (kc : Nat) (kl : List Int) (hk : Kd.C (Kd.int .i64) W kA kl.length kl) (hkc : kl.length ≤ kc) : Calls Tryz.prog 12 #[.pointer (some ⟨s, 0, none⟩), .slice kA kl.length kc] W (RsOut lo i (fun _ _ => True) W) := by
  rcases h with ⟨im, rs, h⟩ | ⟨S, h⟩
  · refine (live_stop h kA kc kl hk hkc).mono fun e W' ho => ?_
    obtain ⟨hb, s2, h1, E, first, img, pss, h2, h3, h4, _, h5, h6⟩ := ho
    exact ⟨hb, s2, h1, E, first, img, pss, h2.lower hs, h3, h4, h5, trivial⟩
  · refine (dead_stop h kA kc kl hk hkc).mono fun e W' ho => ?_
    obtain ⟨hb, s2, h1, E, first, img, pss, h2, h3, h4, _, h5, h6⟩ := ho
    exact ⟨hb, s2, h1, E, first, img, pss, h2.lower hs, h3, h4, h5, trivial⟩
theorem rest_stop (h : Rest W lo s i S) (hs : lo ≤ W.heap.size) (kA : Option Addr) (kc : Nat) (kl : List Int) (hk : Kd.C (Kd.int .i64) W kA kl.length kl) (hkc : kl.length ≤ kc) : Calls Tryz.prog 12 #[.pointer (some ⟨s, 0, none⟩), .slice kA kl.length kc] W (RsOut lo i S W) := by
  obtain ⟨E, first, img, pss, k1, k2, k3, k4, k5⟩ := h
  exact (stop_dn k1 kA kc kl hk hkc).mono fun e W' ⟨s2, E2, p1, p2, p3, p4, p5⟩ => ⟨p2, s2, p1, E2, first, img, pss, p3.lower hs, p5, p4.1.trans k3, k4.same (stopped_eq p4 k2), k5⟩
/-- A stopped disk with a fuse of n steps. -/
def RestF (W : World) (lo s : Nat) (i : Nat) (n : Int) (S : What) : Prop :=
  ∃ E first img pss, Dn W lo s E ∧ AllSafe E ∧ E.lim = 3000 ∧ E.steps = n ∧ Rec E first img pss i ∧ S (strOfNums img) (sLs (recL pss))
theorem rest_fuse (h : Rest W lo s i S) (hs : lo ≤ W.heap.size) (n : Int) (h0 : 0 ≤ n) (h1 : n ≤ 1000000) : Calls Tryz.prog 15 #[.pointer (some ⟨s, 0, none⟩), .int .i64 n] W fun e W' => e = .returned (.int .i64 0) ∧ RestF W' lo s i n S ∧ Stp lo W W' := by
  obtain ⟨E, first, img, pss, k1, k2, k3, k4, k5⟩ := h
  exact (fuse_dn k1 hs n h0 h1).mono fun e W' ⟨p1, p2, p3⟩ => ⟨p1, ⟨_, first, img, pss, p2, fun k f hk => k2 k f hk, k3, rfl, k4.setF, k5⟩, p3⟩
/-- How an opening under a fuse ends. -/
structure OfOut (lo s : Nat) (roll : Int) (i : Nat) (n : Int) (S : What) (W : World) (e : Ending) (W' : World) : Prop where
  st : Stp lo W W'
  ex : (∃ g A c A2 c2, ∃ (img : List Int) (ps : List (List Int)), e = .returned (.tuple #[.pointer (some ⟨g, 0, none⟩), .slice A img.length c, .slice A2 ps.length c2, .int .i64 0]) ∧ Live W' lo g s roll i (strOfNums img) (sLs ps) ∧ S (strOfNums img) (sLs ps) ∧
    Kd.R (Kd.int .u8) 5 W' lo (fun _ => True) (.slice A img.length c) img ∧ BsAt W' lo (.slice A2 ps.length c2) ps) ∨
    (n < 18 ∧ e = .returned (.tuple #[.pointer none, .slice none 0 0, .slice none 0 0, .int .i64 23]) ∧ Rest W' lo s i S)
theorem open_fused {n : Int} (h : RestF W lo s i n S) (hE : Ev lo W) (hro : 1 ≤ roll ∧ roll ≤ 60000) :
    Calls Tryz.prog 8 #[.pointer (some ⟨s, 0, none⟩), .int .i64 roll] W (OfOut lo s roll i n S W) := by
  obtain ⟨E, first, img, pss, k1, k2, k3, k4, k5, k6⟩ := h
  have hcl := clean_plain (roll := roll) k5 k2 k1.ok
  refine (open_rn k1 hE roll hro k5).mono fun e W' ho => ⟨ho.st, ?_⟩
  rcases hcl.out with ⟨h0, q⟩ | ⟨h0, q1, pss', q2, q3⟩
  · obtain ⟨g, A, c, A2, c2, p1, p2, p3, p4⟩ := ho.ok h0
    exact .inl ⟨g, A, c, A2, c2, img, recL pss, p1, ⟨first, img, strip pss, _, by rw [openM_strip]; exact p2, q, hcl.lim.trans k3, rfl, by rw [strip_recL]⟩, k6, p3, p4⟩
  · obtain ⟨p1, p2⟩ := ho.er (by rw [h0]; decide)
    rw [h0] at p1
    refine .inr ⟨?_, p1, _, first, img, pss', p2, q1, hcl.lim.trans k3, q2, by rw [q3]; exact k6⟩
    rcases Int.lt_or_le n 18 with h | h
    · exact h
    · have := hcl.fz (fun _ => by rw [k4]; exact h)
      rw [h0] at this
      cases this
/-- The same, told in one row. -/
theorem OfOut.flat {n : Int} {e : Ending} (h : OfOut lo s roll i n S W e W') : ∃ gp iA il ic lA ll lc er, e = .returned (.tuple #[.pointer gp, .slice iA il ic, .slice lA ll lc, .int .i64 er]) ∧
    ((er = 0 ∧ ∃ g, ∃ (img : List Int) (ps : List (List Int)), gp = some ⟨g, 0, none⟩ ∧ il = img.length ∧ ll = ps.length ∧ Live W' lo g s roll i (strOfNums img) (sLs ps) ∧ S (strOfNums img) (sLs ps) ∧
      Kd.R (Kd.int .u8) 5 W' lo (fun _ => True) (.slice iA il ic) img ∧ BsAt W' lo (.slice lA ll lc) ps) ∨
    (er = 23 ∧ n < 18 ∧ gp = none ∧ Rest W' lo s i S)) := by
  rcases h.ex with ⟨g, A, c, A2, c2, img, ps, h1, h2, h3, h4, h5⟩ | ⟨h1, h2, h3⟩
  · exact ⟨_, _, _, _, _, _, _, _, h1, .inl ⟨rfl, g, img, ps, rfl, rfl, rfl, h2, h3, h4, h5⟩⟩
  · exact ⟨_, _, _, _, _, _, _, _, h2, .inr ⟨rfl, h1, rfl, h3⟩⟩
theorem Rest.mono (h : Rest W lo s i S) (hS : ∀ a l, S a l → S' a l) : Rest W lo s i S' := by
  obtain ⟨E, first, img, pss, k1, k2, k3, k4, k5⟩ := h
  exact ⟨E, first, img, pss, k1, k2, k3, k4, hS _ _ k5⟩
end
/-- Where ReelOpens' first loop stands. -/
structure OpSt (w : World) (s g i : Nat) (W : World) : Prop where
  hb : Below w.heap.size w W
  an : Any W w.heap.size g s 60 i
theorem OpSt.below {w W W' : World} {s g i : Nat} (h : OpSt w s g i W) (hb : Below W.heap.size W W') : OpSt w s g i W' := ⟨h.hb.trans (hb.mono h.hb.size), h.an.below hb⟩
theorem OpSt.stp {w W W' : World} {s g i j : Nat} (h : OpSt w s g i W) {e : Ending} (ho : AnyOut w.heap.size g s 60 j W e W') : OpSt w s g j W' := ⟨h.hb.trans ho.st.hb, ho.any⟩
theorem OpSt.up {w W : World} {s g i j : Nat} (h : OpSt w s g i W) (h1 : i ≤ j) (h2 : j ≤ 98) : OpSt w s g j W := ⟨h.hb, h.an.up h1 h2⟩
/-- Where ReelOpens' second loop stands. -/
structure Op2 (w : World) (i : Nat) (lv : Value) (lst : List Int) (j s : Nat) (fb : Bool) (v16 v17 : Value) (W : World) : Prop where
  hb : Below w.heap.size w W
  rd : Kd.R (Kd.int .u8) 5 W w.heap.size (fun _ => True) lv lst
  ex : ∃ (img : List Int) (rs : List ByteArray), Kd.R (Kd.int .u8) 5 W w.heap.size (fun _ => True) v16 img ∧ Kd.R Kd.string 9 W w.heap.size (fun _ => True) v17 rs ∧ Rest W w.heap.size s i (fun a l => fb = false → a = strOfNums img ∧ l = rs)
  la : fb = true → j < lst.length
/-- Where its third loop stands. -/
structure Op3 (w : World) (i : Nat) (lv : Value) (lst : List Int) (g s : Nat) (v21 v22 : Value) (img : List Int) (ps : List (List Int)) (k : Nat) (v17 : Value) (W : World) : Prop where
  hb : Below w.heap.size w W
  rd : Kd.R (Kd.int .u8) 5 W w.heap.size (fun _ => True) lv lst
  im : Kd.R (Kd.int .u8) 5 W w.heap.size (fun _ => True) v21 img
  bs : BsAt W w.heap.size v22 ps
  lv : Live W w.heap.size g s 60 i (strOfNums img) (sLs ps)
  rc : Kd.R Kd.string 9 W w.heap.size (fun _ => True) v17 (sLs (ps.take k))
theorem Op2.below {w W W' : World} {i j s : Nat} {lv v16 v17 : Value} {lst : List Int} {fb : Bool} (h : Op2 w i lv lst j s fb v16 v17 W) (hb : Below W.heap.size W W') : Op2 w i lv lst j s fb v16 v17 W' := by
  obtain ⟨img, rs, h1, h2, h3⟩ := h.ex
  exact ⟨h.hb.trans (hb.mono h.hb.size), Kd.R_below h.rd hb, ⟨img, rs, Kd.R_below h1 hb, Kd.R_below h2 hb, h3.below hb⟩, h.la⟩
theorem Op3.below {w W W' : World} {i g s k : Nat} {lv v21 v22 v17 : Value} {lst img : List Int} {ps : List (List Int)} (h : Op3 w i lv lst g s v21 v22 img ps k v17 W) (hb : Below W.heap.size W W') : Op3 w i lv lst g s v21 v22 img ps k v17 W' :=
  ⟨h.hb.trans (hb.mono h.hb.size), Kd.R_below h.rd hb, Kd.R_below h.im hb, Kd.R_below h.bs hb, h.lv.below hb, Kd.R_below h.rc hb⟩
set_option maxRecDepth 100000 in
set_option maxHeartbeats 1600000 in
theorem opens_few (w : World) (A : Option Addr) (c : Nat) (l : List SAct) (A1 : Option Addr) (c1 : Nat) (cuts : List Int) (A2 : Option Addr) (c2 : Nat) (keep : List Int) (hC : Kd.C kAct w A l.length l) (hu : ∀ x ∈ l, ∀ y ∈ x.f2, 0 ≤ y ∧ y ≤ 255)
    (hC1 : Kd.C (Kd.int .u8) w A1 cuts.length cuts) (hu1 : ∀ y ∈ cuts, 0 ≤ y ∧ y ≤ 255) (hC2 : Kd.C (Kd.int .i64) w A2 keep.length keep) (hkc : keep.length ≤ c2) (hF : FewP l) (hfw : ∀ W, Below w.heap.size w W → Calls Tryz.prog 14 #[.slice A l.length c] W fun e w' => e = .returned (.bool true) ∧ Below W.heap.size W w')
    (h12 : cuts.length ≤ 12) (h30 : keep.length ≤ 30) (hE : Ev w.heap.size w) :
    Calls Tryz.prog 5 #[.slice A l.length c, .slice A1 cuts.length c1, .slice A2 keep.length c2] w fun e w' => e = .returned (.bool true) ∧ Below w.heap.size w w' := by
  have HE := Aside0.mk hE
  have HC := Aside0.mk hC
  have HU := Aside0.mk hu
  have HC1 := Aside0.mk hC1
  have HU1 := Aside0.mk hu1
  have HC2 := Aside0.mk (And.intro hC2 hkc)
  have HF := Aside0.mk hF
  obtain ⟨n, hn⟩ : ∃ n, l.length = n := ⟨_, rfl⟩
  obtain ⟨n1, hn1⟩ : ∃ n1, cuts.length = n1 := ⟨_, rfl⟩
  obtain ⟨n2, hn2⟩ : ∃ n2, keep.length = n2 := ⟨_, rfl⟩
  have HN := Aside0.mk (And.intro hn (And.intro hn1 hn2))
  have HL := Aside0.mk (show n ≤ 40 ∧ n1 ≤ 12 by have := hF.n; omega)
  have hg1 : decide ((n1 : Int) > 12) = false := decide_eq_false (by omega)
  have hg2 : decide ((n2 : Int) > 30) = false := decide_eq_false (by omega)
  rw [hn] at hfw ⊢
  rw [hn1, hn2]
  have hnew := new_dn (W := w) 3000 (by decide) (by decide)
  clear hE hC hu hC1 hu1 hC2 hkc hF hn hn1 hn2 h12 h30
  go_enter Tryz.func5, Tryz.ntmps5
  go_upto_region 2 with (go_at_call 6; go_loud (refine (show Calls _ _ _ _ _ from hnew).mono ?_; rintro e w1 ⟨s, rfl, hb, hd⟩; have HB1 := Aside0.mk hb; have HD1 := Aside0.mk hd; clear hb hd hnew))
  have hE1 := HE.out.step HB1.out
  have haw := awake_calls w1 (hE1.up HB1.out.size (Nat.le_refl _))
  go_upto_region 4 with (first
    | (go_at_call 7; refine (show Calls _ _ _ _ _ from haw).mono ?_; rintro e w2 ⟨rfl, hb⟩; have HB2 := Aside0.mk (HB1.out.trans (hb.mono HB1.out.size)); have HD2 := Aside0.mk (HD1.out.below hb); clear hb haw hE1 HD1)
    | (go_at_call 14; refine (show Calls _ _ _ _ _ from hfw _ HB2.out).mono ?_; rintro e w2b ⟨rfl, hb⟩; have HB2b := Aside0.mk (HB2.out.trans (hb.mono HB2.out.size)); have HD2b := Aside0.mk (HD2.out.below hb); clear hb hfw))
  have hop := open_rn HD2b.out (HE.out.step HB2b.out) 60 (by decide) (rec_new 3000 false 0)
  rw [clean_new] at hop
  go_upto_region 5 with (go_at_call 8; go_loud (refine (show Calls _ _ _ _ _ from hop).mono ?_; rintro e w3 ho; obtain ⟨g, B, d, B2, d2, rfl, hrn, hx1, hx2⟩ := ho.ok rfl; have HS3 := Aside0.mk (show OpSt w s g 0 w3 from ⟨HB2b.out.trans ho.st.hb, .inl ⟨_, _, 1, [], [], _, hrn, neat_new 3000 0 false, rfl, rfl, rfl⟩⟩); clear ho hrn hop hx1 hx2 HD2b))
  go_upto_region 8 with fail
  clear HB1 HB2 HB2b HD2 hg1 hg2
  go_loopw [71] (fun v71 wr => ∃ i : Nat, v71 = .int .i64 i ∧ i ≤ n ∧ OpSt w s g i wr) (fun v71 _ => n - (intOf v71).toNat)
  case atStart => exact ⟨0, rfl, Nat.zero_le _, HS3.out⟩
  case round =>
    obtain ⟨i, rfl, hi, hst⟩ := hrel
    have HS := Aside0.mk hst
    by_cases hlt : i < n
    · have hli : i < l.length := by have := HN.out; omega
      obtain ⟨ad, a2, b2, a3, b3, rfl, x0, x1, x2, x3, g2, C2, g3, C3⟩ := at_T43 HC.out (i : Int) (by omega) (by have := HN.out; omega)
      replace x0 := below_cell_eq hst.hb x0
      replace x1 := below_cell_eq hst.hb x1
      replace x2 := below_cell_eq hst.hb x2
      replace x3 := below_cell_eq hst.hb x3
      have hx : rd_T43 l (i : Int) = l[i] := by
        unfold rd_T43
        rw [Int.toNat_natCast, List.getD_eq_getElem?_getD, List.getElem?_eq_getElem hli]
        rfl
      rw [hx] at x0 x1 x2 x3 C2 C3
      rw [Int.toNat_natCast] at x0 x1 x2 x3
      have hxu := HU.out l[i] (List.getElem_mem hli)
      have hxb := HF.out.b l[i] (List.getElem_mem hli)
      generalize l[i] = x at x0 x1 x2 x3 C2 C3 hxu hxb
      obtain ⟨f0, f1, fb, fk⟩ := x
      simp only at x0 x1 x2 x3 C2 C3 hxu hxb
      have HBU := Aside0.mk (And.intro hxu hxb)
      have HCB := Aside0.mk C2
      have HI := Aside0.mk (And.intro hlt (show i ≤ 39 by have := HL.out; omega))
      obtain ⟨bl, hbl⟩ : ∃ bl, fb.length = bl := ⟨_, rfl⟩
      have HBL := Aside0.mk hbl
      rw [hbl] at x2
      clear hli hx g2 C2 g3 C3 hxu hxb hbl hi hst
      go_upto_region 10 with fail
      have hal := heap_alloc_new wr (.cells #[.int .i64 f0, .int .i64 f1, .slice a2 bl b2, .slice a3 fk.length b3] 43)
      have hba : Below wr.heap.size wr (wr.alloc (.cells #[.int .i64 f0, .int .i64 f1, .slice a2 bl b2, .slice a3 fk.length b3] 43)) := (Below.refl _ wr).alloc (Nat.le_refl _) _
      generalize wr.alloc (.cells #[.int .i64 f0, .int .i64 f1, .slice a2 bl b2, .slice a3 fk.length b3] 43) = W1 at hal hba ⊢
      obtain ⟨xb, hxb⟩ : ∃ xb, wr.heap.size = xb := ⟨_, rfl⟩
      rw [hxb] at hal ⊢
      have HX1 := Aside0.mk hal
      have HS1 := Aside0.mk (HS.out.below hba)
      have y1 := (blk_cell hal 1).trans rfl
      clear x0 x1 x2 x3 hal hba hxb HS
      obtain ⟨h2, hh2⟩ : ∃ h2, wrap64 ((n : Int) / 2) = h2 := ⟨_, rfl⟩
      obtain ⟨bq, hbq⟩ : ∃ bq, ((i : Int) == h2) = bq := ⟨_, rfl⟩
      have HQ := Aside0.mk (And.intro hh2 hbq)
      cases bq with
      | true =>
        have hq : 0 ≤ wrap64 ((IntKind.u64.wrap f1).tmod 30) ∧ wrap64 ((IntKind.u64.wrap f1).tmod 30) ≤ 29 := fuse_val f1 30 29 (by decide) (by decide) (by decide)
        have hfs := any_fuse HS1.out.an HS1.out.hb.size _ hq.1 (by omega)
        clear hq
        go_upto_region 12 with (go_at_call 15; go_loud (refine (show Calls _ _ _ _ _ from hfs).mono ?_; rintro e W2 ho; obtain ⟨rv, rfl⟩ := ho.ret; have HS2 := Aside0.mk (HS1.out.stp ho); have HX2 := Aside0.mk (ho.st.kp.blk _ _ _ HX1.out ⟨by decide, by decide, by decide, by decide⟩); clear ho hfs))
        clear HS1 HX1 y1 hh2 hbq
        have y0 := (blk_cell HX2.out 0).trans rfl
        have y2 := (blk_cell HX2.out 2).trans rfl
        by_cases k1 : f0 = 1
        · subst k1
          have hcl := any_app HS2.out.an (by have := HI.out; omega) (by decide) (HE.out.step HS2.out.hb) a2 b2 fb (Kd.C_below HCB.out HS2.out.hb) HBU.out.1 (by have := HBU.out.2; omega)
          rw [HBL.out] at hcl
          go_upto_region 14 with (go_at_call 9; go_loud (refine (show Calls _ _ _ _ _ from hcl).mono ?_; rintro e W3 ho; obtain ⟨rv, rfl⟩ := ho.ret; have HS3 := Aside0.mk (HS2.out.stp ho); have HX3 := Aside0.mk (ho.st.kp.blk _ _ _ HX2.out ⟨by decide, by decide, by decide, by decide⟩); clear ho hcl y0 y2))
          have y0 := (blk_cell HX3.out 0).trans rfl
          have HJ := Aside0.mk (show -9223372036854775808 ≤ (i : Int) + 1 ∧ (i : Int) + 1 ≤ 9223372036854775807 by have := HI.out; omega)
          have hwi : wrap64 ((i : Int) + 1) = (i : Int) + 1 := wrap_in HJ.out.1 HJ.out.2
          clear hlt
          go_wp2_with fail
          go_roundw
          case rel => exact ⟨i + 1, by rw [hwi]; rfl, by have := HI.out; omega, HS3.out⟩
          case measure => 
              have hw2 : wrap64 ((i : Int) + ((1 : Nat) : Int)) = ((i + 1 : Nat) : Int) := by rw [show ((1 : Nat) : Int) = 1 from rfl, hwi]; rfl
              exact ms_lt n i 1 (by have := HI.out; clear hwi hw2; omega) hw2
        · by_cases k2 : f0 = 2
          · subst k2
            have hcl := any_sav HS2.out.an (by have := HI.out; omega) (by decide) (HE.out.step HS2.out.hb) a2 b2 fb (Kd.C_below HCB.out HS2.out.hb) HBU.out.1 (by have := HBU.out.2; omega)
            rw [HBL.out] at hcl
            go_upto_region 16 with (go_at_call 10; go_loud (refine (show Calls _ _ _ _ _ from hcl).mono ?_; rintro e W3 ho; obtain ⟨rv, rfl⟩ := ho.ret; have HS3 := Aside0.mk (HS2.out.stp ho); clear ho hcl y0 y2))
            have HJ := Aside0.mk (show -9223372036854775808 ≤ (i : Int) + 1 ∧ (i : Int) + 1 ≤ 9223372036854775807 by have := HI.out; omega)
            have hwi : wrap64 ((i : Int) + 1) = (i : Int) + 1 := wrap_in HJ.out.1 HJ.out.2
            clear hlt
            go_wp2_with fail
            go_roundw
            case rel => exact ⟨i + 1, by rw [hwi]; rfl, by have := HI.out; omega, HS3.out⟩
            case measure => 
              have hw2 : wrap64 ((i : Int) + ((1 : Nat) : Int)) = ((i + 1 : Nat) : Int) := by rw [show ((1 : Nat) : Int) = 1 from rfl, hwi]; rfl
              exact ms_lt n i 1 (by have := HI.out; clear hwi hw2; omega) hw2
          · have e1 : (f0 == 1) = false := by simpa using k1
            have e2 : (f0 == 2) = false := by simpa using k2
            have HS3 := Aside0.mk (HS2.out.up (show i ≤ i + 1 by omega) (by have := HI.out; omega))
            have HJ := Aside0.mk (show -9223372036854775808 ≤ (i : Int) + 1 ∧ (i : Int) + 1 ≤ 9223372036854775807 by have := HI.out; omega)
            have hwi : wrap64 ((i : Int) + 1) = (i : Int) + 1 := wrap_in HJ.out.1 HJ.out.2
            clear hlt
            go_wp2_with fail
            go_roundw
            case rel => exact ⟨i + 1, by rw [hwi]; rfl, by have := HI.out; omega, HS3.out⟩
            case measure => 
              have hw2 : wrap64 ((i : Int) + ((1 : Nat) : Int)) = ((i + 1 : Nat) : Int) := by rw [show ((1 : Nat) : Int) = 1 from rfl, hwi]; rfl
              exact ms_lt n i 1 (by have := HI.out; clear hwi hw2; omega) hw2
      | false =>
        go_upto_region 12 with fail
        obtain ⟨W2, rfl⟩ : ∃ W2, W2 = W1 := ⟨W1, rfl⟩
        have HS2 := Aside0.mk HS1.out
        have HX2 := Aside0.mk HX1.out
        clear HS1 HX1 y1 hh2 hbq
        have y0 := (blk_cell HX2.out 0).trans rfl
        have y2 := (blk_cell HX2.out 2).trans rfl
        by_cases k1 : f0 = 1
        · subst k1
          have hcl := any_app HS2.out.an (by have := HI.out; omega) (by decide) (HE.out.step HS2.out.hb) a2 b2 fb (Kd.C_below HCB.out HS2.out.hb) HBU.out.1 (by have := HBU.out.2; omega)
          rw [HBL.out] at hcl
          go_upto_region 14 with (go_at_call 9; go_loud (refine (show Calls _ _ _ _ _ from hcl).mono ?_; rintro e W3 ho; obtain ⟨rv, rfl⟩ := ho.ret; have HS3 := Aside0.mk (HS2.out.stp ho); have HX3 := Aside0.mk (ho.st.kp.blk _ _ _ HX2.out ⟨by decide, by decide, by decide, by decide⟩); clear ho hcl y0 y2))
          have y0 := (blk_cell HX3.out 0).trans rfl
          have HJ := Aside0.mk (show -9223372036854775808 ≤ (i : Int) + 1 ∧ (i : Int) + 1 ≤ 9223372036854775807 by have := HI.out; omega)
          have hwi : wrap64 ((i : Int) + 1) = (i : Int) + 1 := wrap_in HJ.out.1 HJ.out.2
          clear hlt
          go_wp2_with fail
          go_roundw
          case rel => exact ⟨i + 1, by rw [hwi]; rfl, by have := HI.out; omega, HS3.out⟩
          case measure => 
              have hw2 : wrap64 ((i : Int) + ((1 : Nat) : Int)) = ((i + 1 : Nat) : Int) := by rw [show ((1 : Nat) : Int) = 1 from rfl, hwi]; rfl
              exact ms_lt n i 1 (by have := HI.out; clear hwi hw2; omega) hw2
        · by_cases k2 : f0 = 2
          · subst k2
            have hcl := any_sav HS2.out.an (by have := HI.out; omega) (by decide) (HE.out.step HS2.out.hb) a2 b2 fb (Kd.C_below HCB.out HS2.out.hb) HBU.out.1 (by have := HBU.out.2; omega)
            rw [HBL.out] at hcl
            go_upto_region 16 with (go_at_call 10; go_loud (refine (show Calls _ _ _ _ _ from hcl).mono ?_; rintro e W3 ho; obtain ⟨rv, rfl⟩ := ho.ret; have HS3 := Aside0.mk (HS2.out.stp ho); clear ho hcl y0 y2))
            have HJ := Aside0.mk (show -9223372036854775808 ≤ (i : Int) + 1 ∧ (i : Int) + 1 ≤ 9223372036854775807 by have := HI.out; omega)
            have hwi : wrap64 ((i : Int) + 1) = (i : Int) + 1 := wrap_in HJ.out.1 HJ.out.2
            clear hlt
            go_wp2_with fail
            go_roundw
            case rel => exact ⟨i + 1, by rw [hwi]; rfl, by have := HI.out; omega, HS3.out⟩
            case measure => 
              have hw2 : wrap64 ((i : Int) + ((1 : Nat) : Int)) = ((i + 1 : Nat) : Int) := by rw [show ((1 : Nat) : Int) = 1 from rfl, hwi]; rfl
              exact ms_lt n i 1 (by have := HI.out; clear hwi hw2; omega) hw2
          · have e1 : (f0 == 1) = false := by simpa using k1
            have e2 : (f0 == 2) = false := by simpa using k2
            have HS3 := Aside0.mk (HS2.out.up (show i ≤ i + 1 by omega) (by have := HI.out; omega))
            have HJ := Aside0.mk (show -9223372036854775808 ≤ (i : Int) + 1 ∧ (i : Int) + 1 ≤ 9223372036854775807 by have := HI.out; omega)
            have hwi : wrap64 ((i : Int) + 1) = (i : Int) + 1 := wrap_in HJ.out.1 HJ.out.2
            clear hlt
            go_wp2_with fail
            go_roundw
            case rel => exact ⟨i + 1, by rw [hwi]; rfl, by have := HI.out; omega, HS3.out⟩
            case measure => 
              have hw2 : wrap64 ((i : Int) + ((1 : Nat) : Int)) = ((i + 1 : Nat) : Int) := by rw [show ((1 : Nat) : Int) = 1 from rfl, hwi]; rfl
              exact ms_lt n i 1 (by have := HI.out; clear hwi hw2; omega) hw2
    · obtain rfl : i = n := by omega
      have hstp := any_stop hst.an hst.hb.size A2 c2 keep (Kd.C_below HC2.out.1 hst.hb) HC2.out.2
      rw [HN.out.2.2] at hstp
      have HI := Aside0.mk (show i ≤ 40 by exact HL.out.1)
      have HLR := Aside0.mk (show (([] : List Int).length + n1) * 1 ≤ 140737488355328 ∧ (cuts.length + 1) * 1 ≤ 140737488355328 by have h1 := HN.out.2.1; have h2 := HL.out.2; simp only [List.length_nil]; omega)
      clear hst hi hlt
      go_upto_region 22 with (first
        | (go_at_call 12; refine (show Calls _ _ _ _ _ from hstp).mono ?_; rintro e W2 ho; obtain ⟨hb, s2, rfl, hr⟩ := ho; have HB2 := Aside0.mk (HS.out.hb.trans (hb.mono HS.out.hb.size)); have HR2 := Aside0.mk hr; clear hb hr hstp)
        | (at_builtin; go_loud (refine Kd.R_append_rows (Rr := fun x cs => cs = [.int .u8 x]) (Kd.int .u8) (w0 := W2) W2.heap.size rfl (.tmp 106) (.tmp 107) 22 5 (.int .u8 0) 1 rfl Tryz.underlying22 info5 rfl (by decide) (by decide) (.slice (some ⟨W2.heap.size, 0, none⟩) 0 0) [] cuts A1 n1 c1 (fun _ => True) (fun _ => False) rfl rfl (lit_b0 W2 W2.heap.size (Nat.le_refl _)) (by have := Kd.C_below HC1.out (HB2.out.trans (((Below.refl _ W2).alloc (Nat.le_refl _) (.cells #[] 5)).mono HB2.out.size)); rw [HN.out.2.1] at this; exact this) (fun _ _ h => h) (fun _ hk => hk.elim) (fun _ _ => trivial) ((Below.refl _ W2).alloc (Nat.le_refl _) _) (by simp) HLR.out.1 ?_; intro v3 W3 hr hb hg hat; rw [List.nil_append] at hr; have HR3 := Aside0.mk hr; have HB3 := Aside0.mk hb; clear hr hb hg hat))
        | (at_builtin; go_loud (refine Kd.R_append (Kd.int .u8) (w0 := W2) W2.heap.size rfl (.tmp 108) (.tmp 109) 22 5 (.int .u8 0) 1 rfl Tryz.underlying22 info5 rfl (by decide) (by decide) v3 cuts 100 [.int .u8 100] (fun _ => True) (fun _ => False) rfl rfl rfl (fun _ hk => hk.elim) (fun _ _ => trivial) HR3.out HB3.out HB3.out.size HLR.out.2 ?_; intro v4 W4 hr hb hg hat; obtain ⟨lA, lc, hv4⟩ := Kd.R_slice hr; obtain ⟨n3, hn3⟩ : ∃ n3, (cuts ++ [(100 : Int)]).length = n3 := ⟨_, rfl⟩; rw [hn3] at hv4; subst hv4; have HN3 := Aside0.mk hn3; have HR4 := Aside0.mk hr; have HB4 := Aside0.mk hb; clear hr hb hg hat hn3)))
      have HB5 := Aside0.mk (HB2.out.trans (HB4.out.mono HB2.out.size))
      have HU3 := Aside0.mk (show ∀ y ∈ cuts ++ [(100 : Int)], 0 ≤ y ∧ y ≤ 255 from fun y hy => (List.mem_append.1 hy).elim (HU1.out y) (fun h => by simp at h; omega))
      have HLA := Aside0.mk (show ∀ j : Nat, j + 1 = n3 → ∀ q, (cuts ++ [(100 : Int)])[j]? = some q → q = 100 by
        intro j hj q hq
        have h1 := HN3.out
        rw [List.length_append, List.length_singleton] at h1
        rw [List.getElem?_append_right (by omega), show j - cuts.length = 0 by omega] at hq
        simpa using hq.symm)
      have HP3 := Aside0.mk (show 0 < n3 ∧ n3 ≤ 13 by have h1 := HN3.out; rw [List.length_append, List.length_singleton] at h1; have h2 := HN.out.2.1; have h3 := HL.out.2; omega)
      have HO4 := Aside0.mk (show Op2 w i (.slice lA n3 lc) (cuts ++ [(100 : Int)]) 0 s2 true (.slice none 0 0) (.slice none 0 0) W4 from
        ⟨HB5.out, Kd.R_lower HR4.out HB2.out.size, ⟨[], [], Kd.R_nil _ _ _ _ _, Kd.R_nil _ _ _ _ _, (HR2.out.below HB4.out).mono (fun _ _ _ h => by cases h)⟩, fun _ => by rw [HN3.out]; exact HP3.out.1⟩)
      generalize cuts ++ [(100 : Int)] = lst at HN3 HU3 HLA HO4 HR4
      clear HR2 HR3 HB3 HR4 HB4 HB5 HLR HS
      go_loopw [7, 15, 16, 17, 112] (fun v7 v15 v16 v17 v112 wr => ∃ (j s : Nat) (fb : Bool), v7 = .pointer (some ⟨s, 0, none⟩) ∧ v15 = .bool fb ∧ v112 = .int .i64 j ∧ j ≤ n3 ∧ Op2 w i (.slice lA n3 lc) lst j s fb v16 v17 wr) (fun _ _ _ _ v112 _ => n3 - (intOf v112).toNat)
      case atStart => exact ⟨0, s2, true, rfl, rfl, rfl, Nat.zero_le _, HO4.out⟩
      case round =>
        obtain ⟨j, s5, fb, rfl, rfl, rfl, hj, hst⟩ := hrel
        obtain ⟨W5, rfl⟩ : ∃ W5, W5 = wr := ⟨wr, rfl⟩
        have HS := Aside0.mk hst
        by_cases hlt : j < n3
        · obtain ⟨img, rs, hI, hRs, hRest⟩ := hst.ex
          obtain ⟨iA, ic, e16⟩ := Kd.R_slice hI
          obtain ⟨iln, hiln⟩ : ∃ iln, img.length = iln := ⟨_, rfl⟩
          rw [hiln] at e16
          subst e16
          obtain ⟨rA, rc, e17⟩ := Kd.R_slice hRs
          obtain ⟨rln, hrln⟩ : ∃ rln, rs.length = rln := ⟨_, rfl⟩
          rw [hrln] at e17
          subst e17
          have HLN := Aside0.mk (And.intro hiln hrln)
          have hjl : j < lst.length := by rw [HN3.out]; exact hlt
          obtain ⟨hlq, hlc, hC⟩ := Kd.R_reads' hst.rd
          obtain ⟨ad, cs, rfl, hcl, hK, hcell⟩ := Kd.C_get hC 0 (j : Int) (by omega) (by have := HN3.out; omega)
          rw [Int.toNat_natCast, show lst.getD j 0 = lst[j] by rw [List.getD_eq_getElem?_getD, List.getElem?_eq_getElem hjl]; rfl] at hK
          have hq := HU3.out lst[j] (List.getElem_mem hjl)
          have hql : j + 1 = n3 → lst[j] = 100 := fun h => HLA.out j h _ (List.getElem?_eq_getElem hjl)
          generalize lst[j] = q at hK hq hql
          have hcs : cs = [.int .u8 q] := hK
          subst hcs
          have dq : W5.cell? (ad.add j) = some (.int .u8 q) := by have := hcell 0 _ rfl; simpa [Kd.int, Kd.scalar] using this
          have HQ := Aside0.mk (And.intro hq hql)
          have HJ := Aside0.mk (And.intro hlt (show j ≤ 12 by have := HP3.out; omega))
          have HI5 := Aside0.mk hI
          have HR5 := Aside0.mk hRs
          have hwq : wrap64 q = q := wrap_in (by omega) (by omega)
          have hfu := rest_fuse hRest hst.hb.size q hq.1 (by omega)
          clear hI hRs hRest hiln hrln hjl hlq hlc hC hcl hK hcell hq hql hj hst
          go_upto_region 26 with (first
            | (go_at_call 15; refine (show Calls _ _ _ _ _ from hfu).mono ?_; rintro e W6 ⟨rfl, hrf, hs6⟩; have HS6 := Aside0.mk hs6; have HB6 := Aside0.mk (HS.out.hb.trans hs6.hb)
               have hop := open_fused (roll := 60) hrf (HE.out.step HB6.out) (by decide)
               clear hrf hs6 hfu dq hwq)
            | (go_at_call 8; refine (show Calls _ _ _ _ _ from hop).mono ?_; rintro e W7 ho; have HS7 := Aside0.mk (HS6.out.trans ho.st); obtain ⟨gp, iA2, il2, ic2, lA2, ll2, lc2, er, rfl, hx⟩ := ho.flat; have HX := Aside0.mk hx; clear ho hx hop))
          have HB7 := Aside0.mk (HS.out.hb.trans HS7.out.hb)
          have HD7 := Aside0.mk (HS7.out.kp.rd HS.out.rd)
          have HI7 := Aside0.mk (HS7.out.kp.rd HI5.out)
          have HR7 := Aside0.mk (HS7.out.kp.rdS HR5.out)
          clear HI5 HR5 HS6 HB6
          rcases HX.out with ⟨rfl, g7, img7, ps7, rfl, hil, hll, hlv, hSS, hRI, hBS⟩ | ⟨rfl, hn, rfl, hrs⟩
          · have HLV := Aside0.mk hlv
            have HRI := Aside0.mk hRI
            have HBS := Aside0.mk hBS
            have HIL := Aside0.mk (And.intro hil hll)
            clear HX hlv hRI hBS hil hll
            cases fb with
            | true =>
              clear hSS
              go_upto_region 33 with fail
              have HO3 := Aside0.mk (show Op3 w i (.slice (some ad) n3 lc) lst g7 s5 (.slice iA2 il2 ic2) (.slice lA2 ll2 lc2) img7 ps7 0 (.slice none 0 0) W7 from ⟨HB7.out, HD7.out, HRI.out, HBS.out, HLV.out, by simpa [sLs] using Kd.R_nil Kd.string 9 W7 w.heap.size (fun _ => True)⟩)
              have HPL := Aside0.mk (show ps7.length ≤ 100000 * 99 by have := live_len HLV.out; rwa [sLs, List.length_map] at this)
              clear HRI HBS HLV HD7 HI7 HR7 HS7 HB7 
              go_loopw [17, 160] (fun v17 v160 wr => ∃ k : Nat, v160 = .int .i64 k ∧ k ≤ ll2 ∧ Op3 w i (.slice (some ad) n3 lc) lst g7 s5 (.slice iA2 il2 ic2) (.slice lA2 ll2 lc2) img7 ps7 k v17 wr) (fun _ v160 _ => ll2 - (intOf v160).toNat)
              case atStart => exact ⟨0, rfl, Nat.zero_le _, HO3.out⟩
              case round =>
                obtain ⟨k, rfl, hk, h3⟩ := hrel
                obtain ⟨W9, rfl⟩ : ∃ W9, W9 = wr := ⟨wr, rfl⟩
                have H3 := Aside0.mk h3
                by_cases hkl : k < ll2
                · have hkp : k < ps7.length := by have := HIL.out.2; omega
                  obtain ⟨rA3, rc3, e17⟩ := Kd.R_slice h3.rc
                  obtain ⟨rl3, hrl3⟩ : ∃ rl3, (sLs (ps7.take k)).length = rl3 := ⟨_, rfl⟩
                  rw [hrl3] at e17
                  subst e17
                  obtain ⟨hq1, hq2, hC⟩ := Kd.R_reads' h3.bs
                  obtain ⟨ad2, cs, rfl, hcl, hK, hcell⟩ := Kd.C_get hC [] (k : Int) (by omega) (by have := HIL.out.2; omega)
                  rw [Int.toNat_natCast, show ps7.getD k [] = ps7[k] by rw [List.getD_eq_getElem?_getD, List.getElem?_eq_getElem hkp]; rfl] at hK
                  have hnx : sLs (ps7.take (k + 1)) = sLs (ps7.take k) ++ [strOfNums ps7[k]] := by unfold sLs; rw [List.take_succ_eq_append_getElem hkp, List.map_append]; rfl
                  generalize ps7[k] = p at hK hnx
                  obtain ⟨pA, pc, rfl, hple, hCp⟩ := hK
                  obtain ⟨pl, hpl⟩ : ∃ pl, p.length = pl := ⟨_, rfl⟩
                  have dk : W9.cell? (ad2.add k) = some (.slice pA pl pc) := by have := hcell 0 _ rfl; rw [hpl] at this; simpa [Kd.slice] using this
                  have hcv := Kd.C_string (P := Tryz.prog) (A := pA) (c := pc) Tryz.underlying22 Tryz.underlying5 Tryz.underlying9 hCp
                  rw [hpl] at hcv
                  have HNX := Aside0.mk hnx
                  have HLR := Aside0.mk (show ((sLs (ps7.take k)).length + 1) * 16 ≤ 140737488355328 by
                    have := HPL.out
                    unfold sLs
                    rw [List.length_map, List.length_take]
                    omega)
                  have HKK := Aside0.mk (And.intro hkl (show ll2 ≤ 100000 * 99 by have := HPL.out; have := HIL.out.2; omega))
                  clear hkp hrl3 hq1 hq2 hC hcl hnx hple hCp hpl hcell h3 hk
                  go_upto_region 36 with (at_builtin; go_loud (refine Kd.R_append Kd.string (w0 := w) w.heap.size rfl (.tmp 164) (.tmp 167) 32 9 (.string ⟨#[]⟩) 16 rfl Tryz.underlying32 infoStrT rfl (by decide) (by decide) (.slice rA3 rl3 rc3) (sLs (ps7.take k)) (strOfNums p) [.string (strOfNums p)] (fun _ => True) (fun _ => False) rfl rfl rfl (fun _ hk => hk.elim) (fun _ _ => trivial) H3.out.rc H3.out.hb H3.out.hb.size HLR.out ?_; intro v1 W10 hr hb hg hat; rw [← HNX.out] at hr; have HO10 := Aside0.mk (show Op3 w i (.slice (some ad) n3 lc) lst g7 s5 (.slice iA2 il2 ic2) (.slice (some ad2) ll2 lc2) img7 ps7 (k + 1) v1 W10 from ⟨hb, rd_strs H3.out.rd H3.out.rc hg, rd_strs H3.out.im H3.out.rc hg, bs_strs H3.out.bs H3.out.rc hg, live_strs H3.out.lv H3.out.rc hg, hr⟩); clear hr hb hg hat dk hcv))
                  have HK9 := Aside0.mk (show -9223372036854775808 ≤ (k : Int) + 1 ∧ (k : Int) + 1 ≤ 9223372036854775807 by have := HKK.out; omega)
                  have hwk : wrap64 ((k : Int) + 1) = (k : Int) + 1 := wrap_in HK9.out.1 HK9.out.2
                  clear hkl
                  go_wp2_with fail
                  go_roundw
                  case rel => exact ⟨k + 1, by rw [hwk]; rfl, by have := HKK.out; omega, HO10.out⟩
                  case measure =>
                    have hw2 : wrap64 ((k : Int) + ((1 : Nat) : Int)) = ((k + 1 : Nat) : Int) := by rw [show ((1 : Nat) : Int) = 1 from rfl, hwk]; rfl
                    exact ms_lt ll2 k 1 (by have := HKK.out; clear hwk hw2; omega) hw2
                · obtain rfl : k = ll2 := by omega
                  have hrc := h3.rc
                  rw [List.take_of_length_le (by have := HIL.out.2; omega)] at hrc
                  obtain ⟨rA3, rc3, e17⟩ := Kd.R_slice hrc
                  obtain ⟨rl3, hrl3⟩ : ∃ rl3, (sLs ps7).length = rl3 := ⟨_, rfl⟩
                  rw [hrl3] at e17
                  subst e17
                  have HRC := Aside0.mk hrc
                  have hstp := live_stop h3.lv A2 c2 keep (Kd.C_below HC2.out.1 h3.hb) HC2.out.2
                  rw [HN.out.2.2] at hstp
                  clear hrc hrl3 h3 hk hkl
                  go_upto_region 38 with (go_at_call 12; go_loud (refine (show Calls _ _ _ _ _ from hstp).mono ?_; rintro e W11 ho; obtain ⟨hb, s8, rfl, hr⟩ := ho.rest H3.out.hb.size; have HO8 := Aside0.mk (show Op2 w i (.slice (some ad) n3 lc) lst (j + 1) s8 false (.slice iA2 il2 ic2) (.slice rA3 rl3 rc3) W11 from ⟨H3.out.hb.trans (hb.mono H3.out.hb.size), Kd.R_below H3.out.rd hb, ⟨img7, sLs ps7, Kd.R_below H3.out.im hb, Kd.R_below HRC.out hb, hr.mono (fun a l h _ => h)⟩, fun h => by cases h⟩); clear hb hr hstp))
                  have HJ9 := Aside0.mk (show -9223372036854775808 ≤ (j : Int) + 1 ∧ (j : Int) + 1 ≤ 9223372036854775807 by have := HJ.out; omega)
                  have hwi : wrap64 ((j : Int) + 1) = (j : Int) + 1 := wrap_in HJ9.out.1 HJ9.out.2
                  clear hlt
                  go_wp2_with fail
                  go_roundw
                  case rel => exact ⟨j + 1, s8, false, rfl, rfl, by rw [hwi]; rfl, by have := HJ.out; omega, HO8.out⟩
                  case measure =>
                    have hw2 : wrap64 ((j : Int) + ((1 : Nat) : Int)) = ((j + 1 : Nat) : Int) := by rw [show ((1 : Nat) : Int) = 1 from rfl, hwi]; rfl
                    exact ms_lt n3 j 1 (by have := HJ.out; clear hwi hw2; omega) hw2
            | false =>
              obtain ⟨hs1, hs2⟩ := hSS rfl
              have hcA := Kd.C_string (P := Tryz.prog) (A := iA2) (c := ic2) Tryz.underlying22 Tryz.underlying5 Tryz.underlying9 (Kd.R_reads' HRI.out).2.2
              have hcB := Kd.C_string (P := Tryz.prog) (A := iA) (c := ic) Tryz.underlying22 Tryz.underlying5 Tryz.underlying9 (Kd.R_reads' HI7.out).2.2
              rw [← HIL.out.1, hs1] at hcA
              rw [HLN.out.1] at hcB
              have hsm := same_calls W7 lA2 lc2 ps7 rA rc rs (Kd.R_reads' HBS.out).2.2 (Kd.R_reads' HR7.out).2.2
              rw [← HIL.out.2, HLN.out.2, decide_eq_true (show ps7.map strOfNums = rs from hs2)] at hsm
              clear hs1 hs2 hSS
              go_upto_region 33 with (go_at_call 13; go_loud (refine (show Calls _ _ _ _ _ from hsm).mono ?_; rintro e W8 ⟨rfl, hb⟩; have HB8 := Aside0.mk hb; clear hb hsm hcA hcB))
              have HO3 := Aside0.mk (show Op3 w i (.slice (some ad) n3 lc) lst g7 s5 (.slice iA2 il2 ic2) (.slice lA2 ll2 lc2) img7 ps7 0 (.slice none 0 0) W8 from (Op3.below ⟨HB7.out, HD7.out, HRI.out, HBS.out, HLV.out, by simpa [sLs] using Kd.R_nil Kd.string 9 W7 w.heap.size (fun _ => True)⟩ HB8.out))
              have HPL := Aside0.mk (show ps7.length ≤ 100000 * 99 by have := live_len HLV.out; rwa [sLs, List.length_map] at this)
              clear HRI HBS HLV HD7 HI7 HR7 HS7 HB7 HB8
              go_loopw [17, 160] (fun v17 v160 wr => ∃ k : Nat, v160 = .int .i64 k ∧ k ≤ ll2 ∧ Op3 w i (.slice (some ad) n3 lc) lst g7 s5 (.slice iA2 il2 ic2) (.slice lA2 ll2 lc2) img7 ps7 k v17 wr) (fun _ v160 _ => ll2 - (intOf v160).toNat)
              case atStart => exact ⟨0, rfl, Nat.zero_le _, HO3.out⟩
              case round =>
                obtain ⟨k, rfl, hk, h3⟩ := hrel
                obtain ⟨W9, rfl⟩ : ∃ W9, W9 = wr := ⟨wr, rfl⟩
                have H3 := Aside0.mk h3
                by_cases hkl : k < ll2
                · have hkp : k < ps7.length := by have := HIL.out.2; omega
                  obtain ⟨rA3, rc3, e17⟩ := Kd.R_slice h3.rc
                  obtain ⟨rl3, hrl3⟩ : ∃ rl3, (sLs (ps7.take k)).length = rl3 := ⟨_, rfl⟩
                  rw [hrl3] at e17
                  subst e17
                  obtain ⟨hq1, hq2, hC⟩ := Kd.R_reads' h3.bs
                  obtain ⟨ad2, cs, rfl, hcl, hK, hcell⟩ := Kd.C_get hC [] (k : Int) (by omega) (by have := HIL.out.2; omega)
                  rw [Int.toNat_natCast, show ps7.getD k [] = ps7[k] by rw [List.getD_eq_getElem?_getD, List.getElem?_eq_getElem hkp]; rfl] at hK
                  have hnx : sLs (ps7.take (k + 1)) = sLs (ps7.take k) ++ [strOfNums ps7[k]] := by unfold sLs; rw [List.take_succ_eq_append_getElem hkp, List.map_append]; rfl
                  generalize ps7[k] = p at hK hnx
                  obtain ⟨pA, pc, rfl, hple, hCp⟩ := hK
                  obtain ⟨pl, hpl⟩ : ∃ pl, p.length = pl := ⟨_, rfl⟩
                  have dk : W9.cell? (ad2.add k) = some (.slice pA pl pc) := by have := hcell 0 _ rfl; rw [hpl] at this; simpa [Kd.slice] using this
                  have hcv := Kd.C_string (P := Tryz.prog) (A := pA) (c := pc) Tryz.underlying22 Tryz.underlying5 Tryz.underlying9 hCp
                  rw [hpl] at hcv
                  have HNX := Aside0.mk hnx
                  have HLR := Aside0.mk (show ((sLs (ps7.take k)).length + 1) * 16 ≤ 140737488355328 by
                    have := HPL.out
                    unfold sLs
                    rw [List.length_map, List.length_take]
                    omega)
                  have HKK := Aside0.mk (And.intro hkl (show ll2 ≤ 100000 * 99 by have := HPL.out; have := HIL.out.2; omega))
                  clear hkp hrl3 hq1 hq2 hC hcl hnx hple hCp hpl hcell h3 hk
                  go_upto_region 36 with (at_builtin; go_loud (refine Kd.R_append Kd.string (w0 := w) w.heap.size rfl (.tmp 164) (.tmp 167) 32 9 (.string ⟨#[]⟩) 16 rfl Tryz.underlying32 infoStrT rfl (by decide) (by decide) (.slice rA3 rl3 rc3) (sLs (ps7.take k)) (strOfNums p) [.string (strOfNums p)] (fun _ => True) (fun _ => False) rfl rfl rfl (fun _ hk => hk.elim) (fun _ _ => trivial) H3.out.rc H3.out.hb H3.out.hb.size HLR.out ?_; intro v1 W10 hr hb hg hat; rw [← HNX.out] at hr; have HO10 := Aside0.mk (show Op3 w i (.slice (some ad) n3 lc) lst g7 s5 (.slice iA2 il2 ic2) (.slice (some ad2) ll2 lc2) img7 ps7 (k + 1) v1 W10 from ⟨hb, rd_strs H3.out.rd H3.out.rc hg, rd_strs H3.out.im H3.out.rc hg, bs_strs H3.out.bs H3.out.rc hg, live_strs H3.out.lv H3.out.rc hg, hr⟩); clear hr hb hg hat dk hcv))
                  have HK9 := Aside0.mk (show -9223372036854775808 ≤ (k : Int) + 1 ∧ (k : Int) + 1 ≤ 9223372036854775807 by have := HKK.out; omega)
                  have hwk : wrap64 ((k : Int) + 1) = (k : Int) + 1 := wrap_in HK9.out.1 HK9.out.2
                  clear hkl
                  go_wp2_with fail
                  go_roundw
                  case rel => exact ⟨k + 1, by rw [hwk]; rfl, by have := HKK.out; omega, HO10.out⟩
                  case measure =>
                    have hw2 : wrap64 ((k : Int) + ((1 : Nat) : Int)) = ((k + 1 : Nat) : Int) := by rw [show ((1 : Nat) : Int) = 1 from rfl, hwk]; rfl
                    exact ms_lt ll2 k 1 (by have := HKK.out; clear hwk hw2; omega) hw2
                · obtain rfl : k = ll2 := by omega
                  have hrc := h3.rc
                  rw [List.take_of_length_le (by have := HIL.out.2; omega)] at hrc
                  obtain ⟨rA3, rc3, e17⟩ := Kd.R_slice hrc
                  obtain ⟨rl3, hrl3⟩ : ∃ rl3, (sLs ps7).length = rl3 := ⟨_, rfl⟩
                  rw [hrl3] at e17
                  subst e17
                  have HRC := Aside0.mk hrc
                  have hstp := live_stop h3.lv A2 c2 keep (Kd.C_below HC2.out.1 h3.hb) HC2.out.2
                  rw [HN.out.2.2] at hstp
                  clear hrc hrl3 h3 hk hkl
                  go_upto_region 38 with (go_at_call 12; go_loud (refine (show Calls _ _ _ _ _ from hstp).mono ?_; rintro e W11 ho; obtain ⟨hb, s8, rfl, hr⟩ := ho.rest H3.out.hb.size; have HO8 := Aside0.mk (show Op2 w i (.slice (some ad) n3 lc) lst (j + 1) s8 false (.slice iA2 il2 ic2) (.slice rA3 rl3 rc3) W11 from ⟨H3.out.hb.trans (hb.mono H3.out.hb.size), Kd.R_below H3.out.rd hb, ⟨img7, sLs ps7, Kd.R_below H3.out.im hb, Kd.R_below HRC.out hb, hr.mono (fun a l h _ => h)⟩, fun h => by cases h⟩); clear hb hr hstp))
                  have HJ9 := Aside0.mk (show -9223372036854775808 ≤ (j : Int) + 1 ∧ (j : Int) + 1 ≤ 9223372036854775807 by have := HJ.out; omega)
                  have hwi : wrap64 ((j : Int) + 1) = (j : Int) + 1 := wrap_in HJ9.out.1 HJ9.out.2
                  clear hlt
                  go_wp2_with fail
                  go_roundw
                  case rel => exact ⟨j + 1, s8, false, rfl, rfl, by rw [hwi]; rfl, by have := HJ.out; omega, HO8.out⟩
                  case measure =>
                    have hw2 : wrap64 ((j : Int) + ((1 : Nat) : Int)) = ((j + 1 : Nat) : Int) := by rw [show ((1 : Nat) : Int) = 1 from rfl, hwi]; rfl
                    exact ms_lt n3 j 1 (by have := HJ.out; clear hwi hw2; omega) hw2
          · have hstp := rest_stop hrs HB7.out.size A2 c2 keep (Kd.C_below HC2.out.1 HB7.out) HC2.out.2
            rw [HN.out.2.2] at hstp
            have HNL := Aside0.mk (show j + 1 < n3 by
              have h1 := HQ.out.2
              rcases Nat.lt_or_ge (j + 1) n3 with h | h
              · exact h
              · have := h1 (by omega)
                omega)
            clear HX hrs hn
            go_upto_region 38 with (go_at_call 12; go_loud (refine (show Calls _ _ _ _ _ from hstp).mono ?_; rintro e W8 ho; obtain ⟨hb, s8, rfl, hr⟩ := ho; have HO8 := Aside0.mk (show Op2 w i (.slice (some ad) n3 lc) lst (j + 1) s8 fb (.slice iA iln ic) (.slice rA rln rc) W8 from ⟨HB7.out.trans (hb.mono HB7.out.size), Kd.R_below HD7.out hb, ⟨img, rs, Kd.R_below HI7.out hb, Kd.R_below HR7.out hb, hr⟩, fun _ => by rw [HN3.out]; exact HNL.out⟩); clear hb hr hstp))
            have HJ9 := Aside0.mk (show -9223372036854775808 ≤ (j : Int) + 1 ∧ (j : Int) + 1 ≤ 9223372036854775807 by have := HJ.out; omega)
            have hwi : wrap64 ((j : Int) + 1) = (j : Int) + 1 := wrap_in HJ9.out.1 HJ9.out.2
            clear hlt
            go_wp2_with fail
            go_roundw
            case rel => exact ⟨j + 1, s8, fb, rfl, rfl, by rw [hwi]; rfl, by have := HJ.out; omega, HO8.out⟩
            case measure =>
              have hw2 : wrap64 ((j : Int) + ((1 : Nat) : Int)) = ((j + 1 : Nat) : Int) := by rw [show ((1 : Nat) : Int) = 1 from rfl, hwi]; rfl
              exact ms_lt n3 j 1 (by have := HJ.out; clear hwi hw2; omega) hw2
        · obtain rfl : j = n3 := by omega
          have hfb : fb = false := by
            cases fb with
            | false => rfl
            | true =>
              have := hst.la rfl
              have := HN3.out
              omega
          subst hfb
          clear hst hj hlt
          go_wp2_with fail
          exact bodyPost_ret (v := .bool true) (by simp [results, Tryz.results5, go_sem]) rfl ⟨rfl, HS.out.hb⟩
set_option maxRecDepth 100000 in
set_option maxHeartbeats 1600000 in
theorem opens_not (w : World) (A : Option Addr) (c n : Nat) (A1 : Option Addr) (c1 n1 : Nat) (A2 : Option Addr) (c2 n2 : Nat) (r : Bool) (hfw : ∀ W, Below w.heap.size w W → Calls Tryz.prog 14 #[.slice A n c] W fun e w' => e = .returned (.bool r) ∧ Below W.heap.size W w')
    (hn : r = false ∨ 12 < n1 ∨ 30 < n2) (hE : Ev w.heap.size w) :
    Calls Tryz.prog 5 #[.slice A n c, .slice A1 n1 c1, .slice A2 n2 c2] w fun e w' => e = .returned (.bool true) ∧ Below w.heap.size w w' := by
  have HE := Aside0.mk hE
  obtain ⟨d1, hd1⟩ : ∃ d1, decide ((n1 : Int) > 12) = d1 := ⟨_, rfl⟩
  obtain ⟨d2, hd2⟩ : ∃ d2, decide ((n2 : Int) > 30) = d2 := ⟨_, rfl⟩
  have HX := Aside0.mk (show r = false ∨ d1 = true ∨ d2 = true by
    rcases hn with h | h | h
    · exact .inl h
    · exact .inr (.inl (by rw [← hd1]; exact decide_eq_true (by omega)))
    · exact .inr (.inr (by rw [← hd2]; exact decide_eq_true (by omega))))
  have hnew := new_dn (W := w) 3000 (by decide) (by decide)
  clear hE hn
  go_enter Tryz.func5, Tryz.ntmps5
  go_upto_region 2 with (go_at_call 6; go_loud (refine (show Calls _ _ _ _ _ from hnew).mono ?_; rintro e w1 ⟨s, rfl, hb, hd⟩; have HB1 := Aside0.mk hb; clear hb hd hnew))
  have hE1 := HE.out.step HB1.out
  have haw := awake_calls w1 (hE1.up HB1.out.size (Nat.le_refl _))
  have haw2 := fun (W : World) (hb : Below w.heap.size w W) => awake_calls W ((HE.out.step hb).up hb.size (Nat.le_refl _))
  have h3 : (r = false) ∨ (r = true ∧ d1 = true) ∨ (r = true ∧ d1 = false ∧ d2 = true) := by
    have := HX.out
    cases r <;> cases d1 <;> cases d2 <;> simp at this ⊢
  rcases h3 with rfl | ⟨rfl, rfl⟩ | ⟨rfl, rfl, rfl⟩
  · go_wp2_with (first
      | (go_at_call 7; refine (show Calls _ _ _ _ _ from haw).mono ?_; rintro e w2 ⟨rfl, hb⟩; have HB2 := Aside0.mk (HB1.out.trans (hb.mono HB1.out.size)); clear hb haw hE1)
      | (go_at_call 14; refine (show Calls _ _ _ _ _ from hfw _ HB2.out).mono ?_; rintro e w2b ⟨rfl, hb⟩; have HB2b := Aside0.mk (HB2.out.trans (hb.mono HB2.out.size)); clear hb hfw)
      | (go_at_call 7; refine (show Calls _ _ _ _ _ from haw2 _ HB2b.out).mono ?_; rintro e w3 ⟨rfl, hb⟩; have HB3 := Aside0.mk (HB2b.out.trans (hb.mono HB2b.out.size)); clear hb haw2))
    exact bodyPost_ret (v := .bool true) (by simp [results, Tryz.results5, go_sem]) rfl ⟨rfl, HB3.out⟩
  · go_wp2_with (first
      | (go_at_call 7; refine (show Calls _ _ _ _ _ from haw).mono ?_; rintro e w2 ⟨rfl, hb⟩; have HB2 := Aside0.mk (HB1.out.trans (hb.mono HB1.out.size)); clear hb haw hE1)
      | (go_at_call 14; refine (show Calls _ _ _ _ _ from hfw _ HB2.out).mono ?_; rintro e w2b ⟨rfl, hb⟩; have HB2b := Aside0.mk (HB2.out.trans (hb.mono HB2.out.size)); clear hb hfw)
      | (go_at_call 7; refine (show Calls _ _ _ _ _ from haw2 _ HB2b.out).mono ?_; rintro e w3 ⟨rfl, hb⟩; have HB3 := Aside0.mk (HB2b.out.trans (hb.mono HB2b.out.size)); clear hb haw2))
    exact bodyPost_ret (v := .bool true) (by simp [results, Tryz.results5, go_sem]) rfl ⟨rfl, HB3.out⟩
  · go_wp2_with (first
      | (go_at_call 7; refine (show Calls _ _ _ _ _ from haw).mono ?_; rintro e w2 ⟨rfl, hb⟩; have HB2 := Aside0.mk (HB1.out.trans (hb.mono HB1.out.size)); clear hb haw hE1)
      | (go_at_call 14; refine (show Calls _ _ _ _ _ from hfw _ HB2.out).mono ?_; rintro e w2b ⟨rfl, hb⟩; have HB2b := Aside0.mk (HB2.out.trans (hb.mono HB2.out.size)); clear hb hfw)
      | (go_at_call 7; refine (show Calls _ _ _ _ _ from haw2 _ HB2b.out).mono ?_; rintro e w3 ⟨rfl, hb⟩; have HB3 := Aside0.mk (HB2b.out.trans (hb.mono HB2b.out.size)); clear hb haw2))
    exact bodyPost_ret (v := .bool true) (by simp [results, Tryz.results5, go_sem]) rfl ⟨rfl, HB3.out⟩
theorem opens_calls (w : World) (A : Option Addr) (c : Nat) (l : List SAct) (A1 : Option Addr) (c1 : Nat) (cuts : List Int) (A2 : Option Addr) (c2 : Nat) (keep : List Int) (hC : Kd.C kAct w A l.length l) (hlc : l.length ≤ c) (hu : ∀ x ∈ l, ∀ y ∈ x.f2, 0 ≤ y ∧ y ≤ 255)
    (hC1 : Kd.C (Kd.int .u8) w A1 cuts.length cuts) (hu1 : ∀ y ∈ cuts, 0 ≤ y ∧ y ≤ 255) (hC2 : Kd.C (Kd.int .i64) w A2 keep.length keep) (hkc : keep.length ≤ c2) (hE : Ev w.heap.size w) :
    Calls Tryz.prog 5 #[.slice A l.length c, .slice A1 cuts.length c1, .slice A2 keep.length c2] w fun e w' => e = .returned (.bool true) ∧ Below w.heap.size w w' := by
  obtain ⟨r, hr, hF⟩ := few_calls w A c l hC hlc
  by_cases h : r = false ∨ 12 < cuts.length ∨ 30 < keep.length
  · exact opens_not w A c l.length A1 c1 cuts.length A2 c2 keep.length r hr h hE
  · have hrt : r = true := by
      cases r with
      | true => rfl
      | false => exact absurd (.inl rfl) h
    subst hrt
    exact opens_few w A c l A1 c1 cuts A2 c2 keep hC hu hC1 hu1 hC2 hkc (hF rfl) hr (Nat.le_of_not_lt fun e => h (.inr (.inl e))) (Nat.le_of_not_lt fun e => h (.inr (.inr e))) hE
end Go.Proofs.YtdooajmgfoobfaaGreatDoor.H
