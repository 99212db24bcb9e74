/- Acts that aren't many, nor long. -/
import Derived.Test.YtdooajmgfoobfaaGreatDoorRqA
namespace Go.Proofs.YtdooajmgfoobfaaGreatDoor.H
open Go.RowKit Go.Shelf Go.Proofs.YtdooajmgfoobfaaGreatDoor.PA Go.Proofs.YtdooajmgfoobfaaGreatDoorW.PrintWords Go.Proofs.YtdooajmgfoobfaaGreatDoorW.PrintLast Go.Proofs.YtdooajmgfoobfaaGreatDoorW.PrintMore
set_option linter.unusedVariables false
set_option linter.unusedSimpArgs false
abbrev What := ByteArray → List ByteArray → Prop
def sLs (l : List (List Int)) : List ByteArray := l.map strOfNums
/-- A reel that goes on: its image and its records. -/
def Live (W : World) (lo g s : Nat) (roll : Int) (i : Nat) (im : ByteArray) (rs : List ByteArray) : Prop :=
  ∃ first img pss D, Rn W lo g s (openM roll first pss) D ∧ Neat D first img pss i ∧ D.lim = 3000 ∧ im = strOfNums img ∧ rs = sLs (recL pss)
/-- A reel whose disk is down: what a stop may leave. -/
def Dead (W : World) (lo g s : Nat) (i : Nat) (S : What) : Prop :=
  ∃ m D, Rn W lo g s m D ∧ m.down = true ∧ RlOk m ∧ m.first ≤ m.last + 1 ∧ D.lim = 3000 ∧ Crash D i (fun a l => S (strOfNums a) (sLs l))
/-- A stopped disk, and what stands on it. -/
def Rest (W : World) (lo s : Nat) (i : Nat) (S : What) : Prop :=
  ∃ E first img pss, Dn W lo s E ∧ AllSafe E ∧ E.lim = 3000 ∧ Rec E first img pss i ∧ S (strOfNums img) (sLs (recL pss))
section
variable {lo lo' g s i : Nat} {W W' : World} {roll : Int} {im : ByteArray} {rs : List ByteArray} {S S' : What}
theorem Live.below (h : Live W lo g s roll i im rs) (hb : Below W.heap.size W W') : Live W' lo g s roll i im rs := by
  obtain ⟨first, img, pss, D, h1, h2⟩ := h
  exact ⟨first, img, pss, D, h1.below hb, h2⟩
theorem Dead.below (h : Dead W lo g s i S) (hb : Below W.heap.size W W') : Dead W' lo g s i S := by
  obtain ⟨m, D, h1, h2⟩ := h
  exact ⟨m, D, h1.below hb, h2⟩
theorem Rest.below (h : Rest W lo s i S) (hb : Below W.heap.size W W') : Rest W' lo s i S := by
  obtain ⟨E, first, img, pss, h1, h2⟩ := h
  exact ⟨E, first, img, pss, h1.below hb, h2⟩
theorem Live.lower (h : Live W lo' g s roll i im rs) (h1 : lo ≤ lo') : Live W lo g s roll i im rs := by
  obtain ⟨first, img, pss, D, h2, h3⟩ := h
  exact ⟨first, img, pss, D, h2.lower h1, h3⟩
theorem Live.up (h : Live W lo g s roll i im rs) {j : Nat} (h1 : i ≤ j) (h2 : j ≤ 98) : Live W lo g s roll j im rs := by
  obtain ⟨first, img, pss, D, k1, k2, k3⟩ := h
  exact ⟨first, img, pss, D, k1, k2.up h1 h2, k3⟩
theorem Crash.up {D : Dk} {S : List Int → List (List Int) → Prop} (h : Crash D i S) {j : Nat} (h1 : i ≤ j) (h2 : j ≤ 98) : Crash D j S := fun E hE => by
  obtain ⟨first, img, pss, k1, k2⟩ := h E hE
  exact ⟨first, img, pss, k1.up h1 h2, k2⟩
theorem Dead.up (h : Dead W lo g s i S) {j : Nat} (h1 : i ≤ j) (h2 : j ≤ 98) : Dead W lo g s j S := by
  obtain ⟨m, D, k1, k2, k3, k4, k5, k6⟩ := h
  exact ⟨m, D, k1, k2, k3, k4, k5, k6.up h1 h2⟩
theorem Rest.up (h : Rest W lo s i S) {j : Nat} (h1 : i ≤ j) (h2 : j ≤ 98) : Rest W lo s j S := by
  obtain ⟨E, first, img, pss, k1, k2, k3, k4, k5⟩ := h
  exact ⟨E, first, img, pss, k1, k2, k3, k4.up h1 h2, k5⟩
theorem Crash.mono {D : Dk} {S S' : List Int → List (List Int) → Prop} (h : Crash D i S) (hS : ∀ a l, S a l → S' a l) : Crash D i S' := fun E hE => by
  obtain ⟨first, img, pss, k1, k2⟩ := h E hE
  exact ⟨first, img, pss, k1, hS _ _ k2⟩
theorem note_ok {m : Rl} {e : Int} (h : RlOk m) : RlOk (m.note e) := ⟨h.roll, h.first, h.last, h.size, h.tail⟩
/-- How a call on a reel that lives ends. -/
structure LvOut (lo g s : Nat) (roll : Int) (i : Nat) (im : ByteArray) (rs : List ByteArray) (im2 : ByteArray) (rs2 : List ByteArray) (W : World) (e : Ending) (W' : World) : Prop where
  st : Stp lo W W'
  out : (e = .returned (.int .i64 0) ∧ Live W' lo g s roll (i + 1) im2 rs2) ∨ (e = .returned (.int .i64 3) ∧ Live W' lo g s roll (i + 1) im rs) ∨ (e = .returned (.int .i64 23) ∧ Dead W' lo g s (i + 1) (fun a l => (a = im ∧ l = rs) ∨ (a = im2 ∧ l = rs2)))
theorem live_app (h : Live W lo g s roll i im rs) (hi : i < 98) (hro : 1 ≤ roll ∧ roll ≤ 60000) (hE : Ev lo W) (A : Option Addr) (c : Nat) (b : List Int) (hC : Kd.C (Kd.int .u8) W A b.length b) (hu : ∀ x ∈ b, 0 ≤ x ∧ x ≤ 255) (hl : b.length ≤ 1000) :
    Calls Tryz.prog 9 #[.pointer (some ⟨g, 0, none⟩), .slice A b.length c] W (LvOut lo g s roll i im rs im (rs ++ [strOfNums b]) W) := by
  obtain ⟨first, img, pss, D, h1, h2, h3, h4, h5⟩ := h
  have ok := rl_ok (roll := roll) h2 hro (by omega)
  have ha := append_plain (roll := roll) h2 h1.ok (by rw [h3]; decide) hi b hu hl
  refine (app_rn h1 ok hE A c b hC hu hl).mono fun e W' ho => ⟨ho.st, ?_⟩
  have hrn := ho.rn
  have hret := ho.ret
  generalize rappend (openM roll first pss) D b = r at ha hrn hret
  obtain ⟨⟨m1, D1⟩, e1⟩ := r
  simp only at hrn hret
  have hl1 := ha.lim
  rcases ha.out with ⟨a0, pss', a1, a2, a3, _, _⟩ | ⟨a0, a1⟩ | ⟨a0, a1, a2⟩
  · simp only at a0 a1 a2 hl1
    subst a0 a1
    exact .inl ⟨hret, first, img, pss', D1, hrn, a2, hl1.trans h3, h4, by rw [a3, h5]; simp [sLs]⟩
  · simp only at a0 a1
    cases a1
    subst a0
    exact .inr (.inl ⟨hret, first, img, pss, _, hrn, h2.up (by omega) (by omega), h3, h4, h5⟩)
  · simp only at a0 a1 a2 hl1
    subst a0 a1
    refine .inr (.inr ⟨hret, _, D1, hrn, note_down _, note_ok ok, ?_, hl1.trans h3, a2.mono ?_⟩)
    · obtain ⟨o1, _, o3, _⟩ := openM_last roll first pss
      show (openM roll first pss).first ≤ (openM roll first pss).last + 1
      rw [o1, o3]
      omega
    · rintro a l ⟨rfl, rfl | rfl⟩
      · exact .inl ⟨h4.symm, h5.symm⟩
      · exact .inr ⟨h4.symm, by rw [h5]; simp [sLs]⟩
theorem live_sav (h : Live W lo g s roll i im rs) (hi : i < 98) (hro : 1 ≤ roll ∧ roll ≤ 60000) (hE : Ev lo W) (A : Option Addr) (c : Nat) (b : List Int) (hC : Kd.C (Kd.int .u8) W A b.length b) (hu : ∀ x ∈ b, 0 ≤ x ∧ x ≤ 255) (hl : b.length ≤ 1000) :
    Calls Tryz.prog 10 #[.pointer (some ⟨g, 0, none⟩), .slice A b.length c] W (LvOut lo g s roll i im rs (strOfNums b) [] W) := by
  obtain ⟨first, img, pss, D, h1, h2, h3, h4, h5⟩ := h
  have ok := rl_ok (roll := roll) h2 hro (by omega)
  obtain ⟨o1, _, o3, _⟩ := openM_last roll first pss
  have hfl : (openM roll first pss).first ≤ (openM roll first pss).last + 1 := by rw [o1, o3]; omega
  have ha := save_plain (roll := roll) h2 h1.ok b hu hl
  refine (sav_rn h1 ok hfl hE A c b hC hu hl).mono fun e W' ho => ⟨ho.st, ?_⟩
  have hrn := ho.rn
  have hret := ho.ret
  generalize rsave (openM roll first pss) D b = r at ha hrn hret
  obtain ⟨⟨m1, D1⟩, e1⟩ := r
  simp only at hrn hret
  have hl1 := ha.lim
  rcases ha.out with ⟨a0, a1, a2⟩ | ⟨a0, a1⟩ | ⟨a0, a1, a2⟩
  · simp only at a0 a1 a2 hl1
    subst a0 a1
    exact .inl ⟨hret, _, b, [], D1, hrn, a2.up (by omega) (by omega), hl1.trans h3, rfl, rfl⟩
  · simp only at a0 a1
    cases a1
    subst a0
    exact .inr (.inl ⟨hret, first, img, pss, _, hrn, h2.up (by omega) (by omega), h3, h4, h5⟩)
  · simp only at a0 a1 a2 hl1
    subst a0 a1
    refine .inr (.inr ⟨hret, _, D1, hrn, note_down _, note_ok ok, hfl, hl1.trans h3, (a2.up (by omega) (by omega)).mono ?_⟩)
    rintro a l (⟨rfl, rfl⟩ | ⟨rfl, rfl⟩)
    · exact .inl ⟨h4.symm, h5.symm⟩
    · exact .inr ⟨rfl, rfl⟩
/-- How a call on a reel whose disk is down ends. -/
structure DdOut (lo g s i : Nat) (S : What) (W : World) (e : Ending) (W' : World) : Prop where
  st : Stp lo W W'
  ret : e = .returned (.int .i64 23)
  dd : Dead W' lo g s (i + 1) S
theorem dead_app (h : Dead W lo g s i S) (hi : i < 98) (hE : Ev lo W) (A : Option Addr) (c : Nat) (b : List Int) (hC : Kd.C (Kd.int .u8) W A b.length b) (hu : ∀ x ∈ b, 0 ≤ x ∧ x ≤ 255) (hl : b.length ≤ 1000) :
    Calls Tryz.prog 9 #[.pointer (some ⟨g, 0, none⟩), .slice A b.length c] W (DdOut lo g s i S W) := by
  obtain ⟨m, D, h1, h2, h3, h4, h5, h6⟩ := h
  refine (app_rn h1 h3 hE A c b hC hu hl).mono fun e W' ho => ?_
  have hr : rappend m D b = ((m, D), 23) := by unfold rappend; rw [if_neg (by omega), if_pos h2]
  have hrn := ho.rn
  have hret := ho.ret
  rw [hr] at hrn hret
  exact ⟨ho.st, hret, m, D, hrn, h2, h3, h4, h5, h6.up (by omega) (by omega)⟩
theorem dead_sav (h : Dead W lo g s i S) (hi : i < 98) (hE : Ev lo W) (A : Option Addr) (c : Nat) (b : List Int) (hC : Kd.C (Kd.int .u8) W A b.length b) (hu : ∀ x ∈ b, 0 ≤ x ∧ x ≤ 255) (hl : b.length ≤ 1000) :
    Calls Tryz.prog 10 #[.pointer (some ⟨g, 0, none⟩), .slice A b.length c] W (DdOut lo g s i S W) := by
  obtain ⟨m, D, h1, h2, h3, h4, h5, h6⟩ := h
  refine (sav_rn h1 h3 h4 hE A c b hC hu hl).mono fun e W' ho => ?_
  have hr : rsave m D b = ((m, D), 23) := by unfold rsave; rw [if_pos h2]
  have hrn := ho.rn
  have hret := ho.ret
  rw [hr] at hrn hret
  exact ⟨ho.st, hret, m, D, hrn, h2, h3, h4, h5, h6.up (by omega) (by omega)⟩
theorem crash_fuse {D : Dk} {n : Int} {S : List Int → List (List Int) → Prop} (h : Crash D i S) : Crash { D with fused := true, steps := n } i S := fun E hE => h E hE
theorem Rec.setF {D : Dk} {n : Int} {f : Bool} {first : Nat} {img : List Int} {pss : List Sg} (h : Rec D first img pss i) : Rec { D with fused := f, steps := n } first img pss i := h.same (fun _ => rfl)
theorem live_fuse (h : Live W lo g s roll i im rs) (hs : lo ≤ W.heap.size) (n : Int) (h0 : 0 ≤ n) (h1 : n ≤ 1000000) : Calls Tryz.prog 15 #[.pointer (some ⟨s, 0, none⟩), .int .i64 n] W fun e W' => e = .returned (.int .i64 0) ∧ Live W' lo g s roll i im rs ∧ Stp lo W W' := by
  obtain ⟨first, img, pss, D, k1, k2, k3⟩ := h
  exact (fuse_rn k1 hs n h0 h1).mono fun e W' ⟨p1, p2, p3⟩ => ⟨p1, ⟨first, img, pss, _, p2, k2.same (fun _ => rfl), k3⟩, p3⟩
theorem dead_fuse (h : Dead W lo g s i S) (hs : lo ≤ W.heap.size) (n : Int) (h0 : 0 ≤ n) (h1 : n ≤ 1000000) : Calls Tryz.prog 15 #[.pointer (some ⟨s, 0, none⟩), .int .i64 n] W fun e W' => e = .returned (.int .i64 0) ∧ Dead W' lo g s i S ∧ Stp lo W W' := by
  obtain ⟨m, D, k1, k2, k3, k4, k5, k6⟩ := h
  exact (fuse_rn k1 hs n h0 h1).mono fun e W' ⟨p1, p2, p3⟩ => ⟨p1, ⟨m, _, p2, k2, k3, k4, k5, crash_fuse k6⟩, p3⟩
/-- A stop, of a reel that lives or not. -/
structure StOut (i : Nat) (S : What) (W : World) (e : Ending) (W' : World) : Prop where
  hb : Below W.heap.size W W'
  ex : ∃ s2, e = .returned (.pointer (some ⟨s2, 0, none⟩)) ∧ ∃ E first img pss, Dn W' W.heap.size s2 E ∧ AllSafe E ∧ E.lim = 3000 ∧ E.fused = false ∧ Rec E first img pss i ∧ S (strOfNums img) (sLs (recL pss))
theorem live_stop (h : Live W lo g s roll i im rs) (kA : Option Addr) (kc : Nat) (kl : List Int) (hk : Kd.C (Kd.int .i64) W kA kl.length kl) (hkc : kl.length ≤ kc) : Calls Tryz.prog 12 #[.pointer (some ⟨s, 0, none⟩), .slice kA kl.length kc] W (StOut i (fun a l => a = im ∧ l = rs) W) := by
  obtain ⟨first, img, pss, D, k1, k2, k3, k4, k5⟩ := h
  exact (stop_dn k1.dn kA kc kl hk hkc).mono fun e W' ⟨s2, E, p1, p2, p3, p4, p5⟩ => ⟨p2, s2, p1, E, first, img, pss, p3, p5, p4.1.trans k3, p4.2.1, k2.r.same (stopped_eq p4 k2.safe), k4.symm, k5.symm⟩
theorem dead_stop (h : Dead W lo g s i S) (kA : Option Addr) (kc : Nat) (kl : List Int) (hk : Kd.C (Kd.int .i64) W kA kl.length kl) (hkc : kl.length ≤ kc) : Calls Tryz.prog 12 #[.pointer (some ⟨s, 0, none⟩), .slice kA kl.length kc] W (StOut i S W) := by
  obtain ⟨m, D, k1, k2, k3, k4, k5, k6⟩ := h
  refine (stop_dn k1.dn kA kc kl hk hkc).mono fun e W' ⟨s2, E, p1, p2, p3, p4, p5⟩ => ?_
  obtain ⟨first, img, pss, q1, q2⟩ := k6 E p4
  exact ⟨p2, s2, p1, E, first, img, pss, p3, p5, p4.1.trans k5, p4.2.1, q1, q2⟩
/-- An opening that nothing stops. -/
structure LoOut (lo s : Nat) (roll : Int) (i : Nat) (img : List Int) (ps : List (List Int)) (W : World) (e : Ending) (W' : World) : Prop where
  st : Stp lo W W'
  ex : ∃ g A c A2 c2, e = .returned (.tuple #[.pointer (some ⟨g, 0, none⟩), .slice A img.length c, .slice A2 ps.length c2, .int .i64 0]) ∧ Live W' lo g s roll i (strOfNums img) (sLs ps) ∧
    Kd.R (Kd.int .u8) 5 W' lo (fun _ => True) (.slice A img.length c) img ∧ BsAt W' lo (.slice A2 ps.length c2) ps
theorem open_live {E : Dk} {first : Nat} {img : List Int} {pss : List Sg} (h : Dn W lo s E) (hs : AllSafe E) (hl : E.lim = 3000) (hf : Fz E 18) (hr : Rec E first img pss i) (hE : Ev lo W) (hro : 1 ≤ roll ∧ roll ≤ 60000) :
    Calls Tryz.prog 8 #[.pointer (some ⟨s, 0, none⟩), .int .i64 roll] W (LoOut lo s roll i img (recL pss) W) := by
  have hcl := clean_plain (roll := roll) hr hs h.ok
  refine (open_rn h hE roll hro hr).mono fun e W' ho => ⟨ho.st, ?_⟩
  have h0 := hcl.fz hf
  obtain ⟨g, A, c, A2, c2, p1, p2, p3, p4⟩ := ho.ok h0
  rcases hcl.out with ⟨_, q⟩ | ⟨q, _⟩
  · exact ⟨g, A, c, A2, c2, p1, ⟨first, img, strip pss, _, by rw [openM_strip]; exact p2, q, hcl.lim.trans hl, rfl, by rw [strip_recL]⟩, p3, p4⟩
  · rw [h0] at q
    cases q
end
end Go.Proofs.YtdooajmgfoobfaaGreatDoor.H
namespace Go.Proofs.YtdooajmgfoobfaaGreatDoor.H
open Go.RowKit Go.Shelf Go.Proofs.YtdooajmgfoobfaaGreatDoor.PA Go.Proofs.YtdooajmgfoobfaaGreatDoorW.PrintWords Go.Proofs.YtdooajmgfoobfaaGreatDoorW.PrintLast Go.Proofs.YtdooajmgfoobfaaGreatDoorW.PrintMore
set_option linter.unusedVariables false
set_option linter.unusedSimpArgs false
abbrev SAct := S43
abbrev kAct := k43
structure FewP (l : List SAct) : Prop where
  n : l.length ≤ 40
  b : ∀ x ∈ l, x.f2.length ≤ 400
  k : ∀ x ∈ l, x.f3.length ≤ 30
theorem few_loop (l : List SAct) (hm : l.length ≤ 9223372036854775807) : ∀ (n j : Nat), j + n = l.length → (∀ i, i < j → ∀ x, l[i]? = some x → x.f2.length ≤ 400 ∧ x.f3.length ≤ 30) → ∃ r, tidemilllaw18_few.l0 (n + 1) l l (l.length : Int) (j : Int) = some r ∧ (r = true → FewP l) := by
  intro n
  induction n with
  | zero =>
    intro j hj hp
    unfold tidemilllaw18_few.l0
    rw [if_neg (by omega)]
    refine ⟨_, rfl, fun h => ?_⟩
    have h1 := of_decide_eq_true h
    have h2 : ∀ x ∈ l, x.f2.length ≤ 400 ∧ x.f3.length ≤ 30 := fun x hx => by
      obtain ⟨i, hi⟩ := List.mem_iff_getElem?.1 hx
      have := (List.getElem?_eq_some_iff.1 hi).1
      exact hp i (by omega) x hi
    exact ⟨by omega, fun x hx => (h2 x hx).1, fun x hx => (h2 x hx).2⟩
  | succ n ih =>
    intro j hj hp
    unfold tidemilllaw18_few.l0
    rw [if_pos (by omega), if_pos (by omega), if_pos (by omega)]
    have hjl : j < l.length := by omega
    have hx : rd_T43 l (j : Int) = l[j] := by
      unfold rd_T43
      rw [Int.toNat_natCast, List.getD_eq_getElem?_getD, List.getElem?_eq_getElem hjl]
      rfl
    rw [hx]
    by_cases h1 : (l[j].f2.length : Int) > 400
    · rw [if_pos h1]
      exact ⟨_, rfl, fun h => by cases h⟩
    · rw [if_neg h1]
      by_cases h2 : (l[j].f3.length : Int) > 30
      · rw [if_pos h2]
        exact ⟨_, rfl, fun h => by cases h⟩
      · rw [if_neg h2, wrap_in (show -9223372036854775808 ≤ (j : Int) + 1 by omega) (show (j : Int) + 1 ≤ 9223372036854775807 by omega)]
        refine ih (j + 1) (by omega) fun i hi x hix => ?_
        rcases Nat.lt_or_ge i j with h3 | h3
        · exact hp i h3 x hix
        · obtain rfl : i = j := by omega
          rw [List.getElem?_eq_getElem hjl] at hix
          cases hix
          omega
theorem few_calls (w : World) (A : Option Addr) (c : Nat) (l : List SAct) (hC : Kd.C kAct w A l.length l) (hc : l.length ≤ c) :
    ∃ r, (∀ W, Below w.heap.size w W → Calls Tryz.prog 14 #[.slice A l.length c] W fun e w' => e = .returned (.bool r) ∧ Below W.heap.size W w') ∧ (r = true → FewP l) := by
  obtain ⟨r, h1, h2⟩ := few_loop l hC.2.1 l.length 0 (by omega) (fun i hi => absurd hi (by omega))
  exact ⟨r, fun W hW => tidemilllaw18_few.calls (l.length + 1) A c l r W (Kd.C_below hC hW) hc h1, h2⟩
end Go.Proofs.YtdooajmgfoobfaaGreatDoor.H

