/- A reel, step by step. -/
import Derived.Test.YtdooajmgfoobfaaGreatDoorSuP
import Derived.Test.YtdooajmgfoobfaaGreatDoorLkC
import Derived.Test.YtdooajmgfoobfaaGreatDoorShelf
import Derived.Lib.AtoiErrMem
import Derived.Lib.AtoiAllMem
import Derived.Lib.ItoaNum
namespace Go.Proofs.YtdooajmgfoobfaaGreatDoor.H
attribute [local go_sem] Oper.semAt_some
open Go.RowKit Go.Shelf Go.Proofs.YtdooajmgfoobfaaGreatDoor.PA Go.Proofs.YtdooajmgfoobfaaGreatDoorW.PrintWords Go.Proofs.YtdooajmgfoobfaaGreatDoorW.PrintLast Go.Proofs.YtdooajmgfoobfaaGreatDoorW.PrintMore
set_option linter.unusedVariables false
set_option linter.unusedSimpArgs false
/-- A file's name, and how many bytes aren't safe. -/
def nmA (x : ByteArray × Fl) : Array Value := #[.string x.1, .int .i64 (x.2.b.length - x.2.s)]
theorem both_next {α β : Type} {R : α → β → Prop} {A T : List (ByteArray × α)} {M : List (ByteArray × β)} {x : ByteArray × α} (h : Both R T M) (hx : A ++ [x] <+: T) : ∃ y, M.take A.length ++ [(x.1, y)] <+: M ∧ R x.2 y ∧ M.take (A.length + 1) = M.take A.length ++ [(x.1, y)] := by
  obtain ⟨r, he⟩ := hx
  rw [← he, List.append_assoc] at h
  obtain ⟨M1, M2, e, h1, h2⟩ := both_split h
  subst e
  cases h2 with
  | @cons k a y _ M3 h3 h4 =>
    have hl := h1.length
    refine ⟨y, ?_, h3, ?_⟩
    · rw [hl, List.take_left]
      exact ⟨M3, by simp⟩
    · rw [hl, List.take_length_add_append, List.take_left]
      rfl
theorem both_full {α β : Type} {R : α → β → Prop} {T : List (ByteArray × α)} {M : List (ByteArray × β)} (h : Both R T M) : M.take T.length = M := by rw [h.length, List.take_length]
/-- Where Names' loop stands: J of the outer loop. -/
structure NamesSt (V : World) (yb lp rk : Nat) (T : Tr FV) (M : Fls) (J : Fls → World → Prop) (pre : List (ByteArray × FV)) (W : World) : Prop where
  hb : V.heap.size ≤ yb ∧ yb + 2 ≤ W.heap.size
  y_ : W.heap[yb]? = some (.cells #[.func (.yield lp) #[] #[]] 116 (0, 0))
  r_ : RackAt W rk T
  j_ : J (M.take pre.length) W
  pf : pre <+: T.toL
theorem NamesSt.own {V : World} {yb lp rk : Nat} {T : Tr FV} {M : Fls} {J : Fls → World → Prop} (hJ : OwnFrom V.heap.size J) {B : Nat} (hB : V.heap.size ≤ B) : OwnFrom B (NamesSt V yb lp rk T M J) := fun pre W W' row hs hg hr =>
  ⟨⟨hs.hb.1, Nat.le_trans hs.hb.2 hg.size⟩, (hg.block _ (blk_lt hs.y_) (cells_ne_row (B := B) hr hs.y_)).trans hs.y_, hs.r_.grown hg (fun r e => (hr r e).2), hJ _ W W' row hs.j_ hg (fun r e => ⟨Nat.le_trans hB (hr r e).1, (hr r e).2⟩), hs.pf⟩
/-- Blocks that hold such function values stay. -/
def FnKept (A B : World) : Prop := ∀ (i : Nat) (cs : Array Value), A.heap[i]? = some (.cells cs 116 (0, 0)) → B.heap[i]? = A.heap[i]?
def KpN (rk : Nat) (T : Tr FV) (A B : World) : Prop := KpR rk T A B ∧ FnKept A B
theorem KpN.trans {rk : Nat} {T : Tr FV} {A B C : World} (h : KpN rk T A B) (k : KpN rk T B C) : KpN rk T A C :=
  ⟨fun hr => k.1 (h.1 hr), fun i cs hc => (k.2 i cs ((h.2 i cs hc).trans hc)).trans (h.2 i cs hc)⟩
theorem kpN_putObj (rk : Nat) (T : Tr FV) (W : World) (l : Nat) (o o' : Obj) (hl : W.heap[l]? = some o) (ho : o.isCells = false) : KpN rk T W (W.putObj l o') :=
  ⟨kpR_putObj rk T W l o o' hl ho, fun i cs hc => World.putObj_heap_other (by
    rintro rfl
    rw [hl] at hc
    cases hc
    cases ho)⟩
theorem keepsFrom_mono {B B' : Nat} {A C : World} (h : KeepsFrom B A C) (hB : B ≤ B') : KeepsFrom B' A C := ⟨h.size, fun k o hk h0 ho => h.same k o (Nat.le_trans hB hk) h0 ho⟩
theorem round_any {P : Program} {l f m m' r : Nat} {tmps : Array Value} {assign body : Code} {w : World} {R : Ending → World → Prop} (h : RoundIn Fence.wide m P l f tmps assign body w R) : RoundIn (Fence.wide.inRound r) m' P l f tmps assign body w R :=
  ⟨h.1, fun c cs _ => h.2 c cs (room_wide _)⟩
set_option maxRecDepth 100000 in
set_option maxHeartbeats 8000000 in
theorem names1_in (m lp bs s rk : Nat) (lim0 fu0 st0 : Value) (T : Tr FV) (M : Fls) (V0 V : World) (J Jx : Fls → World → Prop) (hJ : OwnFrom V.heap.size J) (hJx : OwnFrom V.heap.size Jx)
    (hY : ∀ pre x W1, J pre W1 → pre ++ [x] <+: M → YieldAt Fence.wide m Tryz.prog lp (nmA x) W1 fun e W' => (e = .returned (.bool true) ∧ J (pre ++ [x]) W' ∧ KpN rk T W1 W' ∧ KeepsFrom V.heap.size W1 W') ∨ (e = .returned (.bool false) ∧ Jx (pre ++ [x]) W' ∧ KeepsFrom V.heap.size W1 W'))
    (hb : V.heap[bs]? = some (.cells #[.pointer (some ⟨s, 0, none⟩)] 23 (0, 0))) (hs : V.heap[s]? = some (.cells #[lim0, .pointer (some ⟨rk, 0, none⟩), fu0, st0] 54 (0, 0))) (hr : RackAt V rk T) (hv : Both (FvAt V0) T.toL M) (hok : ∀ x ∈ M, FlOk x.2 ∧ x.2.b.length ≤ 1048576) (h0 : J [] V) :
    CallsIn Fence.wide 8 Tryz.prog 67 #[.func (.yield lp) #[] #[], .pointer (some ⟨bs, 0, none⟩)] V fun e W' => (∃ v, e = .returned v) ∧
      ((∃ xs, xs = M ∧ J xs W') ∨ ∃ pre, pre <+: M ∧ Jx pre W') := by
  have hB1 : Below V.heap.size V (V.alloc (.cells #[.func (.yield lp) #[] #[]] 116)) := (Below.refl _ V).alloc (Nat.le_refl _) _
  have d0 : (V.alloc (.cells #[.func (.yield lp) #[] #[]] 116)).cell? ⟨bs, 0, none⟩ = some (.pointer (some ⟨s, 0, none⟩)) := (blk_cell (blk_below hb hB1) 0).trans rfl
  have d1 : (V.alloc (.cells #[.func (.yield lp) #[] #[]] 116)).cell? ⟨s, 1, none⟩ = some (.pointer (some ⟨rk, 0, none⟩)) := (blk_cell (blk_below hs hB1) 1).trans rfl
  have HY := Aside0.mk hY
  have HJ := Aside0.mk hJ
  have HJX := Aside0.mk hJx
  have HV := Aside0.mk hv
  have HOK := Aside0.mk hok
  have HR := Aside0.mk hr
  have H0 := Aside0.mk h0
  have HB1 := Aside0.mk hB1
  clear hY hJ hJx hv hok hb hs h0 hB1 hr
  refine callsIn_of_wp_marks Tryz.func67 rfl trivial ?_ rfl
  simp only [Tryz.ntmps67, List.size_toArray, List.length_cons, List.length_nil, Nat.reduceAdd, Nat.reduceSub, Array.replicate_succ, Array.replicate_zero, List.push_toArray, List.append_toArray, List.nil_append, List.cons_append]
  gi_wp2_with fail
  refine ⟨trivial, ?_⟩
  gi_at_call 31
  refine (callsIn_wide.2 (All_calls rk _)).mono ?_
  rintro e w4 ⟨rfl, rfl⟩
  gi_wp2_with fail
  have hP0 : NamesSt V V.heap.size lp rk T M J [] ((V.alloc (.cells #[.func (.yield lp) #[] #[]] 116)).alloc (.cells #[.pointer (some ⟨rk, 0, none⟩)] 48)) := by
    have e0 := heap_alloc2_old V (.cells #[.func (.yield lp) #[] #[]] 116) (.cells #[.pointer (some ⟨rk, 0, none⟩)] 48)
    exact ⟨⟨Nat.le_refl _, by simp⟩, e0, (HR.out.alloc _).alloc _, HJ.out.alloc _ (HJ.out.alloc _ H0.out), List.nil_prefix⟩
  have hbx := heap_alloc2_new V (.cells #[.func (.yield lp) #[] #[]] 116) (.cells #[.pointer (some ⟨rk, 0, none⟩)] 48)
  have hle : V.heap.size ≤ ((V.alloc (.cells #[.func (.yield lp) #[] #[]] 116)).alloc (.cells #[.pointer (some ⟨rk, 0, none⟩)] 48)).heap.size := by simp; omega
  clear d0 d1 H0 HB1
  generalize (V.alloc (.cells #[.func (.yield lp) #[] #[]] 116)).alloc (.cells #[.pointer (some ⟨rk, 0, none⟩)] 48) = w5 at hP0 hbx hle ⊢
  have hsz5 := hP0.hb.2
  have hhands := all_handsP (8 - 1) (V.heap.size + 1) rk T w5 hbx hP0.r_
  refine range_handsP (F := Fence.wide) (n := 8) rfl (by omega) (gf := 57) (lb := #[.pointer (some ⟨V.heap.size + 1, 0, none⟩)]) rfl trivial (enters_of Tryz.func57 (by kernel_rfl) rfl)
    hhands (fun A B hst => hst.elim) (fun _ => rfl) (fun h k hr => k (h hr)) (fun W l o o' hl ho hc hw => kpR_putObj rk T W l o o' ho hc)
    (NamesSt V V.heap.size lp rk T M J) (fun pre W => Jx (M.take pre.length) W ∧ pre <+: T.toL) (NamesSt.own HJ.out hle) (fun s W W' row hs hg hr => ⟨HJX.out _ W W' row hs.1 hg (fun r e => ⟨Nat.le_trans hle (hr r e).1, (hr r e).2⟩), hs.2⟩) (fun pre x s W W' row hs hg hr => hs) hP0 (fun s A B hs hst => hst.elim) (fun s A B hs hst => hst.elim)
    (fun x a' W => ∃ b, V.heap.size + 2 ≤ b ∧ a' = { tmps := #[.func (.yield lp) #[] #[], .pointer (some ⟨bs, 0, none⟩), .pointer (some ⟨V.heap.size, 0, none⟩), .string x.1, .pointer (some ⟨b, 0, none⟩), .pointer (some ⟨s, 0, none⟩), .pointer (some ⟨s, 0, none⟩), .pointer (some ⟨s, 1, none⟩), .pointer (some ⟨rk, 0, none⟩), .func (.func 57) #[] #[.pointer (some ⟨V.heap.size + 1, 0, none⟩)], .string x.1, x.2.val, undef, undef, undef, undef, undef, undef, undef, undef, undef, undef], defers := [] } ∧ W.heap[b]? = some (.cells #[.slice x.2.A x.2.n x.2.c, .int .i64 x.2.s] 51 (0, 0)))
    (fun x a' s W W' row hs hg hr => by obtain ⟨b, h1, h2, h3⟩ := hs; exact ⟨b, h1, h2, (hg.block _ (blk_lt h3) (cells_ne_row hr h3)).trans h3⟩) ?assign ?body ?done ?stop
  case assign =>
    rintro lp2 pre ⟨k, v⟩ W K hI hx hK
    simp only [entA]
    have hsz : V.heap.size + 2 ≤ W.heap.size := hI.hb.2
    have hbn : Below W.heap.size W (W.alloc (.cells #[.slice v.A v.n v.c, .int .i64 v.s] 51)) := (Below.refl _ _).alloc (Nat.le_refl _) _
    have e1 := heap_alloc_new W (.cells #[.slice v.A v.n v.c, .int .i64 v.s] 51)
    have hI2 : NamesSt V V.heap.size lp rk T M J pre (W.alloc (.cells #[.slice v.A v.n v.c, .int .i64 v.s] 51)) :=
      ⟨⟨Nat.le_refl _, Nat.le_trans hsz hbn.size⟩, blk_below hI.y_ hbn, hI.r_.below hbn, HJ.out.alloc _ hI.j_, hI.pf⟩
    have HKK := Aside0.mk (hK _ _ (KeepsOthers.alloc W (.cells #[.slice v.A v.n v.c, .int .i64 v.s] 51)) (fun h => h.alloc _) hI2 hx ⟨W.heap.size, hsz, rfl, e1⟩)
    clear hK hsz hbn e1 hI2 hI hx
    gi_wp2
    exact HKK.out
  case body =>
    rintro lp2 pre ⟨k, v⟩ a' W hI hx ⟨b, hb1, rfl, hb2⟩ hln
    obtain ⟨f, hp, hfv, htk⟩ := both_next HV.out hx
    simp only at hp hfv htk
    have hm : (k, f) ∈ M := hp.subset (by simp)
    obtain ⟨fo, fl⟩ := HOK.out _ hm
    simp only at fo fl
    obtain ⟨fn, tm, asg, bd, hy, hR⟩ := HY.out (M.take pre.length) (k, f) W hI.j_ hp
    have HI := Aside0.mk hI
    have HX := Aside0.mk (And.intro hx htk)
    have HB2 := Aside0.mk hb2
    have e0 := blk_cell hI.y_ 0
    have e1 := blk_cell hb2 0
    have e2 := blk_cell hb2 1
    obtain ⟨A, n, c, sf⟩ := v
    have hn : n = f.b.length := hfv.n
    have hsf : sf = f.s := hfv.s
    have f0 := fo.s0
    have f1 := fo.s1
    obtain ⟨lo, hlo⟩ : ∃ lo, lo = (f.b.length : Int) - f.s := ⟨_, rfl⟩
    have hw : wrap64 ((n : Int) - sf) = lo := by rw [wrap_in (by omega) (by omega)]; omega
    simp only [nmA] at hy
    rw [← hlo] at hy
    have HRR := Aside0.mk hR
    clear hI hx hfv hp htk hm fo fl hb2 hn hsf f0 f1 hlo hR hhands hbx hP0 hb1
    gi_wp2
    refine (round_any HRR.out).mono ?_
    rintro e W3 (⟨rfl, hj, hk, hkf⟩ | ⟨rfl, hj, hkf⟩)
    · have FIN := Aside0.mk (show NamesSt V V.heap.size lp rk T M J (pre ++ [(k, ⟨A, n, c, sf⟩)]) W3 from ⟨⟨Nat.le_refl _, Nat.le_trans HI.out.hb.2 hkf.size⟩, (hk.2 _ _ HI.out.y_).trans HI.out.y_, hk.1 HI.out.r_, by
        rw [List.length_append]
        simp only [List.length_cons, List.length_nil, Nat.zero_add]
        rw [HX.out.2]
        exact hj, HX.out.1⟩)
      have FIN2 := Aside0.mk (And.intro (keepsFrom_mono hkf hle) hk.1)
      clear hj hk hkf
      gi_wp2
      exact .inl ⟨rfl, FIN2.out.1, FIN2.out.2, FIN.out⟩
    · have FIN := Aside0.mk (show Jx (M.take (pre ++ [(k, (⟨A, n, c, sf⟩ : FV))]).length) W3 by
        rw [List.length_append]
        simp only [List.length_cons, List.length_nil, Nat.zero_add]
        rw [HX.out.2]
        exact hj)
      have FIN2 := Aside0.mk (keepsFrom_mono hkf hle)
      clear hj hkf
      gi_wp2
      exact .inr ⟨rfl, FIN2.out, FIN.out, HX.out.1⟩
  case done =>
    rintro D' xs W hD rfl hI hK
    have HI := Aside0.mk (show J M W by have := hI.j_; rwa [both_full HV.out] at this)
    have HSZ5 := Aside0.mk hle
    clear hI hhands hbx hP0
    gi_wp2_with fail
    refine ⟨by simp, .inl ⟨_, _, rfl, run_takeDeferred hK, ?_⟩⟩
    exact ⟨.tuple #[], by simp [results, Tryz.results67, go_sem], ⟨_, rfl⟩, .inl ⟨_, rfl, HJ.out.putObj _ HI.out (by have := HSZ5.out; omega) hK rfl⟩⟩
  case stop =>
    rintro D' pre W hD hp ⟨hI, hpf⟩ hK
    have HI := Aside0.mk (And.intro hI (show M.take pre.length <+: M from List.take_prefix _ _))
    have HSZ5 := Aside0.mk hle
    clear hI hhands hbx hP0 hpf
    gi_wp2_with fail
    refine ⟨by simp, .inl ⟨_, _, rfl, run_takeDeferred hK, ?_⟩⟩
    exact ⟨.tuple #[], by simp [results, Tryz.results67, go_sem], ⟨_, rfl⟩, .inr ⟨_, HI.out.2, HJX.out.putObj _ HI.out.1 (by have := HSZ5.out; omega) hK rfl⟩⟩
theorem names_hands (bs s : Nat) (lim0 fu0 st0 : Value) (rk : Nat) (T : Tr FV) (M : Fls) (W : World) (hb : W.heap[bs]? = some (.cells #[.pointer (some ⟨s, 0, none⟩)] 23 (0, 0))) (hs : W.heap[s]? = some (.cells #[lim0, .pointer (some ⟨rk, 0, none⟩), fu0, st0] 54 (0, 0))) (hr : RackAt W rk T) (hv : Both (FvAt W) T.toL M) (hok : ∀ x ∈ M, FlOk x.2 ∧ x.2.b.length ≤ 1048576) :
    HandsP Fence.wide 8 Tryz.prog 67 #[.pointer (some ⟨bs, 0, none⟩)] nmA (fun pre x _ => pre ++ [x] <+: M) (KpN rk T) (fun _ _ => False) (fun xs => xs = M) (fun pre => pre <+: M) M.length W := fun lp J Jx V hV hJ hJx _ _ hY h0 =>
  names1_in 7 lp bs s rk lim0 fu0 st0 T M W V J Jx hJ hJx (fun pre x W1 hj hp => hY pre x W1 hj hp (by have := hp.length_le; simp at this; omega)) (blk_below hb hV) (blk_below hs hV) (hr.below hV) hv hok h0
set_option maxRecDepth 100000 in
theorem Names_calls (s : Nat) (w : World) : Calls Tryz.prog 41 #[.pointer (some ⟨s, 0, none⟩)] w fun e w' => e = .returned (.func (.func 67) #[] #[.pointer (some ⟨w.heap.size, 0, none⟩)]) ∧ w' = w.alloc (.cells #[.pointer (some ⟨s, 0, none⟩)] 23) := by
  go_enter Tryz.func41, Tryz.ntmps41
  go_wp2
  go_ret
  exact ⟨rfl, rfl⟩
end Go.Proofs.YtdooajmgfoobfaaGreatDoor.H
namespace Go.Proofs.YtdooajmgfoobfaaGreatDoor.H
attribute [local go_sem] Oper.semAt_some
open Go.RowKit Go.Shelf Go.Proofs.YtdooajmgfoobfaaGreatDoor.PA Go.Proofs.YtdooajmgfoobfaaGreatDoorW.PrintWords Go.Proofs.YtdooajmgfoobfaaGreatDoorW.PrintLast Go.Proofs.YtdooajmgfoobfaaGreatDoorW.PrintMore
set_option linter.unusedVariables false
set_option linter.unusedSimpArgs false
def dd (n : Nat) : List UInt8 := if n < 10 then [UInt8.ofNat (48 + n)] else [UInt8.ofNat (48 + n / 10), UInt8.ofNat (48 + n % 10)]
theorem dd_eq {n : Nat} (h : n < 100) : Lib.decDigits n = dd n := by
  unfold dd
  rw [Lib.decDigits]
  split
  · rfl
  · rw [Lib.decDigits, dif_pos (by omega)]
    rfl
def ddK (n : Nat) : ByteArray := ⟨(dd n).toArray⟩
def segK (n : Nat) : ByteArray := ⟨(115 :: dd n).toArray⟩
def markK : ByteArray := ⟨#[109, 97, 114, 107]⟩
def marknK : ByteArray := ⟨#[109, 97, 114, 107, 110]⟩
theorem all100 {p : Nat → Bool} (h : (List.range 100).all p = true) {n : Nat} (hn : n < 100) : p n = true := List.all_eq_true.1 h n (List.mem_range.2 hn)
theorem seg_cut {n : Nat} (h : n < 100) : strings_CutPrefix.f (segK n) ⟨#[115]⟩ = some (ddK n, true) := by
  have := all100 (p := fun n => decide (strings_CutPrefix.f (segK n) ⟨#[115]⟩ = some (ddK n, true))) (by kernel_rfl) h
  exact of_decide_eq_true this
theorem seg_name {n : Nat} (h : n < 100) : tag_Name.f 12 (segK n) = some true := by
  have := all100 (p := fun n => decide (tag_Name.f 12 (segK n) = some true)) (by kernel_rfl) h
  exact of_decide_eq_true this
theorem seg_atoi {n : Nat} (h : n < 100) : Lib.atoi (ddK n).data.toList = some (n : Int) := by
  have := all100 (p := fun n => decide (Lib.atoi (ddK n).data.toList = some (n : Int))) (by kernel_rfl) h
  exact of_decide_eq_true this
theorem seg_dot {n : Nat} (h : n < 100) : decide (0 ≤ Lib.indexByte (segK n).data.toList 46) = false := by
  have := all100 (p := fun n => !decide (0 ≤ Lib.indexByte (segK n).data.toList 46)) (by kernel_rfl) h
  simpa using this
theorem seg_size {n : Nat} (h : n < 100) : (ddK n).size ≤ 2 ∧ 1 ≤ (ddK n).size := by
  have := all100 (p := fun n => decide ((ddK n).size ≤ 2 ∧ 1 ≤ (ddK n).size)) (by kernel_rfl) h
  exact of_decide_eq_true this
theorem seg_back {n : Nat} (h : n < 100) : (Lib.atoi ((segK n).data.toList.drop 1)) = some (n : Int) := seg_atoi h
theorem seg_inj {n m : Nat} (h : n < 100) (k : m < 100) (e : segK n = segK m) : n = m := by
  have h1 := seg_back h
  rw [e, seg_back k] at h1
  have h2 := Option.some.inj h1
  omega
theorem seg_ne_mark {n : Nat} : segK n ≠ markK := by
  intro e
  have := congrArg (fun b => b.data.toList.head?) e
  simp [segK, markK] at this
theorem seg_ne_markn {n : Nat} : segK n ≠ marknK := by
  intro e
  have := congrArg (fun b => b.data.toList.head?) e
  simp [segK, marknK] at this
theorem mark_ne : markK ≠ marknK := by decide
theorem named_of {k : ByteArray} {f : Nat} (h : tag_Name.f f k = some true) (hd : decide (0 ≤ Lib.indexByte k.data.toList 46) = false) : Named k := by
  intro W
  have hn := fun W => tag_Name.calls f k true W h
  have hc := fun W => Tryz.strings_Contains_one k 46 W
  rw [hd] at hc
  clear h hd
  go_enter Tryz.func46, Tryz.ntmps46
  go_wp2_with (first
    | (go_at_call 70; refine (hn _).mono ?_; rintro e w1 ⟨rfl, hb⟩; have HB := Aside0.mk hb.below; clear hb hn)
    | (go_at_call 71; refine (hc _).mono ?_; rintro e w2 ⟨rfl, rfl⟩; clear hc))
  exact bodyPost_ret (v := .bool true) (by simp [results, Tryz.results46, go_sem]) rfl ⟨rfl, HB.out⟩
theorem seg_named {n : Nat} (h : n < 100) : Named (segK n) := named_of (seg_name h) (seg_dot h)
theorem mark_named : Named markK := named_of (f := 12) (by kernel_rfl) (by kernel_rfl)
theorem markn_named : Named marknK := named_of (f := 12) (by kernel_rfl) (by kernel_rfl)
theorem segK_eq (n : Nat) : segK n = { data := #[115] } ++ { data := (dd n).toArray } := by
  unfold segK
  apply ByteArray.ext
  simp
theorem segment_calls (n : Nat) (h : n < 100) (w : World) : Calls Tryz.prog 25 #[.int .i64 n] w fun e w' => e = .returned (.string (segK n)) ∧ w' = w := by
  have hi := Tryz.strconv_Itoa_small n h w
  rw [dd_eq h] at hi
  have hdl : (dd n).length ≤ 2 := by unfold dd; split <;> simp
  clear h
  go_enter Tryz.func25, Tryz.ntmps25
  go_wp2_with (go_at_call 51; refine hi.mono ?_; rintro e w1 ⟨rfl, rfl⟩; clear hi)
  exact bodyPost_ret (v := .string (segK n)) (by simp [results, Tryz.results25, go_sem, segK_eq]) rfl ⟨rfl, rfl⟩
/-- What the walks read of the program's variables. -/
structure REnv (w : World) : Prop where
  syn : ∃ te pe, w.cell? ⟨3, 0, none⟩ = some (.iface te pe)
  nib : Nib w
theorem REnv.keep {w w' : World} (h : REnv w) (h1 : w'.heap[3]? = w.heap[3]?) (h2 : w'.heap[1]? = w.heap[1]?) : REnv w' := by
  obtain ⟨te, pe, hc⟩ := h.syn
  exact ⟨⟨te, pe, (cell_congr h1).trans hc⟩, h.nib.keep h2⟩
def numP (k : ByteArray) : Int := if k = markK ∨ k = marknK then 0 else (Lib.atoi (k.data.toList.drop 1)).getD 0
theorem numP_seg {n : Nat} (h : n < 100) : numP (segK n) = n := by
  unfold numP
  rw [if_neg (fun e => e.elim seg_ne_mark seg_ne_markn), seg_back h]
  rfl
/-- A name of a file that a reel makes. -/
def RName (k : ByteArray) : Prop := k = markK ∨ k = marknK ∨ ∃ n, 1 ≤ n ∧ n < 100 ∧ k = segK n
theorem number_seg (n : Nat) (h0 : 1 ≤ n) (h : n < 100) (w : World) : Calls Tryz.prog 68 #[.string (segK n)] w fun e w' => e = .returned (.int .i64 n) ∧ Below w.heap.size w w' := by
  have hc := fun W => strings_CutPrefix.calls (segK n) ⟨#[115]⟩ (ddK n) true W (seg_cut h)
  have ha := fun W => Tryz.strconv_Atoi (ddK n) n (by have := seg_size h; omega) (seg_atoi h) W
  have hs := fun W => segment_calls n h W
  have hn1 : decide ((n : Int) < 1) = false := decide_eq_false (by omega)
  have hsz : decide (((ddK n).size : Int) > 14) = false := decide_eq_false (by have := seg_size h; omega)
  clear h0 h
  go_enter Tryz.func68, Tryz.ntmps68
  go_wp2_with (first
    | (go_at_call 82; refine (hc _).mono ?_; rintro e w1 ⟨rfl, hb⟩; have HB := Aside0.mk hb.below; clear hb hc)
    | (go_at_call 83; refine (ha _).mono ?_; rintro e w2 ⟨rfl, ⟨t, rfl⟩⟩; have HB2 := Aside0.mk (HB.out.trans ((Lib.bytesWorld_below w1 5 t).mono HB.out.size)); clear ha)
    | (go_at_call 25; refine (hs _).mono ?_; rintro e w3 ⟨rfl, rfl⟩; clear hs))
  exact bodyPost_ret (v := .int .i64 n) (by simp [results, Tryz.results68, go_sem]) rfl ⟨rfl, HB2.out⟩
theorem number_other (k : ByteArray) (hk : strings_CutPrefix.f k ⟨#[115]⟩ = some (k, false)) (hs : k.size ≤ 1000) (hat : Lib.atoiAll k.data.toList = .syntax) (w : World) (hE : REnv w) (hg : 3 < w.heap.size) : Calls Tryz.prog 68 #[.string k] w fun e w' => e = .returned (.int .i64 0) ∧ Below w.heap.size w w' := by
  obtain ⟨te, pe, hcs⟩ := hE.syn
  have hc := fun W => strings_CutPrefix.calls k ⟨#[115]⟩ k false W hk
  have ha := fun W hcl => Tryz.strconv_Atoi_syntax k (by omega) hat (.iface te pe) W hcl (.inr ⟨te, pe, rfl⟩)
  have HS := Aside0.mk hcs
  have HG := Aside0.mk hg
  clear hk hs hat hE hcs hg
  go_enter Tryz.func68, Tryz.ntmps68
  go_wp2_with (first
    | (go_at_call 82; refine (hc _).mono ?_; rintro e w1 ⟨rfl, hb⟩; have HB := Aside0.mk hb.below; clear hb hc)
    | (go_at_call 83; refine (ha _ ((cell_congr (HB.out.block _ HG.out)).trans HS.out)).mono ?_; rintro e w2 ⟨NN, rfl, _, _, hb⟩; have HB2 := Aside0.mk (HB.out.trans (hb.mono HB.out.size)); clear hb ha))
  exact bodyPost_ret (v := .int .i64 0) (by simp [results, Tryz.results68, go_sem]) rfl ⟨rfl, HB2.out⟩
theorem rnumber_calls (k : ByteArray) (hk : RName k) (w : World) (hE : REnv w) (hg : 3 < w.heap.size) : Calls Tryz.prog 68 #[.string k] w fun e w' => e = .returned (.int .i64 (numP k)) ∧ Below w.heap.size w w' := by
  rcases hk with rfl | rfl | ⟨n, h0, h1, rfl⟩
  · exact number_other markK (by kernel_rfl) (by decide) (by kernel_rfl) w hE hg
  · exact number_other marknK (by kernel_rfl) (by decide) (by kernel_rfl) w hE hg
  · rw [numP_seg h1]
    exact number_seg n h0 h1 w
end Go.Proofs.YtdooajmgfoobfaaGreatDoor.H
namespace Go.Proofs.YtdooajmgfoobfaaGreatDoor.H
attribute [local go_sem] Oper.semAt_some
open Go.RowKit Go.Shelf Go.Proofs.YtdooajmgfoobfaaGreatDoor.PA Go.Proofs.YtdooajmgfoobfaaGreatDoorW.PrintWords Go.Proofs.YtdooajmgfoobfaaGreatDoorW.PrintLast Go.Proofs.YtdooajmgfoobfaaGreatDoorW.PrintMore
set_option linter.unusedVariables false
set_option linter.unusedSimpArgs false
/-- A reel's own numbers. -/
structure Rl where
  roll : Int
  first : Int
  last : Int
  size : Int
  tail : Int
  down : Bool
def rlC (s : Nat) (m : Rl) : Array Value := #[.pointer (some ⟨s, 0, none⟩), .int .i64 m.roll, .int .i64 m.first, .int .i64 m.last, .int .i64 m.size, .int .i64 m.tail, .bool m.down]
/-- A reel in memory, and its disk. -/
structure RlAt (w : World) (g s : Nat) (F : Nat → Prop) (m : Rl) (D : Dk) : Prop where
  blk : w.heap[g]? = some (.cells (rlC s m) 58 (0, 0))
  disk : SumpAt w s F D
theorem SumpAt.typed {w : World} {s : Nat} {F : Nat → Prop} {D : Dk} (h : SumpAt w s F D) : ∀ i, F i → ∃ cs t, w.heap[i]? = some (.cells cs t (0, 0)) ∧ (t = 54 ∨ t = 79 ∨ t = 121) := by
  obtain ⟨rk, T, hb, hr, _, hF⟩ := h.ex
  intro i hi
  rcases (hF i).1 hi with rfl | hi
  · exact ⟨_, _, hb, .inl rfl⟩
  · obtain ⟨cs, t, hc, ht⟩ := RF_typed hr i hi
    exact ⟨cs, t, hc, .inr ht⟩
theorem SumpAt.far {w : World} {s : Nat} {F : Nat → Prop} {D : Dk} (h : SumpAt w s F D) {b t : Nat} {cs : Array Value} (hb : w.heap[b]? = some (.cells cs t (0, 0))) (h1 : t ≠ 54) (h2 : t ≠ 79) (h3 : t ≠ 121) : ¬ F b := fun e => by
  obtain ⟨cs2, t2, hc, ht⟩ := h.typed b e
  rw [hb] at hc
  cases hc
  exact ht.elim h1 (fun h => h.elim h2 h3)
theorem RlAt.far {w : World} {g s : Nat} {F : Nat → Prop} {m : Rl} {D : Dk} (h : RlAt w g s F m D) : ¬ F g := h.disk.far h.blk (by decide) (by decide) (by decide)
theorem RlAt.below {w w' : World} {g s : Nat} {F : Nat → Prop} {m : Rl} {D : Dk} (h : RlAt w g s F m D) (hb : Below w.heap.size w w') : RlAt w' g s F m D := ⟨blk_below h.blk hb, h.disk.below hb⟩
/-- What may change: the reel, its disk. -/
def RFt (g : Nat) (F : Nat → Prop) : Nat → Prop := fun i => i = g ∨ F i
theorem RlAt.lt {w : World} {g s : Nat} {F : Nat → Prop} {m : Rl} {D : Dk} (h : RlAt w g s F m D) : ∀ i, RFt g F i → i < w.heap.size := fun i hi => hi.elim (fun e => by rw [e]; exact blk_lt h.blk) (fun e => h.disk.lt i e)
/-- What a call on a reel leaves. -/
structure RlOut (g s : Nat) (F : Nat → Prop) (r : (Rl × Dk) × Int) (w : World) (e : Ending) (w' : World) : Prop where
  ret : e = .returned (.int .i64 r.2)
  mu : Mut (RFt g F) w w'
  at_ : ∃ F', RlAt w' g s F' r.1.1 r.1.2 ∧ ∀ i, F' i → F i ∨ w.heap.size ≤ i
/-- A step of the disk's, under a reel. -/
theorem RlAt.step {w w' : World} {g s : Nat} {F : Nat → Prop} {m : Rl} {D : Dk} {e : Ending} {r : Dk × Int} (h : RlAt w g s F m D) (ho : SumpOut s F r w e w') : ∃ F', RlAt w' g s F' m r.1 ∧ ∀ i, F' i → F i ∨ w.heap.size ≤ i := by
  obtain ⟨F', h1, h2⟩ := ho.disk
  exact ⟨F', ⟨ho.mu.blk h.blk h.far, h1⟩, h2⟩
def Rl.note (m : Rl) (e : Int) : Rl := { m with down := m.down || e == 23 }
set_option maxRecDepth 100000 in
set_option maxHeartbeats 8000000 in
theorem note_calls (w : World) (g s : Nat) (F : Nat → Prop) (m : Rl) (D : Dk) (e0 : Int) (h : RlAt w g s F m D) :
    Calls Tryz.prog 23 #[.pointer (some ⟨g, 0, none⟩), .int .i64 e0] w fun e w' => e = .returned (.int .i64 e0) ∧ RlAt w' g s F (m.note e0) D ∧ Mut (RFt g F) w w' := by
  have HB := Aside0.mk h.blk
  have HD := Aside0.mk h.disk
  have d6 : w.cell? ⟨g, 6, none⟩ = some (.bool m.down) := (blk_cell h.blk 6).trans rfl
  have f6 := blk_frozen h.blk 6
  have FIN := Aside0.mk (fun b : Bool => show RlAt (w.setCell ⟨g, 6, none⟩ (.bool b)) g s F { m with down := b } D ∧ Mut (RFt g F) w (w.setCell ⟨g, 6, none⟩ (.bool b)) from
    ⟨⟨blk_put HB.out 6 (.bool b) rfl, HD.out.set HB.out (by decide) (by decide) (by decide) (by decide) 6 _⟩, (Mut.refl (RFt g F) w).set (b := g) (.inl (show RFt g F g from .inl rfl)) 6 _⟩)
  obtain ⟨roll, first, last, size, tail, down⟩ := m
  clear h
  simp only at d6 FIN
  cases down with
  | true =>
    go_enter Tryz.func23, Tryz.ntmps23
    go_wp2
    exact bodyPost_ret (v := .int .i64 e0) (by simp [results, Tryz.results23, go_sem]) rfl ⟨rfl, FIN.out true⟩
  | false =>
    obtain ⟨b, hb⟩ : ∃ b, (e0 == 23) = b := ⟨_, rfl⟩
    have HBB := Aside0.mk hb
    go_enter Tryz.func23, Tryz.ntmps23
    go_wp2
    all_goals exact bodyPost_ret (v := .int .i64 e0) (by simp [results, Tryz.results23, go_sem]) rfl ⟨rfl, by simp only [Rl.note, Bool.false_or, HBB.out]; exact FIN.out _⟩
end Go.Proofs.YtdooajmgfoobfaaGreatDoor.H
namespace Go.Proofs.YtdooajmgfoobfaaGreatDoor.H
attribute [local go_sem] Oper.semAt_some
open Go.RowKit Go.Shelf Go.Proofs.YtdooajmgfoobfaaGreatDoor.PA Go.Proofs.YtdooajmgfoobfaaGreatDoorW.PrintWords Go.Proofs.YtdooajmgfoobfaaGreatDoorW.PrintLast Go.Proofs.YtdooajmgfoobfaaGreatDoorW.PrintMore
set_option linter.unusedVariables false
set_option linter.unusedSimpArgs false
/-- A type that no reel, no disk and no rack is of. -/
def FarT (t : TypeId) : Prop := t ≠ 58 ∧ t ≠ 54 ∧ t ≠ 79 ∧ t ≠ 121
/-- Blocks of such types stay. -/
structure KeepT (W W' : World) : Prop where
  size : W.heap.size ≤ W'.heap.size
  blk : ∀ (i : Nat) (cs : Array Value) (t : TypeId), W.heap[i]? = some (.cells cs t (0, 0)) → FarT t → W'.heap[i]? = some (.cells cs t (0, 0))
  oth : ∀ (i : Nat) (o : Obj), W.heap[i]? = some o → o.isCells = false → W'.heap[i]? = some o
theorem KeepT.trans {A B C : World} (h : KeepT A B) (k : KeepT B C) : KeepT A C := ⟨Nat.le_trans h.size k.size, fun i cs t hc ht => k.blk i cs t (h.blk i cs t hc ht) ht, fun i o hi ho => k.oth i o (h.oth i o hi ho) ho⟩
theorem KeepT.refl (A : World) : KeepT A A := ⟨Nat.le_refl _, fun _ _ _ h _ => h, fun _ _ h _ => h⟩
theorem KeepT.below {A B : World} (h : Below A.heap.size A B) : KeepT A B := ⟨h.size, fun i cs t hc _ => blk_below hc h, fun i o hi _ => (h.block i (blk_lt hi)).trans hi⟩
theorem KeepT.mut {A B : World} {F : Nat → Prop} (h : Mut F A B) (hF : ∀ i, F i → ∃ cs t, A.heap[i]? = some (.cells cs t (0, 0)) ∧ ¬ FarT t) : KeepT A B := ⟨h.size, fun i cs t hc ht => h.blk hc (fun e => by
  obtain ⟨cs2, t2, hc2, ht2⟩ := hF i e
  rw [hc] at hc2
  cases hc2
  exact ht2 ht), fun i o hi ho => (h.block i (blk_lt hi) (fun e => by
  obtain ⟨cs2, t2, hc2, ht2⟩ := hF i e
  rw [hi] at hc2
  cases hc2
  cases ho)).trans hi⟩
theorem KeepT.rd {A B : World} (h : KeepT A B) {v : Value} {base : Nat} {xs : List Int} (hr : Kd.R (Kd.int .u8) 5 A base (fun _ => True) v xs) : Kd.R (Kd.int .u8) 5 B base (fun _ => True) v xs :=
  Kd.R_mono (Kd.R_step (Kd.R_bound hr) (fun k hk hlt => by
    obtain ⟨_, _, _, q, hq, cells, hc⟩ := hk
    have e : q = 5 := by simpa [Kd.int, Kd.scalar] using hq
    subst e
    rw [hc]
    exact h.blk k cells _ hc ⟨by decide, by decide, by decide, by decide⟩)) (fun _ _ => trivial)
theorem RlAt.notFar {w : World} {g s : Nat} {F : Nat → Prop} {m : Rl} {D : Dk} (h : RlAt w g s F m D) : ∀ i, RFt g F i → ∃ cs t, w.heap[i]? = some (.cells cs t (0, 0)) ∧ ¬ FarT t := fun i hi => by
  rcases hi with rfl | hi
  · exact ⟨_, _, h.blk, fun e => e.1 rfl⟩
  · obtain ⟨cs, t, hc, ht⟩ := h.disk.typed i hi
    exact ⟨cs, t, hc, fun e => ht.elim e.2.1 (fun h => h.elim e.2.2.1 e.2.2.2)⟩
theorem RFt.mono {g : Nat} {F : Nat → Prop} {i : Nat} (h : F i) : RFt g F i := .inr h
/-- Where a reel stands since w. -/
structure RSt (w : World) (g s : Nat) (F : Nat → Prop) (m : Rl) (D : Dk) (W : World) : Prop where
  mu : Mut (RFt g F) w W
  at_ : ∃ F', RlAt W g s F' m D ∧ ∀ i, F' i → F i ∨ w.heap.size ≤ i
section
variable {w W W' : World} {g s : Nat} {F : Nat → Prop} {m : Rl} {D : Dk}
theorem RSt.start (h : RlAt w g s F m D) : RSt w g s F m D w := ⟨Mut.refl _ _, F, h, fun _ h => .inl h⟩
theorem RSt.blk (h : RSt w g s F m D W) : W.heap[g]? = some (.cells (rlC s m) 58 (0, 0)) := by
  obtain ⟨F', h1, _⟩ := h.at_
  exact h1.blk
theorem RSt.below (h : RSt w g s F m D W) (hb : Below W.heap.size W W') : RSt w g s F m D W' := by
  obtain ⟨F', h1, h2⟩ := h.at_
  exact ⟨h.mu.trans (Mut.of_below (F := RFt g F) hb) (fun _ h => h) (fun _ h _ => h), F', h1.below hb, h2⟩
theorem RSt.next {F' : Nat → Prop} {m' : Rl} {D' : Dk} (h : RSt w g s F m D W) (hF : ∀ i, F' i → F i ∨ w.heap.size ≤ i) (hm : Mut (RFt g F') W W') (ha : ∃ F2, RlAt W' g s F2 m' D' ∧ ∀ i, F2 i → F' i ∨ W.heap.size ≤ i) : RSt w g s F m' D' W' := by
  obtain ⟨F2, h1, h2⟩ := ha
  refine ⟨h.mu.trans hm (fun _ h => h) (fun i hi hlt => ?_), F2, h1, fun i hi => ?_⟩
  · rcases hi with e | e
    · exact .inl e
    · rcases hF i e with e2 | e2
      · exact .inr e2
      · omega
  · rcases h2 i hi with e | e
    · exact hF i e
    · exact .inr (Nat.le_trans h.mu.size e)
/-- How a call on the disk ends. -/
structure DkStep (w : World) (g s : Nat) (F : Nat → Prop) (m : Rl) (r : Dk × Int) (W : World) (e : Ending) (W' : World) : Prop where
  ret : e = .returned (.int .i64 r.2)
  st : RSt w g s F m r.1 W'
  keep : KeepT W W'
theorem RSt.disk (h : RSt w g s F m D W) {f : FuncId} {args : Array Value} {r : Dk × Int} (hc : ∀ F', SumpAt W s F' D → Calls Tryz.prog f args W (SumpOut s F' r W)) : Calls Tryz.prog f args W (DkStep w g s F m r W) := by
  obtain ⟨F', h1, h2⟩ := h.at_
  refine (hc F' h1.disk).mono ?_
  intro e W' ho
  obtain ⟨F2, hd, hF2⟩ := ho.disk
  refine ⟨ho.ret, h.next h2 (ho.mu.mono (fun i hi _ => RFt.mono hi)) ⟨F2, ⟨ho.mu.blk h1.blk h1.far, hd⟩, hF2⟩, KeepT.mut ho.mu (fun i hi => h1.notFar i (.inr hi))⟩
theorem RSt.append (h : RSt w g s F m D W) (k : ByteArray) (hn : Named k) {v : Value} {base : Nat} {b : List Int} (hR : Kd.R (Kd.int .u8) 5 W base (fun _ => True) v b) (hu : ∀ x ∈ b, 0 ≤ x ∧ x ≤ 255) (hl : b.length ≤ 1000000000) :
    Calls Tryz.prog 24 #[.pointer (some ⟨s, 0, none⟩), .string k, v] W (DkStep w g s F m (D.append k b) W) := by
  obtain ⟨A, c, e, hc, hC⟩ := Kd.R_reads hR
  obtain ⟨inner, ho⟩ := Kd.R_own hR
  subst e
  refine h.disk fun F' hd => Append_disk W s F' D k A c b hn hC hc hu hl (fun ad hA e => ?_) hd
  obtain ⟨cs, t, hc2, ht⟩ := hd.foot _ e
  have hob : (Value.slice A b.length c).ownBlock = some ad.block := by
    rcases ho.2 with ⟨h1, _⟩ | ⟨gg, cap, cur, h1, _⟩
    · rw [hA] at h1; cases h1
    · rw [hA] at h1 ⊢
      cases h1
      rfl
  obtain ⟨cs3, hc3⟩ := own_typed ho _ hob
  rw [hc2] at hc3
  cases hc3
  exact ht rfl
theorem RSt.note (h : RSt w g s F m D W) (e0 : Int) : Calls Tryz.prog 23 #[.pointer (some ⟨g, 0, none⟩), .int .i64 e0] W (fun e W' => e = .returned (.int .i64 e0) ∧ RSt w g s F (m.note e0) D W' ∧ KeepT W W') := by
  obtain ⟨F', h1, h2⟩ := h.at_
  refine (note_calls W g s F' m D e0 h1).mono ?_
  rintro e W' ⟨he, ha, hm⟩
  exact ⟨he, h.next h2 hm ⟨F', ha, fun _ h => .inl h⟩, KeepT.mut hm h1.notFar⟩
theorem RSt.set (h : RSt w g s F m D W) (j : Nat) (v : Value) {m' : Rl} (hc : (rlC s m).setIfInBounds j v = rlC s m') : RSt w g s F m' D (W.setCell ⟨g, j, none⟩ v) ∧ KeepT W (W.setCell ⟨g, j, none⟩ v) := by
  obtain ⟨F', h1, h2⟩ := h.at_
  have hm : Mut (RFt g F') W (W.setCell ⟨g, j, none⟩ v) := (Mut.refl (RFt g F') W).set (b := g) (.inl (show RFt g F' g from .inl rfl)) j v
  exact ⟨h.next h2 hm ⟨F', ⟨blk_put h1.blk j v hc, h1.disk.set h1.blk (by decide) (by decide) (by decide) (by decide) j v⟩, fun _ h => .inl h⟩, KeepT.mut hm h1.notFar⟩
end
theorem RSt.out {w W : World} {g s : Nat} {F : Nat → Prop} {r : (Rl × Dk) × Int} (h : RSt w g s F r.1.1 r.1.2 W) : RlOut g s F r w (.returned (.int .i64 r.2)) W := ⟨rfl, h.mu, h.at_⟩
end Go.Proofs.YtdooajmgfoobfaaGreatDoor.H



