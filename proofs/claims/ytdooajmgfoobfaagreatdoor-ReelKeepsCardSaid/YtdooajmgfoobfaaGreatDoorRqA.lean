/- A reel's example. -/
import Derived.Test.YtdooajmgfoobfaaGreatDoorRqS
import Derived.Lib.SlBytesConst
namespace Go.Proofs.YtdooajmgfoobfaaGreatDoor.H
open Go.RowKit Go.Shelf Go.Proofs.YtdooajmgfoobfaaGreatDoor.PA Go.Proofs.YtdooajmgfoobfaaGreatDoorW.PrintWords Go.Proofs.YtdooajmgfoobfaaGreatDoorW.PrintLast Go.Proofs.YtdooajmgfoobfaaGreatDoorW.PrintMore
set_option linter.unusedVariables false
set_option linter.unusedSimpArgs false
theorem lk_nil_of {L : Fls} (h : ∀ k, lk k L = none) : L = [] := by
  cases L with
  | nil => rfl
  | cons a L =>
    have := h a.1
    unfold lk at this
    rw [if_pos rfl] at this
    cases this
theorem used_keys : ∀ (ks : List ByteArray) (L : Fls), Rise L → (∀ k, lk k L ≠ none → k ∈ ks) → ks.Nodup → usedL L = (ks.map (fun k => lenAt k L)).sum ∧ L.length ≤ ks.length
  | [], L, hr, hk, _ => by
    have : L = [] := lk_nil_of fun k => by
      cases e : lk k L with
      | none => rfl
      | some f => exact absurd (hk k (by rw [e]; simp)) (by simp)
    subst this
    exact ⟨rfl, Nat.le_refl _⟩
  | k :: ks, L, hr, hk, hn => by
    have hnd := List.nodup_cons.1 hn
    obtain ⟨h1, h2⟩ := used_keys ks (del k L) (rise_del hr) (fun k' hk' => by
      rw [lk_del hr] at hk'
      by_cases e : k' = k
      · rw [if_pos e] at hk'
        exact absurd rfl hk'
      · rw [if_neg e] at hk'
        exact (List.mem_cons.1 (hk k' hk')).resolve_left e) hnd.2
    have h3 := used_del (k := k) (L := L)
    have h4 := del_len (k := k) hr
    have h5 : (ks.map (fun k' => lenAt k' (del k L))) = ks.map (fun k' => lenAt k' L) := List.map_congr_left fun k' hk' => by
      unfold lenAt
      rw [lk_del hr, if_neg (by rintro rfl; exact hnd.1 hk')]
    rw [h5] at h1
    refine ⟨by rw [List.map_cons, List.sum_cons]; omega, ?_⟩
    rw [List.length_cons]
    split at h4 <;> omega
theorem recM_sizeE : ∀ (l : List Sg) (m : Rl), (recM m l).size = m.size + (l.map (fun x => ((framesB x.1).length : Int))).sum
  | [], m => by simp [recM]
  | x :: l, m => by
    have := recM_sizeE l { m with last := m.last + 1, tail := (framesB x.1).length, size := m.size + (framesB x.1).length }
    have e : recM m (x :: l) = recM { m with last := m.last + 1, tail := (framesB x.1).length, size := m.size + (framesB x.1).length } l := rfl
    rw [e, this, List.map_cons, List.sum_cons]
    simp only
    omega
theorem openM_size (roll : Int) (first : Nat) (pss : List Sg) : (openM roll first pss).size = (pss.map (fun x => ((framesB x.1).length : Int))).sum := by
  unfold openM
  rw [recM_sizeE]
  simp
section
variable {D E D' D1 D2 : Dk} {first : Nat} {img : List Int} {pss pre : List Sg} {g : List (List Int)} {B : Nat} {roll : Int}
theorem used_plain (h : Neat D first img pss B) (hr : Rise D.L) : usedL D.L = lenAt markK D.L + (openM roll first pss).size ∧ D.L.length ≤ pss.length + 1 := by
  have hlt := seg_lt h.r
  have hk := used_keys (markK :: (List.range pss.length).map (fun i => segK (first + i))) D.L hr (fun k hk => by
    cases e : lk k D.L with
    | none => exact absurd e hk
    | some f =>
      rcases h.only k f e with e2 | ⟨n, a, b, c⟩
      · rw [e2]; simp
      · refine List.mem_cons_of_mem _ (List.mem_map.2 ⟨n - first, List.mem_range.2 (by omega), ?_⟩)
        rw [c]
        congr 1
        omega) (by
    rw [List.nodup_cons]
    refine ⟨fun hm => ?_, ?_⟩
    · obtain ⟨i, _, e⟩ := List.mem_map.1 hm
      exact seg_ne_mark e
    · rw [List.nodup_iff_pairwise_ne, List.pairwise_map]
      refine List.Pairwise.imp_of_mem ?_ (List.nodup_iff_pairwise_ne.1 List.nodup_range)
      intro i j hi hj hne e
      have h1 := List.mem_range.1 hi
      have h2 := List.mem_range.1 hj
      have := seg_inj (by omega) (by omega) e
      omega)
  rw [List.map_cons, List.sum_cons, List.length_cons, List.length_map, List.length_range, List.map_map] at hk
  refine ⟨?_, hk.2⟩
  rw [hk.1, openM_size]
  congr 2
  refine List.ext_getElem (by simp) fun i h1 h2 => ?_
  rw [List.length_map, List.length_range] at h1
  rw [List.getElem_map, List.getElem_map, List.getElem_range]
  obtain ⟨f, hf, hfb⟩ := h.r.segs.got i pss[i].bytes (by rw [List.getElem?_map, List.getElem?_eq_getElem h1]; rfl)
  show lenAt (segK (first + i)) D.L = _
  unfold lenAt
  rw [hf]
  simp only
  rw [hfb]
  unfold Sg.bytes
  rw [h.whole _ (List.getElem_mem h1), List.append_nil]
theorem mark_len (h : Rec D first img pss B) : lenAt markK D.L ≤ (img.length : Int) + 30 := by
  unfold lenAt
  rcases h.mark with ⟨h1, _, _⟩ | ⟨f, h1, h2⟩
  · rw [h1]
    simp only
    omega
  · rw [h1]
    simp only
    have := h.mok.len
    have := h.mok.f2
    have hu := upB_len (n := (first : Int)) (by omega)
    have hl : (upB (first : Int) ++ img).length = (upB (first : Int)).length + img.length := List.length_append
    have := frameB_len (upB (first : Int) ++ img) (by omega)
    rw [h2]
    omega
theorem rl_ok (h : Neat D first img pss B) (hro : 1 ≤ roll ∧ roll ≤ 60000) (hB : B ≤ 98) : RlOk (openM roll first pss) := by
  obtain ⟨e1, e2, e3, e4⟩ := openM_last roll first pss
  have hlt := h.r.lt
  have hf := h.r.mok.f1
  have hsz : ∀ l : List Sg, (∀ x ∈ l, x.bytes.length ≤ 100000) → 0 ≤ (l.map (fun x => ((framesB x.1).length : Int))).sum ∧ (l.map (fun x => ((framesB x.1).length : Int))).sum ≤ 100000 * (l.length : Int) := by
    intro l
    induction l with
    | nil => intro _; simp
    | cons x l ih =>
      intro hx
      have h1 := ih (fun y hy => hx y (List.mem_cons_of_mem _ hy))
      have h2 := rec_len (hx x (by simp))
      rw [List.map_cons, List.sum_cons, List.length_cons]
      push_cast
      omega
  have hs := hsz pss h.r.sok.len
  refine ⟨by rw [e2]; exact hro, by rw [e3]; omega, by rw [e1]; omega, by rw [openM_size]; omega, ?_⟩
  rcases List.eq_nil_or_concat pss with rfl | ⟨init, x, hp⟩
  · rw [openM_nil]
    simp
  · rw [List.concat_eq_append] at hp
    subst hp
    rw [openM_tail]
    have := rec_len (h.r.sok.len x (by simp))
    omega
theorem rec_new (lim : Int) (fu : Bool) (st : Int) : Rec ⟨lim, fu, st, []⟩ 1 [] [] 0 :=
  ⟨.inl ⟨rfl, rfl, rfl⟩, ⟨by omega, by omega, by simp, by simp⟩, ⟨fun i b hi => by simp at hi, rfl⟩, ⟨by simp, by simp, by simp, by simp, by simp, by simp⟩, by simp, fun k f hk => by simp [lk] at hk, by omega⟩
theorem safe_new (lim : Int) (fu : Bool) (st : Int) : AllSafe ⟨lim, fu, st, []⟩ := fun k f hk => by simp [lk] at hk
end
end Go.Proofs.YtdooajmgfoobfaaGreatDoor.H
namespace Go.Proofs.YtdooajmgfoobfaaGreatDoor.H
open Go.RowKit Go.Shelf Go.Proofs.YtdooajmgfoobfaaGreatDoor.PA Go.Proofs.YtdooajmgfoobfaaGreatDoorW.PrintWords Go.Proofs.YtdooajmgfoobfaaGreatDoorW.PrintLast Go.Proofs.YtdooajmgfoobfaaGreatDoorW.PrintMore
set_option linter.unusedVariables false
set_option linter.unusedSimpArgs false
/-- What the program's variables hold, below lo. -/
structure Ev (lo : Nat) (W : World) : Prop where
  env : REnv W
  g1 : 3 < lo
  g2 : 1 < lo
  sz : lo ≤ W.heap.size
/-- What changes: no block below lo, and above it none of a type that a reel has nothing of. -/
structure Stp (lo : Nat) (W W' : World) : Prop where
  kp : KeepT W W'
  hb : Below lo W W'
def Dn (W : World) (lo s : Nat) (D : Dk) : Prop := ∃ F, SumpAt W s F D ∧ ∀ i, F i → lo ≤ i
def Rn (W : World) (lo g s : Nat) (m : Rl) (D : Dk) : Prop := ∃ F, RlAt W g s F m D ∧ (∀ i, F i → lo ≤ i) ∧ lo ≤ g
section
variable {lo lo' g s : Nat} {W W' W2 : World} {m : Rl} {D : Dk}
theorem Ev.step (h : Ev lo W) (hb : Below lo W W') : Ev lo W' := ⟨h.env.keep (hb.block _ h.g1) (hb.block _ h.g2), h.g1, h.g2, Nat.le_trans h.sz hb.size⟩
theorem Ev.up (h : Ev lo W) (h1 : lo ≤ lo') (h2 : lo' ≤ W.heap.size) : Ev lo' W := ⟨h.env, Nat.lt_of_lt_of_le h.g1 h1, Nat.lt_of_lt_of_le h.g2 h1, h2⟩
theorem Stp.trans (h : Stp lo W W') (k : Stp lo W' W2) : Stp lo W W2 := ⟨h.kp.trans k.kp, h.hb.trans k.hb⟩
theorem Stp.refl (lo : Nat) (W : World) : Stp lo W W := ⟨KeepT.refl _, Below.refl _ _⟩
theorem Stp.below (h : Below W.heap.size W W') (h2 : lo ≤ W.heap.size) : Stp lo W W' := ⟨KeepT.below h, h.mono h2⟩
theorem Stp.down (h : Stp lo' W W') (h2 : lo ≤ lo') : Stp lo W W' := ⟨h.kp, h.hb.mono h2⟩
theorem Rn.dn (h : Rn W lo g s m D) : Dn W lo s D := by
  obtain ⟨F, h1, h2, _⟩ := h
  exact ⟨F, h1.disk, h2⟩
theorem Dn.ok (h : Dn W lo s D) : DkOk D := by
  obtain ⟨F, h1, _⟩ := h
  exact h1.ok
theorem Dn.below (h : Dn W lo s D) (hb : Below W.heap.size W W') : Dn W' lo s D := by
  obtain ⟨F, h1, h2⟩ := h
  exact ⟨F, h1.below hb, h2⟩
theorem Rn.below (h : Rn W lo g s m D) (hb : Below W.heap.size W W') : Rn W' lo g s m D := by
  obtain ⟨F, h1, h2, h3⟩ := h
  exact ⟨F, h1.below hb, h2, h3⟩
theorem Rn.ok (h : Rn W lo g s m D) : DkOk D := h.dn.ok
theorem Dn.lower (h : Dn W lo' s D) (h1 : lo ≤ lo') : Dn W lo s D := by
  obtain ⟨F, h1', h2⟩ := h
  exact ⟨F, h1', fun i hi => Nat.le_trans h1 (h2 i hi)⟩
theorem Rn.lower (h : Rn W lo' g s m D) (h1 : lo ≤ lo') : Rn W lo g s m D := by
  obtain ⟨F, h1', h2, h3⟩ := h
  exact ⟨F, h1', fun i hi => Nat.le_trans h1 (h2 i hi), Nat.le_trans h1 h3⟩
theorem mut_low {F : Nat → Prop} (h : Mut F W W') (hF : ∀ i, F i → lo ≤ i) (hs : lo ≤ W.heap.size) : Below lo W W' :=
  ⟨h.os, h.tape, h.output, h.size, fun k hk => h.block k (Nat.lt_of_lt_of_le hk hs) (fun e => by have := hF k e; omega)⟩
theorem sump_notFar {F : Nat → Prop} (h : SumpAt W s F D) : ∀ i, F i → ∃ cs t, W.heap[i]? = some (.cells cs t (0, 0)) ∧ ¬ FarT t := fun i hi => by
  obtain ⟨cs, t, hc, ht⟩ := h.typed i hi
  exact ⟨cs, t, hc, fun e => ht.elim e.2.1 (fun h => h.elim e.2.2.1 e.2.2.2)⟩
/-- How a call on a reel ends. -/
structure RnOut (lo g s : Nat) (r : (Rl × Dk) × Int) (W : World) (e : Ending) (W' : World) : Prop where
  ret : e = .returned (.int .i64 r.2)
  rn : Rn W' lo g s r.1.1 r.1.2
  st : Stp lo W W'
theorem rn_out {F : Nat → Prop} {r : (Rl × Dk) × Int} {e : Ending} (h : RlAt W g s F m D) (hF : ∀ i, F i → lo ≤ i) (hg : lo ≤ g) (hs : lo ≤ W.heap.size) (ho : RlOut g s F r W e W') : RnOut lo g s r W e W' := by
  obtain ⟨F', h1, h2⟩ := ho.at_
  refine ⟨ho.ret, ⟨F', h1, fun i hi => (h2 i hi).elim (hF i) (fun h => Nat.le_trans hs h), hg⟩, KeepT.mut ho.mu h.notFar, mut_low ho.mu (fun i hi => ?_) hs⟩
  rcases hi with e | e
  · rw [e]; exact hg
  · exact hF i e
theorem app_rn (h : Rn W lo g s m D) (ok : RlOk m) (hE : Ev lo W) (A : Option Addr) (c : Nat) (b : List Int) (hC : Kd.C (Kd.int .u8) W A b.length b) (hu : ∀ x ∈ b, 0 ≤ x ∧ x ≤ 255) (hl : b.length ≤ 1000) :
    Calls Tryz.prog 9 #[.pointer (some ⟨g, 0, none⟩), .slice A b.length c] W (RnOut lo g s (rappend m D b) W) := by
  obtain ⟨F, h1, h2, h3⟩ := h
  exact (Append_reel W g s F m D A c b h1 ok hC hu (by omega) hE.env.nib (Nat.lt_of_lt_of_le hE.g2 hE.sz)).mono fun e W' ho => rn_out h1 h2 h3 hE.sz ho
theorem sav_rn (h : Rn W lo g s m D) (ok : RlOk m) (hfl : m.first ≤ m.last + 1) (hE : Ev lo W) (A : Option Addr) (c : Nat) (b : List Int) (hC : Kd.C (Kd.int .u8) W A b.length b) (hu : ∀ x ∈ b, 0 ≤ x ∧ x ≤ 255) (hl : b.length ≤ 1000) :
    Calls Tryz.prog 10 #[.pointer (some ⟨g, 0, none⟩), .slice A b.length c] W (RnOut lo g s (rsave m D b) W) := by
  obtain ⟨F, h1, h2, h3⟩ := h
  exact (Save_reel W g s F m D A c b h1 ok hfl hC hu (by omega) hE.env.nib (Nat.lt_of_lt_of_le hE.g2 hE.sz)).mono fun e W' ho => rn_out h1 h2 h3 hE.sz ho
theorem new_dn (n : Int) (h0 : 0 ≤ n) (h1 : n ≤ 1048576) : Calls Tryz.prog 6 #[.int .i64 n] W fun e W' => ∃ s, e = .returned (.tuple #[.pointer (some ⟨s, 0, none⟩), .int .i64 0]) ∧ Below W.heap.size W W' ∧ Dn W' W.heap.size s ⟨n, false, 0, []⟩ :=
  (New_calls W n h0 h1).mono fun e W' ⟨s, F, h1, h2, h3, h4⟩ => ⟨s, h1, h2, F, h3, h4⟩
theorem fuse_rn (h : Rn W lo g s m D) (hs : lo ≤ W.heap.size) (n : Int) (h0 : 0 ≤ n) (h1 : n ≤ 1000000) : Calls Tryz.prog 15 #[.pointer (some ⟨s, 0, none⟩), .int .i64 n] W fun e W' => e = .returned (.int .i64 0) ∧ Rn W' lo g s m { D with fused := true, steps := n } ∧ Stp lo W W' := by
  obtain ⟨F, k1, k2, k3⟩ := h
  refine (Fuse_calls W s F D n k1.disk h0 h1).mono fun e W' ho => ?_
  obtain ⟨F', p1, p2⟩ := k1.step ho
  exact ⟨ho.ret, ⟨F', p1, fun i hi => (p2 i hi).elim (k2 i) (fun h => Nat.le_trans hs h), k3⟩, KeepT.mut ho.mu (sump_notFar k1.disk), mut_low ho.mu k2 hs⟩
theorem stop_dn (h : Dn W lo s D) (kA : Option Addr) (kc : Nat) (kl : List Int) (hk : Kd.C (Kd.int .i64) W kA kl.length kl) (hkc : kl.length ≤ kc) : Calls Tryz.prog 12 #[.pointer (some ⟨s, 0, none⟩), .slice kA kl.length kc] W fun e W' => ∃ s2 E, e = .returned (.pointer (some ⟨s2, 0, none⟩)) ∧ Below W.heap.size W W' ∧ Dn W' W.heap.size s2 E ∧ Stopped D E ∧ AllSafe E := by
  obtain ⟨F, k1, _⟩ := h
  refine (Stop_disk W s F D kA kc kl hk hkc k1).mono fun e W' ho => ?_
  obtain ⟨s2, F2, E, h1, h2, h3, h4, h5⟩ := ho.ex
  exact ⟨s2, E, h1, h2, ⟨F2, h3, h4⟩, h5, stopped_safe h5 k1.ok⟩
/-- How Open ends. -/
structure OpOut (lo s : Nat) (m : Rl) (img : List Int) (ps : List (List Int)) (rc : Dk × Int) (W : World) (e : Ending) (W' : World) : Prop where
  st : Stp lo W W'
  ok : rc.2 = 0 → ∃ g A c A2 c2, e = .returned (.tuple #[.pointer (some ⟨g, 0, none⟩), .slice A img.length c, .slice A2 ps.length c2, .int .i64 0]) ∧ Rn W' lo g s m rc.1 ∧
    Kd.R (Kd.int .u8) 5 W' lo (fun _ => True) (.slice A img.length c) img ∧ BsAt W' lo (.slice A2 ps.length c2) ps
  er : rc.2 ≠ 0 → e = .returned (.tuple #[.pointer none, .slice none 0 0, .slice none 0 0, .int .i64 rc.2]) ∧ Dn W' lo s rc.1
theorem open_rn (h : Dn W lo s D) (hE : Ev lo W) (roll : Int) (hro : 1 ≤ roll ∧ roll ≤ 60000) {first : Nat} {img : List Int} {pss : List Sg} {B : Nat} (hr : Rec D first img pss B) :
    Calls Tryz.prog 8 #[.pointer (some ⟨s, 0, none⟩), .int .i64 roll] W (OpOut lo s (openM roll first pss) img (recL pss) (rclean (openM roll first pss) D) W) := by
  obtain ⟨F, k1, k2⟩ := h
  refine (Open_calls W s F D roll first img pss k1 hro hr.mark hr.mok hr.segs (seg_lt hr) hr.sok (hr.rname k1.ok.rise) ⟨fun e => by have := k2 _ e; have := hE.g1; omega, fun e => by have := k2 _ e; have := hE.g2; omega⟩ hE.env (Nat.lt_of_lt_of_le hE.g1 hE.sz) (Nat.lt_of_lt_of_le hE.g2 hE.sz)).mono fun e W' ho => ?_
  refine ⟨⟨KeepT.mut ho.mu (sump_notFar k1), mut_low ho.mu k2 hE.sz⟩, fun h0 => ?_, fun h0 => ?_⟩
  · obtain ⟨g, A, c, A2, c2, h1, h2, ⟨F', h3, h4⟩, h5, h6⟩ := ho.ok h0
    exact ⟨g, A, c, A2, c2, h1, ⟨F', h3, fun i hi => (h4 i hi).elim (k2 i) (fun h => Nat.le_trans hE.sz h), Nat.le_trans hE.sz h2⟩, Kd.R_lower h5 hE.sz, Kd.R_lower h6 hE.sz⟩
  · obtain ⟨h1, F', h3, h4⟩ := ho.er h0
    exact ⟨h1, F', h3, fun i hi => (h4 i hi).elim (k2 i) (fun h => Nat.le_trans hE.sz h)⟩
end
end Go.Proofs.YtdooajmgfoobfaaGreatDoor.H
namespace Go.Proofs.YtdooajmgfoobfaaGreatDoor.H
attribute [local go_sem] Oper.semAt_some
open Go.RowKit Go.Shelf Go.Proofs.YtdooajmgfoobfaaGreatDoor.PA Go.Proofs.YtdooajmgfoobfaaGreatDoorW.PrintWords Go.Proofs.YtdooajmgfoobfaaGreatDoorW.PrintLast Go.Proofs.YtdooajmgfoobfaaGreatDoorW.PrintMore
set_option linter.unusedVariables false
set_option linter.unusedSimpArgs false
section
variable {D E D' D1 D2 : Dk} {first : Nat} {img : List Int} {pss pre : List Sg} {B : Nat} {roll : Int}
theorem clean_new (roll lim st : Int) (fu : Bool) : rclean (openM roll 1 []) ⟨lim, fu, st, []⟩ = (⟨lim, fu, st, []⟩, 0) := rfl
theorem neat_new (lim st : Int) (fu : Bool) : Neat ⟨lim, fu, st, []⟩ 1 [] [] 0 := ⟨rec_new lim fu st, by simp, safe_new lim fu st, fun k f hk => by simp [lk] at hk⟩
theorem append_fine (h : Neat D first img pss B) (ok : DkOk D) (hB : B < 98) (hf : D.fused = false) (hlim : D.lim ≤ 100000) (b : List Int) (hu : ∀ x ∈ b, 0 ≤ x ∧ x ≤ 255) (hbl : b.length ≤ 1000) (hroom : (img.length : Int) + 30 + (openM roll first pss).size + b.length + 15 ≤ D.lim) (hcnt : pss.length + 1 < 16) :
    ∃ pss', (rappend (openM roll first pss) D b).2 = 0 ∧ (rappend (openM roll first pss) D b).1.1 = openM roll first pss' ∧ Neat (rappend (openM roll first pss) D b).1.2 first img pss' (B + 1) ∧ recL pss' = recL pss ++ [b] ∧ pss'.length ≤ pss.length + 1 ∧ (openM roll first pss').size ≤ (openM roll first pss).size + b.length + 15 ∧ (rappend (openM roll first pss) D b).1.2.fused = false ∧ (rappend (openM roll first pss) D b).1.2.lim = D.lim := by
  have ha := append_plain (roll := roll) h ok hlim hB b hu hbl
  have hfl := frameB_len b (by omega)
  obtain ⟨h1, h2⟩ := used_plain (roll := roll) h ok.rise
  have h3 := mark_len h.r
  have n3 := ha.full (by omega) (by omega)
  have n23 := ha.up hf
  generalize rappend (openM roll first pss) D b = r at ha n3 n23 ⊢
  rcases ha.out with ⟨e0, pss', e1, e2, e3, e4, e5⟩ | ⟨e0, _⟩ | ⟨e0, _⟩
  · exact ⟨pss', e0, e1, e2, e3, e4, by omega, ha.fu.trans hf, ha.lim⟩
  · exact absurd e0 n3
  · exact absurd e0 n23
end
theorem lit_u8 (W : World) (x : Int) : Kd.C (Kd.int .u8) (W.alloc (.cells #[.int .u8 x] 5 (1, 2))) (some ⟨W.heap.size, 0, none⟩) [x].length [x] := by
  have h := heap_alloc_new W (.cells #[.int .u8 x] 5 (1, 2))
  refine C_of_reads ⟨rfl, by simp, fun _ => ⟨⟨W.heap.size, 0, none⟩, rfl, fun j hj => ?_⟩⟩
  have hj0 : j = 0 := by simpa using hj
  subst hj0
  exact (cell_of_row _ _ 0 _ _ (1, 2) h).trans rfl
theorem app_lit {W : World} {lo g s : Nat} {m : Rl} {D : Dk} (h : Rn W lo g s m D) (ok : RlOk m) (hE : Ev lo W) (x : Int) (hx : 0 ≤ x ∧ x ≤ 255) :
    Calls Tryz.prog 9 #[.pointer (some ⟨g, 0, none⟩), .slice (some ⟨W.heap.size, 0, none⟩) 1 1] (W.alloc (.cells #[.int .u8 x] 5 (1, 2))) fun e W' => RnOut lo g s (rappend m D [x]) W e W' := by
  have hb : Below W.heap.size W (W.alloc (.cells #[.int .u8 x] 5 (1, 2))) := (Below.refl _ W).alloc (Nat.le_refl _) _
  exact (app_rn (h.below hb) ok (hE.step (hb.mono hE.sz)) (some ⟨W.heap.size, 0, none⟩) 1 [x] (lit_u8 W x) (by simpa using hx) (by simp)).mono fun e W' ho => ⟨ho.ret, ho.rn, (Stp.below hb hE.sz).trans ho.st⟩
theorem lit_strs (W : World) (a b : ByteArray) : Kd.C Kd.string (W.alloc (.cells #[.string a, .string b] 9)) (some ⟨W.heap.size, 0, none⟩) [a, b].length [a, b] := by
  have h := heap_alloc_new W (.cells #[.string a, .string b] 9)
  refine Kd.C_of_reads (enc := Value.string) (d := ByteArray.empty) (h1 := fun _ => rfl) ⟨rfl, by simp, fun _ => ⟨⟨W.heap.size, 0, none⟩, rfl, fun j hj => ?_⟩⟩
  have hj0 : j = 0 ∨ j = 1 := by simp at hj; omega
  rcases hj0 with rfl | rfl
  · exact blk_cell h 0
  · exact blk_cell h 1
set_option maxRecDepth 100000 in
set_option maxHeartbeats 1600000 in
theorem awake_calls (w : World) (hE : Ev w.heap.size w) : Calls Tryz.prog 7 #[] w fun e W' => e = .returned (.bool true) ∧ Below w.heap.size w W' := by
  have HE := Aside0.mk hE
  have hnew := new_dn (W := w) 999 (by decide) (by decide)
  clear hE
  go_enter Tryz.func7, Tryz.ntmps7
  go_upto_region 4 with (go_at_call 6; go_loud (refine (show Calls _ _ _ _ _ from hnew).mono ?_; rintro e w1 ⟨s, rfl, hb, hd⟩; have HB1 := Aside0.mk hb; have HD1 := Aside0.mk hd; clear hb hd hnew))
  have hop := open_rn HD1.out (HE.out.step HB1.out) 99 (by decide) (rec_new 999 false 0)
  rw [clean_new] at hop
  go_upto_region 5 with (go_at_call 8; go_loud (refine (show Calls _ _ _ _ _ from hop).mono ?_; rintro e w2 ho; obtain ⟨g, A, c, A2, c2, rfl, hrn, hx1, hx2⟩ := ho.ok rfl; have HR2 := Aside0.mk hrn; have HB2 := Aside0.mk (HB1.out.trans ho.st.hb); clear ho hrn hop hx1 hx2))
  have hN0 := neat_new 999 0 false
  have ha1 := app_lit HR2.out (rl_ok hN0 (by decide) (by decide)) (HE.out.step HB2.out) 97 (by decide)
  obtain ⟨p1, a0, a1, a2, a3, a4, a5, a6, a7⟩ := append_fine (roll := 99) hN0 HR2.out.ok (by decide) rfl (by decide) [97] (by simp) (by simp) (by simp [openM_nil]) (by simp)
  generalize rappend (openM 99 1 []) ⟨999, false, 0, []⟩ [97] = r1 at ha1 a0 a1 a2 a6 a7
  obtain ⟨⟨m1, D1⟩, e1⟩ := r1
  simp only at a0 a1 a2 a6 a7 ha1
  subst a0 a1
  have HA1 := Aside0.mk (And.intro a2 (And.intro a3 (And.intro a4 (And.intro a5 (And.intro a6 a7)))))
  clear a2 a3 a4 a5 a6 a7 hN0
  have hz0 : (openM 99 1 []).size = 0 := rfl
  have hcv := fun (W : World) (C : Array Value) => Lib.run_convert_bytes_const W 22 5 C 1 1 Tryz.underlying22 Tryz.underlying5
  go_upto_region 7 with (go_at_call 9; first
    | (refine (show Calls _ _ _ _ _ from ha1).mono ?_; rintro e w3 ho; obtain rfl := ho.ret; have HR3 := Aside0.mk ho.rn; have HB3 := Aside0.mk (HB2.out.trans ho.st.hb); clear ho ha1
       obtain ⟨n1, n2, n3, n4, n5, n6⟩ := HA1.out
       have ha2 := app_lit HR3.out (rl_ok n1 (by decide) (by decide)) (HE.out.step HB3.out) 98 (by decide)
       obtain ⟨p2, a0, a1, a2, a3, a4, a5, a6, a7⟩ := append_fine (roll := 99) n1 HR3.out.ok (by decide) n5 (by omega) [98] (by simp) (by simp) (by simp only [List.length_cons, List.length_nil] at n4 ⊢; omega) (by simp only [List.length_nil] at n3; omega)
       generalize rappend (openM 99 1 p1) D1 [98] = r2 at ha2 a0 a1 a2 a6 a7
       obtain ⟨⟨m2, D2⟩, e2⟩ := r2
       simp only at a0 a1 a2 a6 a7 ha2
       subst a0 a1
       have HN4 := Aside0.mk (And.intro a2 (show recL p2 = [[97], [98]] by rw [a3, n2]; rfl))
       clear n1 n2 n3 n4 n5 n6 a2 a3 a4 a5 a6 a7)
    | (refine (show Calls _ _ _ _ _ from ha2).mono ?_; rintro e w4 ho; obtain rfl := ho.ret; have HR4 := Aside0.mk ho.rn; have HB4 := Aside0.mk (HB3.out.trans ho.st.hb); clear ho ha2))
  have hstp := stop_dn HR4.out.dn none 0 [] (Kd.C_nil _ _) (by simp)
  go_upto_region 8 with (first
    | (go_at_call 12; refine (show Calls _ _ _ _ _ from hstp).mono ?_; rintro e w5 ⟨s2, E, rfl, hb, hd, hst, hsf⟩; have HB5 := Aside0.mk (HB4.out.trans (hb.mono HB4.out.size))
       have hrE := HN4.out.1.r.same (stopped_eq hst HN4.out.1.safe)
       have hop2 := open_rn hd ((HE.out.step HB4.out).up HB4.out.size (Nat.le_refl _) |>.step hb) 99 (by decide) hrE
       have hcl := clean_plain (roll := 99) hrE hsf hd.ok
       have h0 := hcl.fz (fun h => by rw [hst.2.1] at h; cases h)
       have HSZ := Aside0.mk HB4.out.size
       generalize rclean (openM 99 1 p2) E = rc at hop2 h0
       obtain ⟨Dc, ec⟩ := rc
       simp only at h0
       subst h0
       obtain ⟨rl, hrl⟩ : ∃ rl, (recL p2).length = rl := ⟨_, rfl⟩
       have HRL := Aside0.mk hrl
       clear hb hd hst hsf hstp hrE hcl hrl)
    | (go_at_call 8; refine (show Calls _ _ _ _ _ from hop2).mono ?_; rintro e w6 ho; obtain ⟨g2, B, d, B2, d2, rfl, _, hx1, hx2⟩ := ho.ok rfl; rw [HRL.out] at hx2 ⊢; have HB6 := Aside0.mk (HB5.out.trans (ho.st.hb.mono HSZ.out)); have HL6 := Aside0.mk hx2; clear ho hop2 hx1 hx2))
  have HB7 := Aside0.mk (HB6.out.alloc (show w.heap.size ≤ w6.heap.size from HB6.out.size) (.cells #[.string ⟨#[97]⟩, .string ⟨#[98]⟩] 9))
  have hsm := same_calls (w6.alloc (.cells #[.string ⟨#[97]⟩, .string ⟨#[98]⟩] 9)) B2 d2 (recL p2) (some ⟨w6.heap.size, 0, none⟩) 2 [⟨#[97]⟩, ⟨#[98]⟩] (by
    obtain ⟨_, _, hC⟩ := Kd.R_reads' HL6.out
    exact Kd.C_below hC ((Below.refl _ w6).alloc (Nat.le_refl _) _)) (lit_strs w6 _ _)
  rw [HRL.out, decide_eq_true (show (recL p2).map strOfNums = [⟨#[97]⟩, ⟨#[98]⟩] by rw [HN4.out.2]; rfl)] at hsm
  go_wp2_with (go_at_call 13; refine (show Calls _ _ _ _ _ from hsm).mono ?_; rintro e w8 ⟨rfl, hb⟩; have HB8 := Aside0.mk (HB7.out.trans (hb.mono HB7.out.size)); clear hb hsm)
  exact bodyPost_ret (v := .bool true) (by simp [results, Tryz.results7, go_sem]) rfl ⟨rfl, HB8.out⟩
end Go.Proofs.YtdooajmgfoobfaaGreatDoor.H

