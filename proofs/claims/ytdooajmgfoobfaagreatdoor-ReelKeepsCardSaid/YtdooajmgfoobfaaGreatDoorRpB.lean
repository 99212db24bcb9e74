/- A reel's disk, plainly: opening cleans it. -/
import Derived.Test.YtdooajmgfoobfaaGreatDoorRdC
namespace Go.Proofs.YtdooajmgfoobfaaGreatDoor.H
attribute [local go_sem] Oper.semAt_some
open Go.RowKit Go.Shelf Go.Proofs.YtdooajmgfoobfaaGreatDoor.PA Go.Proofs.YtdooajmgfoobfaaGreatDoorW.PrintWords Go.Proofs.YtdooajmgfoobfaaGreatDoorW.PrintLast Go.Proofs.YtdooajmgfoobfaaGreatDoorW.PrintMore
set_option linter.unusedVariables false
set_option linter.unusedSimpArgs false
theorem KeepT.bs {A B : World} (h : KeepT A B) {v : Value} {base : Nat} {xs : List (List Int)} (hr : BsAt A base v xs) : BsAt B base v xs :=
  Kd.R_mono (Kd.R_step (Kd.R_bound hr) (fun k hk hlt => by
    obtain ⟨_, _, _, q, hq, cells, hc⟩ := hk
    have e : q = 22 ∨ q = 5 := by simpa [KBs, Kd.slice, Kd.int, Kd.scalar] using hq
    rw [hc]
    rcases e with rfl | rfl <;> exact h.blk k cells _ hc ⟨by decide, by decide, by decide, by decide⟩)) (fun _ _ => trivial)
def openM (roll : Int) (first : Nat) (pss : List Sg) : Rl := recM ⟨roll, first, (first : Int) - 1, 0, 0, false⟩ pss
/-- What Open leaves. -/
structure OpenOut (s : Nat) (F : Nat → Prop) (m : Rl) (img : List Int) (ps : List (List Int)) (rc : Dk × Int) (w : World) (e : Ending) (w' : World) : Prop where
  mu : Mut F w w'
  ok : rc.2 = 0 → ∃ g A c A2 c2, e = .returned (.tuple #[.pointer (some ⟨g, 0, none⟩), .slice A img.length c, .slice A2 ps.length c2, .int .i64 0]) ∧ w.heap.size ≤ g ∧ (∃ F', RlAt w' g s F' m rc.1 ∧ ∀ i, F' i → F i ∨ w.heap.size ≤ i) ∧
    Kd.R (Kd.int .u8) 5 w' w.heap.size (fun _ => True) (.slice A img.length c) img ∧ BsAt w' w.heap.size (.slice A2 ps.length c2) ps
  er : rc.2 ≠ 0 → e = .returned (.tuple #[.pointer none, .slice none 0 0, .slice none 0 0, .int .i64 rc.2]) ∧ ∃ F', SumpAt w' s F' rc.1 ∧ ∀ i, F' i → F i ∨ w.heap.size ≤ i
set_option maxRecDepth 100000 in
set_option maxHeartbeats 1600000 in
theorem Open_calls (w : World) (s : Nat) (F : Nat → Prop) (D : Dk) (roll : Int) (first : Nat) (img : List Int) (pss : List Sg) (h : SumpAt w s F D) (hro : 1 ≤ roll ∧ roll ≤ 60000) (hM : MarkIs D first img) (hMO : MarkOk first img) (hS : Segs D.L first (pss.map Sg.bytes)) (hlt : first + pss.length < 100) (ok : SgsOk pss) (hn : ∀ x ∈ D.L, RName x.1) (hFx : ¬ F 3 ∧ ¬ F 1) (hE : REnv w) (hg1 : 3 < w.heap.size) (hg2 : 1 < w.heap.size) :
    Calls Tryz.prog 8 #[.pointer (some ⟨s, 0, none⟩), .int .i64 roll] w (OpenOut s F (openM roll first pss) img (recL pss) (rclean (openM roll first pss) D) w) := by
  have hmk := mark_calls w s F D first img h hM hMO hE.nib hg2
  obtain ⟨il, hil⟩ : ∃ il, img.length = il := ⟨_, rfl⟩
  have HIL := Aside0.mk hil
  have HH := Aside0.mk h
  have HPR := Aside0.mk (And.intro hS (And.intro hlt (And.intro ok hn)))
  have HE := Aside0.mk hE
  have HG := Aside0.mk (And.intro hg1 hg2)
  have HMO := Aside0.mk hMO
  have HFX := Aside0.mk hFx
  have hr1 : decide (roll < 1) = false := decide_eq_false (by omega)
  have hr2 : decide (roll > 60000) = false := decide_eq_false (by omega)
  generalize hm : openM roll first pss = m
  have HM := Aside0.mk hm
  generalize hrc : rclean m D = rc
  have HRC := Aside0.mk hrc
  obtain ⟨Dr, er⟩ := rc
  clear h hM hMO hS hlt ok hn hFx hE hg1 hg2 hil hro hm hrc
  go_enter Tryz.func8, Tryz.ntmps8
  go_upto_region 7 with (go_at_call 18; go_loud (refine (show Calls _ _ _ _ _ from hmk).mono ?_; rintro e w1 ⟨⟨A, c, rfl, hle, hC, hnil⟩, hb⟩; rw [HIL.out] at hle hC ⊢; have HC := Aside0.mk hC; have HNI := Aside0.mk hnil; have HB1 := Aside0.mk hb; have HLE := Aside0.mk hle; clear hC hnil hb hle hmk))
  have hal := heap_alloc_new w1 (.cells #[.pointer (some ⟨s, 0, none⟩), .int .i64 roll, .int .i64 (first : Int), .int .i64 0, .int .i64 0, .int .i64 0, .bool false] 58)
  have hba : Below w1.heap.size w1 (w1.alloc (.cells #[.pointer (some ⟨s, 0, none⟩), .int .i64 roll, .int .i64 (first : Int), .int .i64 0, .int .i64 0, .int .i64 0, .bool false] 58)) := (Below.refl _ w1).alloc (Nat.le_refl _) _
  generalize w1.alloc (.cells #[.pointer (some ⟨s, 0, none⟩), .int .i64 roll, .int .i64 (first : Int), .int .i64 0, .int .i64 0, .int .i64 0, .bool false] 58) = w2 at hal hba ⊢
  obtain ⟨g, hg⟩ : ∃ g, w1.heap.size = g := ⟨_, rfl⟩
  have HGE := Aside0.mk (show w.heap.size ≤ g by rw [← hg]; exact HB1.out.size)
  have HB2 := Aside0.mk (HB1.out.trans (hba.mono HB1.out.size))
  have HBA := Aside0.mk hba
  rw [hg] at hal ⊢
  have HR2 := Aside0.mk (show RlAt w2 g s F ⟨roll, first, 0, 0, 0, false⟩ D from ⟨hal, (HH.out.below HB1.out).below hba⟩)
  have hE2 : REnv w2 := HE.out.keep (HB2.out.block _ HG.out.1) (HB2.out.block _ HG.out.2)
  have hrec := records_calls w2 g s first F D ⟨roll, first, 0, 0, 0, false⟩ pss HR2.out rfl rfl HPR.out.1 HPR.out.2.1 HPR.out.2.2.1 hE2.nib (Nat.lt_of_lt_of_le HG.out.2 HB2.out.size)
  obtain ⟨rl, hrl⟩ : ∃ rl, (recL pss).length = rl := ⟨_, rfl⟩
  have HRL := Aside0.mk hrl
  have hmm : recM ⟨roll, first, (first : Int) - 1, 0, 0, false⟩ pss = m := HM.out
  clear hal hba hg hE2 hrl
  go_upto_region 10 with (go_at_call 19; go_loud (refine (show Calls _ _ _ _ _ from hrec).mono ?_; rintro e w3 ⟨⟨A2, c2, rfl, hBs⟩, hmu, hrl3, hdk⟩; rw [HRL.out] at hBs ⊢; simp only [hmm] at hrl3; have HBS := Aside0.mk hBs; have HMU := Aside0.mk hmu; have HR3 := Aside0.mk (show RlAt w3 g s F m D from ⟨hrl3, hdk⟩); clear hBs hmu hrl3 hdk hrec hmm))
  have HM3 := Aside0.mk (show Mut F w w3 from (Mut.of_below (F := F) HB2.out).trans HMU.out (fun _ h => h) (fun i hi hlt => by have := HGE.out; omega))
  have hE3 : REnv w3 := HE.out.keep (HM3.out.block _ HG.out.1 HFX.out.1) (HM3.out.block _ HG.out.2 HFX.out.2)
  have hl0 : 0 ≤ m.last ∧ m.last < 100 := by
    have h1 := (recM_last ⟨roll, first, (first : Int) - 1, 0, 0, false⟩ pss).1
    have h2 := HM.out
    unfold openM at h2
    rw [h2] at h1
    have h3 := HMO.out.f1
    have h4 := HPR.out.2.1
    simp only at h1
    omega
  have hcl := clean_calls w3 g s F m D HR3.out HPR.out.2.2.2 hE3 (Nat.lt_of_lt_of_le HG.out.1 HM3.out.size) (Nat.lt_of_lt_of_le HG.out.2 HM3.out.size) hl0.1 hl0.2
  rw [HRC.out] at hcl
  clear hE3 hl0
  go_upto_region 11 with (go_at_call 20; go_loud (refine (show Calls _ _ _ _ _ from hcl).mono ?_; rintro e w4 ⟨rfl, hst, hkp⟩; have HS4 := Aside0.mk hst; have HK4 := Aside0.mk hkp; clear hst hkp hcl))
  have HM4 := Aside0.mk (show Mut F w w4 from HM3.out.trans HS4.out.mu (fun _ h => h) (fun i hi hlt => by
    rcases hi with e | e
    · have := HGE.out; omega
    · exact e))
  have HA4 := Aside0.mk (show ∃ F', RlAt w4 g s F' m Dr ∧ ∀ i, F' i → F i ∨ w.heap.size ≤ i from by
    obtain ⟨F', h1, h2⟩ := HS4.out.at_
    exact ⟨F', h1, fun i hi => (h2 i hi).imp id (fun h => Nat.le_trans HM3.out.size h)⟩)
  by_cases he : er = 0
  · subst he
    have hk14 : KeepT w1 w4 := ((KeepT.below HBA.out).trans (KeepT.mut HMU.out (fun i e => by subst e; exact ⟨_, _, HR2.out.blk, fun h => h.1 rfl⟩))).trans HK4.out
    have hcn := cloneO_calls A c img w4 (by rw [HIL.out]; exact HC.out w4 hk14) HNI.out (by have := HMO.out.len; omega)
    rw [HIL.out] at hcn
    clear hk14
    go_wp2_with (go_at_call 21; go_loud (refine (show Calls _ _ _ _ _ from hcn).mono ?_; rintro e w5 ⟨⟨v, rfl, hR⟩, hb⟩; obtain ⟨A5, c5, e5⟩ := Kd.R_slice hR; rw [HIL.out] at e5; subst e5; have HR5 := Aside0.mk hR; have HB5 := Aside0.mk hb; clear hR hb hcn))
    refine bodyPost_ret (v := .tuple #[.pointer (some ⟨g, 0, none⟩), .slice A5 il c5, .slice A2 rl c2, .int .i64 0]) (by simp [results, Tryz.results8, go_sem]) rfl ⟨HM4.out.trans (Mut.of_below (F := F) HB5.out) (fun _ h => h) (fun _ h _ => h), fun _ => ?_, fun h => absurd rfl h⟩
    obtain ⟨F', h1, h2⟩ := HA4.out
    refine ⟨g, A5, c5, A2, c2, by rw [HIL.out, HRL.out], HGE.out, ⟨F', h1.below HB5.out, h2⟩, ?_, ?_⟩
    · rw [HIL.out]
      exact Kd.R_lower HR5.out HM4.out.size
    · rw [HRL.out]
      exact (KeepT.below HB5.out).bs (HK4.out.bs (Kd.R_lower HBS.out HB2.out.size))
  · have hbe : (er != 0) = true := by simpa using he
    have HNE := Aside0.mk he
    clear he
    go_wp2_with fail
    refine bodyPost_ret (v := .tuple #[.pointer none, .slice none 0 0, .slice none 0 0, .int .i64 er]) (by simp [results, Tryz.results8, go_sem]) rfl ⟨HM4.out, fun h => absurd h HNE.out, fun _ => ⟨rfl, ?_⟩⟩
    obtain ⟨F', h1, h2⟩ := HA4.out
    exact ⟨F', h1.disk, h2⟩
end Go.Proofs.YtdooajmgfoobfaaGreatDoor.H
namespace Go.Proofs.YtdooajmgfoobfaaGreatDoor.H
open Go.RowKit Go.Shelf Go.Proofs.YtdooajmgfoobfaaGreatDoor.PA Go.Proofs.YtdooajmgfoobfaaGreatDoorW.PrintWords Go.Proofs.YtdooajmgfoobfaaGreatDoorW.PrintLast Go.Proofs.YtdooajmgfoobfaaGreatDoorW.PrintMore
set_option linter.unusedVariables false
set_option linter.unusedSimpArgs false
/-- What stands on a disk, however it stopped. -/
structure Rec (D : Dk) (first : Nat) (img : List Int) (pss : List Sg) (B : Nat) : Prop where
  mark : MarkIs D first img
  mok : MarkOk first img
  segs : Segs D.L first (pss.map Sg.bytes)
  sok : SgsOk pss
  lt : first + pss.length ≤ B + 1
  names : ∀ k f, lk k D.L = some f → k = markK ∨ k = marknK ∨ ∃ n, 1 ≤ n ∧ n ≤ B ∧ k = segK n
  b98 : B ≤ 98
def AllSafe (D : Dk) : Prop := ∀ k f, lk k D.L = some f → f.s = f.b.length
/-- A disk without leftovers, all safe. -/
structure Neat (D : Dk) (first : Nat) (img : List Int) (pss : List Sg) (B : Nat) : Prop where
  r : Rec D first img pss B
  whole : ∀ x ∈ pss, x.2 = []
  safe : AllSafe D
  only : ∀ k f, lk k D.L = some f → k = markK ∨ ∃ n, first ≤ n ∧ n < first + pss.length ∧ k = segK n
/-- What a stop can leave. -/
def Crash (D : Dk) (B : Nat) (S : List Int → List (List Int) → Prop) : Prop := ∀ E, Stopped D E → ∃ first img pss, Rec E first img pss B ∧ S img (recL pss)
section
variable {D E D' : Dk} {first : Nat} {img : List Int} {pss : List Sg} {B : Nat}
theorem Rec.view (h : Rec D first img pss B) (hm : lk markK D'.L = lk markK D.L) (hs : ∀ n, first ≤ n → n ≤ first + pss.length → lk (segK n) D'.L = lk (segK n) D.L) (hn : ∀ k f, lk k D'.L = some f → (∃ f', lk k D.L = some f') ∨ k = marknK) : Rec D' first img pss B := by
  refine { h with mark := ?_, segs := ⟨fun i b hi => ?_, ?_⟩, names := fun k f hk => ?_ }
  · have := h.mark
    unfold MarkIs at this ⊢
    rw [hm]
    exact this
  · have hlt : i < pss.length := by
      have := (List.getElem?_eq_some_iff.1 hi).1
      simpa using this
    rw [hs _ (by omega) (by omega)]
    exact h.segs.got i b hi
  · have := h.segs.stop
    rw [List.length_map] at this ⊢
    rw [hs _ (by omega) (by omega)]
    exact this
  · rcases hn k f hk with ⟨f', hf⟩ | e
    · exact h.names k f' hf
    · exact .inr (.inl e)
theorem Rec.same (h : Rec D first img pss B) (e : ∀ k, lk k D'.L = lk k D.L) : Rec D' first img pss B := h.view (e _) (fun _ _ _ => e _) (fun k f hk => .inl ⟨f, by rw [← e]; exact hk⟩)
theorem Rec.up (h : Rec D first img pss B) {B' : Nat} (h1 : B ≤ B') (h2 : B' ≤ 98) : Rec D first img pss B' :=
  { h with lt := by have := h.lt; omega, names := fun k f hk => (h.names k f hk).imp id (fun h => h.imp id (fun ⟨n, a, b, c⟩ => ⟨n, a, by omega, c⟩)), b98 := h2 }
theorem Rec.rname (h : Rec D first img pss B) (hr : Rise D.L) : ∀ x ∈ D.L, RName x.1 := fun x hx => by
  rcases h.names x.1 x.2 ((lk_mem _ hr).2 hx) with e | e | ⟨n, a, b, c⟩
  · exact .inl e
  · exact .inr (.inl e)
  · exact .inr (.inr ⟨n, a, by have := h.b98; omega, c⟩)
theorem Neat.up (h : Neat D first img pss B) {B' : Nat} (h1 : B ≤ B') (h2 : B' ≤ 98) : Neat D first img pss B' := { h with r := h.r.up h1 h2 }
theorem stopped_eq (h : Stopped D E) (hs : AllSafe D) : ∀ k, lk k E.L = lk k D.L := by
  intro k
  rcases h.2.2.2.lk k with ⟨h1, h2⟩ | ⟨⟨b, s⟩, ⟨b2, s2⟩, h1, h2, h3⟩
  · rw [h1, h2]
  · have hf := hs k _ h1
    obtain ⟨l1, l2, l3⟩ := h3
    simp only at hf l1 l2 l3
    have e : s2 = b.length := by omega
    subst e
    rw [Int.toNat_natCast, List.take_length] at l3
    rw [h1, h2, l3, hf]
theorem stopped_safe (h : Stopped D E) (ok : DkOk D) : AllSafe E := by
  intro k g hg
  rcases h.2.2.2.lk k with ⟨h1, h2⟩ | ⟨f, g', h1, h2, h3⟩
  · rw [h2] at hg
    cases hg
  · rw [h2] at hg
    cases hg
    obtain ⟨l1, l2, l3⟩ := h3
    have := (lk_ok ok h1).s0
    rw [l3, List.length_take]
    omega
theorem Rec.crash (h : Rec D first img pss B) (hs : AllSafe D) {S : List Int → List (List Int) → Prop} (hS : S img (recL pss)) : Crash D B S :=
  fun E hE => ⟨first, img, pss, h.same (stopped_eq hE hs), hS⟩
/-- n steps may be done. -/
def Fz (D : Dk) (n : Nat) : Prop := D.fused = true → (n : Int) ≤ D.steps
/-- One step less. -/
theorem step_some {D1 : Dk} (h : D.step = some D1) : D1.L = D.L ∧ D1.lim = D.lim ∧ D1.fused = D.fused ∧ ∀ n, Fz D (n + 1) → Fz D1 n := by
  unfold Dk.step at h
  split at h
  · split at h
    · cases h
    · cases h
      exact ⟨rfl, rfl, rfl, fun n hn hf => by have := hn (by assumption); show (n : Int) ≤ D.steps - 1; push_cast at this; omega⟩
  · rename_i hf
    cases h
    exact ⟨rfl, rfl, rfl, fun n _ h => absurd h hf⟩
theorem step_none (h : D.step = none) : D.fused = true ∧ ∀ n, ¬ Fz D (n + 1) := by
  unfold Dk.step at h
  split at h
  · rename_i hf
    split at h
    · rename_i h0
      exact ⟨hf, fun n hn => by have := hn hf; push_cast at this; omega⟩
    · cases h
  · cases h
theorem Dk.put_lk (hr : Rise D.L) (k k' : ByteArray) (f : Fl) : lk k' (D.put k f).L = if k' = k then some f else lk k' D.L := lk_ins hr
theorem Dk.del_lk (hr : Rise D.L) (k k' : ByteArray) : lk k' (D.del k).L = if k' = k then none else lk k' D.L := lk_del hr
/-- Drops, one behind the other. -/
theorem drops_plain : ∀ (ks : List ByteArray) (D : Dk), Rise D.L → (∀ k ∈ ks, lk k D.L ≠ none) → ks.Nodup →
    ((cleanDrops D ks).2 = 0 ∨ (cleanDrops D ks).2 = 23) ∧ Rise (cleanDrops D ks).1.L ∧ (cleanDrops D ks).1.lim = D.lim ∧ (cleanDrops D ks).1.fused = D.fused ∧
    (∃ j, (∀ k, (k ∈ ks.take j → lk k (cleanDrops D ks).1.L = none) ∧ (k ∉ ks.take j → lk k (cleanDrops D ks).1.L = lk k D.L)) ∧ ((cleanDrops D ks).2 = 0 → j = ks.length)) ∧ ∀ n, Fz D (ks.length + n) → (cleanDrops D ks).2 = 0 ∧ Fz (cleanDrops D ks).1 n
  | [], D, hr, _, _ => ⟨.inl rfl, hr, rfl, rfl, ⟨0, fun k => ⟨fun h => absurd h (by simp), fun _ => rfl⟩, fun _ => rfl⟩, fun n h => ⟨rfl, by simpa [cleanDrops] using h⟩⟩
  | k :: ks, D, hr, hk, hn => by
    obtain ⟨f, hf⟩ : ∃ f, lk k D.L = some f := by
      cases h : lk k D.L with
      | none => exact absurd h (hk k (by simp))
      | some f => exact ⟨f, rfl⟩
    have hnd := List.nodup_cons.1 hn
    unfold cleanDrops
    cases hs : D.step with
    | none =>
      have hd : D.drop k = (D, 23) := by unfold Dk.drop; rw [hf, hs]
      rw [hd]
      simp only [show ¬ ((23 : Int) = 0) by decide, if_false]
      exact ⟨.inr trivial, hr, trivial, trivial, ⟨0, fun k => ⟨fun h => absurd h (by simp), fun _ => trivial⟩, fun h => absurd h (by decide)⟩, fun n hz => absurd (show Fz D (ks.length + n + 1) by rw [List.length_cons] at hz; rwa [show ks.length + 1 + n = ks.length + n + 1 by omega] at hz) ((step_none hs).2 _)⟩
    | some D1 =>
      obtain ⟨e1, e2, e3, e4⟩ := step_some hs
      have hd : D.drop k = (D1.del k, 0) := by unfold Dk.drop; rw [hf, hs]
      rw [hd]
      simp only [if_true]
      have hr1 : Rise (D1.del k).L := rise_del (by rw [e1]; exact hr)
      have hl : ∀ k', lk k' (D1.del k).L = if k' = k then none else lk k' D.L := fun k' => by rw [Dk.del_lk (by rw [e1]; exact hr), e1]
      obtain ⟨h1, h2, h3, h4, ⟨j, h5, h6⟩, h7⟩ := drops_plain ks (D1.del k) hr1 (fun k' hk' => by
        rw [hl, if_neg (by rintro rfl; exact hnd.1 hk')]
        exact hk k' (by simp [hk'])) hnd.2
      refine ⟨h1, h2, h3.trans e2, h4.trans e3, ⟨j + 1, fun k' => ?_, fun h => by rw [h6 h]; rfl⟩, fun n hz => h7 n ?_⟩
      · rw [List.take_succ_cons]
        refine ⟨fun hm => ?_, fun hm => ?_⟩
        · by_cases e : k' ∈ ks.take j
          · exact (h5 k').1 e
          · have e2 : k' = k := (List.mem_cons.1 hm).resolve_right e
            rw [(h5 k').2 e, hl, if_pos e2]
        · rw [(h5 k').2 (fun e => hm (List.mem_cons_of_mem _ e)), hl, if_neg (fun e => hm (by simp [e]))]
      · have := e4 (ks.length + n) (by rw [List.length_cons] at hz; rwa [show ks.length + 1 + n = ks.length + n + 1 by omega] at hz)
        exact this
/-- What is left over stands in the list once, and isn't what is read. -/
theorem rise_nodup {α : Type} : ∀ {L : List (ByteArray × α)}, Rise L → (L.map (·.1)).Nodup
  | [], _ => List.nodup_nil
  | a :: L, h => by
    have h1 := (List.pairwise_cons.1 h)
    rw [List.map_cons, List.nodup_cons]
    refine ⟨fun hm => ?_, rise_nodup h1.2⟩
    obtain ⟨b, hb, e⟩ := List.mem_map.1 hm
    have h2 := h1.1 b hb
    rw [e] at h2
    have h3 := cmpS_self a.1
    omega
theorem lk_key {α : Type} {k : ByteArray} : ∀ {L : List (ByteArray × α)}, k ∈ L.map (·.1) ↔ lk k L ≠ none
  | [] => by simp [lk]
  | a :: L => by
    unfold lk
    by_cases e : k = a.1
    · subst e
      simp
    · rw [if_neg e, List.map_cons, List.mem_cons, lk_key (L := L)]
      simp [e]
theorem over_mem {m : Rl} {L : Fls} {k : ByteArray} : k ∈ overL m L ↔ lk k L ≠ none ∧ overP m k = true := by
  unfold overL
  rw [List.mem_filter, lk_key]
end
end Go.Proofs.YtdooajmgfoobfaaGreatDoor.H
namespace Go.Proofs.YtdooajmgfoobfaaGreatDoor.H
open Go.RowKit Go.Shelf Go.Proofs.YtdooajmgfoobfaaGreatDoor.PA Go.Proofs.YtdooajmgfoobfaaGreatDoorW.PrintWords Go.Proofs.YtdooajmgfoobfaaGreatDoorW.PrintLast Go.Proofs.YtdooajmgfoobfaaGreatDoorW.PrintMore
set_option linter.unusedVariables false
set_option linter.unusedSimpArgs false
/-- The segments without what is torn. -/
def strip (pss : List Sg) : List Sg := pss.map (fun x => (x.1, []))
theorem strip_recL (pss : List Sg) : recL (strip pss) = recL pss := by simp [recL, strip, List.flatMap_map]
theorem strip_recM (pss : List Sg) : ∀ m : Rl, recM m (strip pss) = recM m pss := by
  induction pss with
  | nil => exact fun m => rfl
  | cons x l ih => exact fun m => ih _
theorem openM_strip (roll : Int) (first : Nat) (pss : List Sg) : openM roll first (strip pss) = openM roll first pss := strip_recM _ _
theorem openM_last (roll : Int) (first : Nat) (pss : List Sg) : (openM roll first pss).last = (first : Int) - 1 + pss.length ∧ (openM roll first pss).roll = roll ∧ (openM roll first pss).first = first ∧ (openM roll first pss).down = false := recM_last _ _
theorem openM_snoc (roll : Int) (first : Nat) (pss : List Sg) (x : Sg) : openM roll first (pss ++ [x]) = { openM roll first pss with last := (openM roll first pss).last + 1, tail := (framesB x.1).length, size := (openM roll first pss).size + (framesB x.1).length } := recM_snoc _ _ _
theorem openM_tail (roll : Int) (first : Nat) (pss : List Sg) (x : Sg) : (openM roll first (pss ++ [x])).tail = (framesB x.1).length := by rw [openM_snoc]
theorem openM_nil (roll : Int) (first : Nat) : openM roll first [] = ⟨roll, first, (first : Int) - 1, 0, 0, false⟩ := rfl
theorem strip_ok {pss : List Sg} (h : SgsOk pss) : SgsOk (strip pss) where
  short := fun x hx p hp => by
    obtain ⟨y, hy, rfl⟩ := List.mem_map.1 hx
    exact h.short y hy p hp
  torn := fun x hx => by
    obtain ⟨y, hy, rfl⟩ := List.mem_map.1 hx
    exact torn_nil
  whole := fun i x hi _ => by
    obtain ⟨y, hy, rfl⟩ := List.mem_map.1 (List.mem_of_getElem? hi)
    rfl
  u8 := fun x hx y hy => by
    obtain ⟨z, hz, rfl⟩ := List.mem_map.1 hx
    refine h.u8 z hz y ?_
    unfold Sg.bytes at hy ⊢
    rw [List.append_nil] at hy
    exact List.mem_append_left _ hy
  len := fun x hx => by
    obtain ⟨y, hy, rfl⟩ := List.mem_map.1 hx
    have := h.len y hy
    unfold Sg.bytes at this ⊢
    rw [List.length_append] at this
    rw [List.append_nil]
    show (framesB y.1).length ≤ 100000
    omega
  few := by simpa [strip] using h.few
section
variable {D E D' : Dk} {first : Nat} {img : List Int} {pss : List Sg} {B : Nat} {roll : Int}
theorem seg_lt (h : Rec D first img pss B) : first + pss.length < 100 := by have := h.lt; have := h.b98; omega
theorem not_over (h : Rec D first img pss B) {k : ByteArray} {f : Fl} (hk : lk k D.L = some f) (ho : overP (openM roll first pss) k = false) : k = markK ∨ ∃ n, first ≤ n ∧ n < first + pss.length ∧ k = segK n := by
  obtain ⟨e1, _, e3, _⟩ := openM_last roll first pss
  rcases h.names k f hk with e | e | ⟨n, a, b, c⟩
  · exact .inl e
  · subst e
    rw [overP_markn] at ho
    cases ho
  · have hb := h.b98
    subst c
    rw [overP_seg _ a (by omega), e1, e3] at ho
    simp only [Bool.or_eq_false_iff, decide_eq_false_iff_not] at ho
    exact .inr ⟨n, by omega, by omega, rfl⟩
theorem over_no_mark (h : Rec D first img pss B) : overP (openM roll first pss) markK = false := overP_mark _
theorem over_no_seg (h : Rec D first img pss B) {n : Nat} (h1 : first ≤ n) (h2 : n < first + pss.length) : overP (openM roll first pss) (segK n) = false := by
  obtain ⟨e1, _, e3, _⟩ := openM_last roll first pss
  have := h.mok.f1
  have := seg_lt h
  rw [overP_seg _ (by omega) (by omega), e1, e3]
  simp only [Bool.or_eq_false_iff, decide_eq_false_iff_not]
  omega
/-- A last segment whose torn end is cut. -/
theorem Rec.cut (h : Rec D first img pss B) (hm : lk markK D'.L = lk markK D.L) {init : List Sg} {x : Sg} (hp : pss = init ++ [x]) (hs : ∀ n, first ≤ n → n ≤ first + pss.length → n ≠ first + init.length → lk (segK n) D'.L = lk (segK n) D.L)
    {f : Fl} (hk : lk (segK (first + init.length)) D'.L = some f) (hf : f.b = framesB x.1) (hn : ∀ k f, lk k D'.L = some f → (∃ f', lk k D.L = some f') ∨ k = marknK) : Rec D' first img (strip pss) B := by
  have hsl : (strip pss).length = pss.length := by simp [strip]
  have hpl : pss.length = init.length + 1 := by rw [hp]; simp
  have hlt := seg_lt h
  refine { h with mark := ?_, segs := ⟨fun i b hi => ?_, ?_⟩, sok := strip_ok h.sok, lt := by rw [hsl]; exact h.lt, names := fun k f hk => ?_ }
  · have := h.mark
    unfold MarkIs at this ⊢
    rw [hm]
    exact this
  · rw [List.getElem?_map] at hi
    obtain ⟨y, hy, rfl⟩ := Option.map_eq_some_iff.1 hi
    have hyl : i < pss.length := by
      have := (List.getElem?_eq_some_iff.1 hy).1
      omega
    unfold strip at hy
    rw [List.getElem?_map] at hy
    obtain ⟨z, hz, rfl⟩ := Option.map_eq_some_iff.1 hy
    by_cases e : i = init.length
    · subst e
      rw [hp, List.getElem?_concat_length] at hz
      cases hz
      exact ⟨f, hk, by rw [hf]; simp [Sg.bytes]⟩
    · obtain ⟨f', h1, h2⟩ := h.segs.got i z.bytes (by rw [List.getElem?_map, hz]; rfl)
      refine ⟨f', by rw [hs _ (by omega) (by omega) (by omega)]; exact h1, h2.trans ?_⟩
      have := h.sok.whole i z hz (by omega)
      simp [Sg.bytes, this]
  · have := h.segs.stop
    rw [List.length_map] at this
    rw [List.length_map, hsl, hs _ (by omega) (by omega) (by omega)]
    exact this
  · rcases hn k f hk with ⟨f', hf⟩ | e
    · exact h.names k f' hf
    · exact .inr (.inl e)
end
end Go.Proofs.YtdooajmgfoobfaaGreatDoor.H


