/- Texts and strings, compared. Laid by wip/rq_bl.py. -/
import Derived.Test.YtdooajmgfoobfaaGreatDoorRpD
import Derived.Test.YtdooajmgfoobfaaGreatDoorZz
namespace Go.Proofs.YtdooajmgfoobfaaGreatDoor.H
open Go.RowKit Go.Shelf Go.Proofs.YtdooajmgfoobfaaGreatDoor.PA Go.Proofs.YtdooajmgfoobfaaGreatDoorW.PrintWords Go.Proofs.YtdooajmgfoobfaaGreatDoorW.PrintLast Go.Proofs.YtdooajmgfoobfaaGreatDoorW.PrintMore
set_option linter.unusedVariables false
set_option linter.unusedSimpArgs false
/-- Segments dropped, one behind the other. -/
theorem rdrops_plain : ∀ (k n : Nat) (D : Dk), Rise D.L → (∀ i, n ≤ i → i < n + k → lk (segK i) D.L ≠ none) → n + k ≤ 100 →
    ((rdrops D n k).2 = 0 ∨ (rdrops D n k).2 = 23) ∧ Rise (rdrops D n k).1.L ∧ (rdrops D n k).1.lim = D.lim ∧ (rdrops D n k).1.fused = D.fused ∧
    (∃ j, j ≤ k ∧ (∀ key, (∃ i, n ≤ i ∧ i < n + j ∧ key = segK i) → lk key (rdrops D n k).1.L = none) ∧ (∀ key, ¬ (∃ i, n ≤ i ∧ i < n + j ∧ key = segK i) → lk key (rdrops D n k).1.L = lk key D.L) ∧ ((rdrops D n k).2 = 0 → j = k)) ∧ (D.fused = false → (rdrops D n k).2 = 0)
  | 0, n, D, hr, _, _ => ⟨.inl rfl, hr, rfl, rfl, ⟨0, Nat.le_refl _, fun key ⟨i, a, b, _⟩ => by omega, fun key _ => rfl, fun _ => rfl⟩, fun _ => rfl⟩
  | k + 1, n, D, hr, hk, hn => by
    obtain ⟨f, hf⟩ : ∃ f, lk (segK n) D.L = some f := by
      cases h : lk (segK n) D.L with
      | none => exact absurd h (hk n (Nat.le_refl _) (by omega))
      | some f => exact ⟨f, rfl⟩
    unfold rdrops
    cases hs : D.step with
    | none =>
      have hd : D.drop (segK n) = (D, 23) := by unfold Dk.drop; rw [hf, hs]
      rw [hd]
      rw [if_neg (show ¬ ((23 : Int) = 0) by decide)]
      exact ⟨.inr rfl, hr, rfl, rfl, ⟨0, by omega, fun key ⟨i, a, b, _⟩ => by omega, fun key _ => rfl, fun h => absurd h (show ¬ ((23 : Int) = 0) by decide)⟩, fun h => by rw [(step_none hs).1] at h; cases h⟩
    | some D1 =>
      obtain ⟨e1, e2, e3, _⟩ := step_some hs
      have hd : D.drop (segK n) = (D1.del (segK n), 0) := by unfold Dk.drop; rw [hf, hs]
      rw [hd]
      simp only [if_true]
      have hr1 : Rise (D1.del (segK n)).L := rise_del (by rw [e1]; exact hr)
      have hl : ∀ k', lk k' (D1.del (segK n)).L = if k' = segK n then none else lk k' D.L := fun k' => by rw [Dk.del_lk (by rw [e1]; exact hr), e1]
      obtain ⟨h1, h2, h3, h4, ⟨j, h5, h6, h7, h8⟩, h9⟩ := rdrops_plain k (n + 1) (D1.del (segK n)) hr1 (fun i a b => by
        rw [hl, if_neg (fun e => by have := seg_inj (by omega) (by omega) e; omega)]
        exact hk i (by omega) (by omega)) (by omega)
      refine ⟨h1, h2, h3.trans e2, h4.trans e3, ⟨j + 1, by omega, fun key ⟨i, a, b, c⟩ => ?_, fun key hne => ?_, fun h => by rw [h8 h]⟩, fun h => h9 (e3.trans h)⟩
      · by_cases e : ∃ i, n + 1 ≤ i ∧ i < n + 1 + j ∧ key = segK i
        · exact h6 key e
        · have : i = n := by
            rcases Nat.lt_or_ge n i with h | h
            · exact absurd ⟨i, h, by omega, c⟩ e
            · omega
          subst this
          rw [h7 key e, hl, if_pos c]
      · rw [h7 key (fun ⟨i, a, b, c⟩ => hne ⟨i, by omega, by omega, c⟩), hl, if_neg (fun e => hne ⟨n, Nat.le_refl _, by omega, e⟩)]
section
variable {D E D' D1 D2 : Dk} {first : Nat} {img : List Int} {pss pre : List Sg} {g : List (List Int)} {B : Nat} {roll : Int}
/-- How an image's Save ends. -/
structure SavP (D : Dk) (first : Nat) (img : List Int) (pss : List Sg) (B : Nat) (roll : Int) (b : List Int) (r : (Rl × Dk) × Int) : Prop where
  out : (r.2 = 0 ∧ r.1.1 = openM roll (first + pss.length) [] ∧ Neat r.1.2 (first + pss.length) b [] B) ∨ (r.2 = 3 ∧ r.1 = (openM roll first pss, D)) ∨
    (r.2 = 23 ∧ r.1.1 = (openM roll first pss).note 23 ∧ Crash r.1.2 B (fun i l => (i = img ∧ l = recL pss) ∨ (i = b ∧ l = [])))
  lim : r.1.2.lim = D.lim
  fu : r.1.2.fused = D.fused
  up : D.fused = false → r.2 ≠ 23
  full : ((frameB (upB ((first + pss.length : Nat) : Int) ++ b)).length : Int) ≤ D.lim - usedL D.L → D.L.length < 16 → r.2 ≠ 3
theorem crash_markn (h : Neat D first img pss B) (hv : ∀ k, k ≠ marknK → lk k D'.L = lk k D.L) (b : List Int) : Crash D' B (fun i l => (i = img ∧ l = recL pss) ∨ (i = b ∧ l = [])) := fun E hE => by
  have hvE : ∀ k, k ≠ marknK → lk k E.L = lk k D.L := fun k hk => by rw [stopped_at hE k (fun f hf => by rw [hv k hk] at hf; exact h.safe k f hf), hv k hk]
  exact ⟨first, img, pss, h.r.view (hvE _ mark_ne) (fun n _ _ => hvE _ seg_ne_markn) (fun k f hk => by
    by_cases e : k = marknK
    · exact .inr e
    · rw [hvE k e] at hk
      exact .inl ⟨f, hk⟩), .inl ⟨rfl, rfl⟩⟩
theorem Neat.no_markn (h : Neat D first img pss B) : lk marknK D.L = none := by
  cases e : lk marknK D.L with
  | none => rfl
  | some f =>
    rcases h.only _ f e with e2 | ⟨n, _, _, c⟩
    · exact absurd e2 mark_ne.symm
    · exact absurd c seg_ne_markn.symm
theorem save_plain (h : Neat D first img pss B) (ok : DkOk D) (b : List Int) (hu : ∀ x ∈ b, 0 ≤ x ∧ x ≤ 255) (hbl : b.length ≤ 1000) : SavP D first img pss B roll b (rsave (openM roll first pss) D b) := by
  have hlt := h.r.lt
  have hf1 := h.r.mok.f1
  have hb98 := h.r.b98
  obtain ⟨q1, q2, q3, q4⟩ := openM_last roll first pss
  have hN := h.no_markn
  have hfi : frameB (imgB (openM roll first pss) b) = frameB (upB ((first + pss.length : Nat) : Int) ++ b) := by
    unfold imgB
    rw [q1]
    congr 3
    push_cast
    omega
  unfold rsave
  rw [if_neg (by rw [q4]; simp), hfi]
  generalize hF : frameB (upB ((first + pss.length : Nat) : Int) ++ b) = F
  have hri : rinstall D F = rinst2 D F := by unfold rinstall; rw [hN]
  rw [hri]
  unfold rinst2
  by_cases hc : (F.length : Int) > D.lim - usedL D.L ∨ (lk marknK D.L = none ∧ 16 ≤ D.L.length)
  · have ha : D.append marknK F = (D, 3) := by unfold Dk.append; rw [if_pos hc]
    rw [ha, if_neg (show ¬ ((3 : Int) = 0) by decide)]
    unfold rsave1
    rw [if_neg (show ¬ ((3 : Int) = 0) by decide)]
    exact ⟨.inr (.inl ⟨rfl, by rw [note_three]⟩), rfl, rfl, fun _ => (show (3 : Int) ≠ 23 by decide), fun h1 h2 => by rw [hF] at h1; omega⟩
  · cases hst : D.step with
    | none =>
      have ha : D.append marknK F = (D, 23) := by unfold Dk.append; rw [if_neg hc, hst]
      rw [ha, if_neg (show ¬ ((23 : Int) = 0) by decide)]
      unfold rsave1
      rw [if_neg (show ¬ ((23 : Int) = 0) by decide)]
      exact ⟨.inr (.inr ⟨rfl, rfl, h.r.crash h.safe (.inl ⟨rfl, rfl⟩)⟩), rfl, rfl, fun h1 => (by rw [(step_none hst).1] at h1; cases h1), fun _ _ => (show (23 : Int) ≠ 3 by decide)⟩
    | some D1 =>
      obtain ⟨e1, e2, e3, _⟩ := step_some hst
      have ha := append_ok hc hst
      rw [hN] at ha
      have hor : (Fl.orNone none).b ++ F = F := rfl
      rw [hor] at ha
      rw [ha]
      simp only [if_true]
      have hv : ∀ k, lk k (D1.put marknK ⟨F, (Fl.orNone none).s⟩).L = if k = marknK then some ⟨F, (Fl.orNone none).s⟩ else lk k D.L := fun k => by rw [Dk.put_lk (by rw [e1]; exact ok.rise), e1]
      have hr2 : Rise (D1.put marknK ⟨F, (Fl.orNone none).s⟩).L := rise_ins (by rw [e1]; exact ok.rise)
      have hl2 : (D1.put marknK ⟨F, (Fl.orNone none).s⟩).lim = D.lim := e2
      have hf2 : (D1.put marknK ⟨F, (Fl.orNone none).s⟩).fused = D.fused := e3
      generalize D1.put marknK ⟨F, (Fl.orNone none).s⟩ = D2 at hv hr2 hl2 hf2 ⊢
      have hk2 : lk marknK D2.L = some ⟨F, (Fl.orNone none).s⟩ := by rw [hv, if_pos rfl]
      cases hst2 : D2.step with
      | none =>
        rw [sync_none hk2 hst2, if_neg (show ¬ ((23 : Int) = 0) by decide)]
        unfold rsave1
        rw [if_neg (show ¬ ((23 : Int) = 0) by decide)]
        exact ⟨.inr (.inr ⟨rfl, rfl, crash_markn h (fun k hk => by rw [hv, if_neg hk]) b⟩), hl2, hf2, fun h1 => (by rw [← hf2, (step_none hst2).1] at h1; cases h1), fun _ _ => (show (23 : Int) ≠ 3 by decide)⟩
      | some D3 =>
        obtain ⟨g1, g2, g3, _⟩ := step_some hst2
        rw [sync_some hk2 hst2]
        simp only [if_true]
        have hv3 : ∀ k, lk k (D3.put marknK ⟨F, (F.length : Nat)⟩).L = if k = marknK then some ⟨F, (F.length : Nat)⟩ else lk k D.L := fun k => by
          rw [Dk.put_lk (by rw [g1]; exact hr2), g1, hv]
          split <;> rfl
        have hr3 : Rise (D3.put marknK ⟨F, (F.length : Nat)⟩).L := rise_ins (by rw [g1]; exact hr2)
        have hl3 : (D3.put marknK ⟨F, (F.length : Nat)⟩).lim = D.lim := g2.trans hl2
        have hf3 : (D3.put marknK ⟨F, (F.length : Nat)⟩).fused = D.fused := g3.trans hf2
        generalize D3.put marknK ⟨F, (F.length : Nat)⟩ = D4 at hv3 hr3 hl3 hf3 ⊢
        have hk4 : lk marknK D4.L = some ⟨F, (F.length : Nat)⟩ := by rw [hv3, if_pos rfl]
        cases hst4 : D4.step with
        | none =>
          have hrn : D4.rename marknK markK = (D4, 23) := by unfold Dk.rename; rw [hk4, hst4]
          rw [hrn]
          unfold rsave1
          rw [if_neg (show ¬ ((23 : Int) = 0) by decide)]
          exact ⟨.inr (.inr ⟨rfl, rfl, crash_markn h (fun k hk => by rw [hv3, if_neg hk]) b⟩), hl3, hf3, fun h1 => (by rw [← hf3, (step_none hst4).1] at h1; cases h1), fun _ _ => (show (23 : Int) ≠ 3 by decide)⟩
        | some D5 =>
          obtain ⟨g5, g6, g7, _⟩ := step_some hst4
          rw [rename_ok hk4 hst4]
          have hr5 : Rise (D5.del marknK).L := rise_del (by rw [g5]; exact hr3)
          have hv5 : ∀ k, lk k ((D5.del marknK).put markK ⟨F, (F.length : Nat)⟩).L = if k = markK then some ⟨F, (F.length : Nat)⟩ else if k = marknK then none else lk k D.L := fun k => by
            rw [Dk.put_lk hr5, Dk.del_lk (by rw [g5]; exact hr3), g5, hv3]
            by_cases e1 : k = markK
            · rw [if_pos e1, if_pos e1]
            · rw [if_neg e1, if_neg e1]
              by_cases e2 : k = marknK
              · rw [if_pos e2, if_pos e2]
              · rw [if_neg e2, if_neg e2, if_neg e2]
          have hr6 : Rise ((D5.del marknK).put markK ⟨F, (F.length : Nat)⟩).L := rise_ins hr5
          have hl6 : ((D5.del marknK).put markK ⟨F, (F.length : Nat)⟩).lim = D.lim := g6.trans hl3
          have hf6 : ((D5.del marknK).put markK ⟨F, (F.length : Nat)⟩).fused = D.fused := g7.trans hf3
          generalize (D5.del marknK).put markK ⟨F, (F.length : Nat)⟩ = D6 at hv5 hr6 hl6 hf6 ⊢
          have hseg : ∀ n, lk (segK n) D6.L = lk (segK n) D.L := fun n => by rw [hv5, if_neg seg_ne_mark, if_neg seg_ne_markn]
          have hst' := h.r.segs.stop
          rw [List.length_map] at hst'
          have hR : Rec D6 (first + pss.length) b [] B := by
            refine ⟨.inr ⟨_, by rw [hv5, if_pos rfl], hF.symm⟩, ⟨by omega, by omega, by omega, hu⟩, ⟨fun i b hi => by simp at hi, by simpa [hseg] using hst'⟩, ⟨by simp, by simp, by simp, by simp, by simp, by simp⟩, by simpa using hlt, fun k f hk => ?_, hb98⟩
            by_cases e1 : k = markK
            · exact .inl e1
            · rw [hv5, if_neg e1] at hk
              by_cases e2 : k = marknK
              · rw [if_pos e2] at hk
                cases hk
              · rw [if_neg e2] at hk
                exact h.r.names k f hk
          have hS : AllSafe D6 := fun k f hk => by
            by_cases e1 : k = markK
            · rw [hv5, if_pos e1] at hk
              cases hk
              rfl
            · rw [hv5, if_neg e1] at hk
              by_cases e2 : k = marknK
              · rw [if_pos e2] at hk
                cases hk
              · rw [if_neg e2] at hk
                exact h.safe k f hk
          have hdr := rdrops_plain pss.length first D6 hr6 (fun i a c => by
            obtain ⟨f, hf, _⟩ := h.r.segs.got (i - first) _ (List.getElem?_eq_getElem (by rw [List.length_map]; omega))
            rw [show first + (i - first) = i by omega] at hf
            rw [hseg, hf]
            simp) (by omega)
          unfold rsave1
          simp only [if_true]
          rw [q3, q1, Int.toNat_natCast, show ((first : Int) - 1 + pss.length + 1 - first).toNat = pss.length by omega]
          generalize rdrops D6 first pss.length = rd at hdr ⊢
          obtain ⟨h1, h2, h3, h4, ⟨j, h5, h6, h7, h8⟩, h9⟩ := hdr
          have old : ∀ k f, lk k rd.1.L = some f → lk k D6.L = some f := fun k f hk => by
            by_cases e : ∃ i, first ≤ i ∧ i < first + j ∧ k = segK i
            · rw [h6 k e] at hk
              cases hk
            · rw [← h7 k e]
              exact hk
          have hR7 : Rec rd.1 (first + pss.length) b [] B := by
            refine hR.view (h7 _ (fun ⟨i, _, _, c⟩ => seg_ne_mark c.symm)) (fun n a c => ?_) (fun k f hk => .inl ⟨f, old k f hk⟩)
            simp at c
            refine h7 _ (fun ⟨i, x, y, z⟩ => ?_)
            have := seg_inj (by omega) (by omega) z
            omega
          have hS7 : AllSafe rd.1 := fun k f hk => hS k f (old k f hk)
          unfold rsave2
          by_cases h0 : rd.2 = 0
          · rw [if_pos h0]
            refine ⟨.inl ⟨rfl, ?_, hR7, by simp, hS7, fun k f hk => ?_⟩, h3.trans hl6, h4.trans hf6, fun _ => (show (0 : Int) ≠ 23 by decide), fun _ _ => (show (0 : Int) ≠ 3 by decide)⟩
            · rw [openM_nil]
              generalize openM roll first pss = m at q1 q2 q3 q4
              obtain ⟨m1, m2, m3, m4, m5, m6⟩ := m
              simp only at q1 q2 q3 q4
              subst q4
              simp only [Rl.mk.injEq, and_true, true_and]
              push_cast
              omega
            · have hk6 := old k f hk
              by_cases e1 : k = markK
              · exact .inl e1
              · exfalso
                rw [hv5, if_neg e1] at hk6
                by_cases e2 : k = marknK
                · rw [if_pos e2] at hk6
                  cases hk6
                · rw [if_neg e2] at hk6
                  rcases h.only k f hk6 with e3 | ⟨n, x, y, z⟩
                  · exact e1 e3
                  · rw [h6 k ⟨n, x, by rw [h8 h0]; exact y, z⟩] at hk
                    cases hk
          · rw [if_neg h0]
            have h23 := h1.resolve_left h0
            exact ⟨.inr (.inr ⟨h23, by rw [h23], hR7.crash hS7 (.inr ⟨rfl, rfl⟩)⟩), h3.trans hl6, h4.trans hf6, fun h => (by rw [← hf6] at h; exact absurd (h9 h) h0), fun _ _ => (by rw [h23]; decide)⟩
end
end Go.Proofs.YtdooajmgfoobfaaGreatDoor.H
namespace Go.Proofs.YtdooajmgfoobfaaGreatDoor.H
attribute [local go_sem] Oper.semAt_some
open Go.RowKit Go.Shelf Go.Proofs.YtdooajmgfoobfaaGreatDoor.PA Go.Proofs.YtdooajmgfoobfaaGreatDoorW.PrintWords Go.Proofs.YtdooajmgfoobfaaGreatDoorW.PrintLast Go.Proofs.YtdooajmgfoobfaaGreatDoorW.PrintMore
set_option linter.unusedVariables false
set_option linter.unusedSimpArgs false
theorem ba_inj {a b : ByteArray} (h : a.toList = b.toList) : a = b := by
  rw [ByteArray.toList_eq, ByteArray.toList_eq] at h
  obtain ⟨a⟩ := a
  obtain ⟨b⟩ := b
  simp only at h
  rw [Array.toList_inj.1 h]
def q13.T6 : Bool × List (List Nat × List Nat) := (true, [([], []), ([], []), ([0, 1], [0, 1]), ([2], [2]), ([3], [3]), ([], []), ([], []), ([5, 6], [5, 6]), ([7], [7]), ([4, 8], [4, 8])])
def q13.B6 : List Nat := [0, 0, 3, 7, 15, 0, 0, 96, 224, 511]
theorem q13.tab6 : rtab .any (opsOf Tryz.f13 6) = q13.T6 := by kernel_rfl
theorem q13.bits6 : waitsOk q13.T6.2 q13.B6 = true := by kernel_rfl
set_option maxRecDepth 100000 in
set_option maxHeartbeats 1600000 in
theorem same_eq (w : World) (A0 : Option Addr) (c0 : Nat) (l0 : List (List Int)) (A1 : Option Addr) (c1 : Nat) (l1 : List ByteArray) (h0 : Kd.C KBs w A0 l0.length l0) (h1 : Kd.C Kd.string w A1 l1.length l1) (he : l0.length = l1.length) :
    Calls Tryz.prog 13 #[.slice A0 l0.length c0, .slice A1 l1.length c1] w fun e w' => e = .returned (.bool (decide (l0.map strOfNums = l1))) ∧ Below w.heap.size w w' := by
  have HC0 := Aside0.mk h0
  have HC1 := Aside0.mk h1
  have hmx := h0.2.1
  obtain ⟨n, hn⟩ : ∃ n, l0.length = n := ⟨_, rfl⟩
  have HN := Aside0.mk (And.intro hn (he.symm.trans hn))
  have hn2 := HN.out.2
  have HMX := Aside0.mk (show n ≤ 9223372036854775807 by rw [← hn]; exact hmx)
  obtain ⟨b, hb⟩ : ∃ b, decide (l0.map strOfNums = l1) = b := ⟨_, rfl⟩
  have HB := Aside0.mk hb
  rw [hn, hn2, hb]
  clear h0 h1 he hn hn2 hmx hb
  have HW := Aside0.mk (Below.refl w.heap.size w)
  go_enter Tryz.func13, Tryz.ntmps13
  go_wp2_with fail
  go_loopw [13] (fun v13 wr => ∃ j : Nat, v13 = .int .i64 j ∧ j ≤ n ∧ (l0.take j).map strOfNums = l1.take j ∧ Below w.heap.size w wr) (fun v13 _ => n - (intOf v13).toNat)
  case atStart => exact ⟨0, rfl, Nat.zero_le _, by simp, HW.out⟩
  case round =>
    obtain ⟨j, rfl, hj, hp, hb⟩ := hrel
    have HP := Aside0.mk hp
    have HBW := Aside0.mk hb
    by_cases hlt : j < n
    · have hl0 : j < l0.length := by have := HN.out.1; omega
      have hl1 : j < l1.length := by have := HN.out.2; omega
      obtain ⟨ad0, cs0, rfl, hLA, hK0, hcl0⟩ := Kd.C_get (Kd.C_below HC0.out (hb.mono (Nat.le_refl _))) [] (j : Int) (by omega) (by omega)
      obtain ⟨ad1, cs1, rfl, hLB, hK1, hcl1⟩ := Kd.C_get (Kd.C_below HC1.out (hb.mono (Nat.le_refl _))) ⟨#[]⟩ (j : Int) (by omega) (by omega)
      rw [Int.toNat_natCast, show l0.getD j [] = l0[j] by rw [List.getD_eq_getElem?_getD, List.getElem?_eq_getElem hl0]; rfl] at hK0
      rw [Int.toNat_natCast, show l1.getD j ⟨#[]⟩ = l1[j] by rw [List.getD_eq_getElem?_getD, List.getElem?_eq_getElem hl1]; rfl] at hK1
      obtain ⟨Ai, ci, rfl, hci, hCi⟩ := hK0
      have hcs : cs1 = [.string l1[j]] := hK1
      subst hcs
      have ht0 : l0.take (j + 1) = l0.take j ++ [l0[j]] := List.take_succ_eq_append_getElem hl0
      have ht1 : l1.take (j + 1) = l1.take j ++ [l1[j]] := List.take_succ_eq_append_getElem hl1
      have x0 : wr.cell? (ad0.add j) = some (.slice Ai l0[j].length ci) := by have := hcl0 0 _ rfl; simpa [Kd.slice] using this
      have x1 : wr.cell? (ad1.add j) = some (.string l1[j]) := by have := hcl1 0 _ rfl; simpa [Kd.string, Kd.scalar] using this
      have HX := Aside0.mk (And.intro x0 x1)
      have HT := Aside0.mk (And.intro ht0 ht1)
      have HCV := Aside0.mk (Kd.C_string (P := Tryz.prog) (A := Ai) (c := ci) Tryz.underlying22 Tryz.underlying5 Tryz.underlying9 (Kd.C_drew hCi))
      have HNE := Aside0.mk (fun (hne : strOfNums l0[j] ≠ l1[j]) => show b = false by
        rw [← HB.out]
        refine decide_eq_false fun e => hne ?_
        have h1 : (l0.map strOfNums)[j]? = l1[j]? := by rw [e]
        rw [List.getElem?_map, List.getElem?_eq_getElem hl0, List.getElem?_eq_getElem hl1] at h1
        exact Option.some.inj h1)
      clear hLA hLB hK1 hcl0 hcl1 hCi ht0 ht1 x0 x1 hp hb hci
      generalize l0[j] = p at HX HT HCV HNE
      generalize l1[j] = k at HX HT HNE
      clear hl0 hl1
      obtain ⟨q, hq⟩ : ∃ q, p.length = q := ⟨_, rfl⟩
      have hx := HX.out
      have hcv := HCV.out
      rw [hq] at hx hcv
      have HX2 := Aside0.mk hx
      have HCV2 := Aside0.mk hcv
      clear hx hcv HX HCV hq
      go_upto_region 6 with fail
      refine wp_mono (Q := fun e a w => e = .normal ∧ _) ?_ (fun e a w h => h.2)
      refine start_ (n := 10) (S := fun w' => w'.cell? (ad0.add j) = some (.slice Ai q ci) ∧ w'.cell? (ad1.add j) = some (.string k) ∧ (convert 22 9 (.slice Ai q ci)).run Tryz.prog w' = .ok (.string (strOfNums p)) w') (ds := []) #[ff,ff,ff,ff,ff,ff,ff,ff,ff,ff] (by kernel_rfl) rfl rfl ⟨HX2.out.1, HX2.out.2, HCV2.out⟩ (fun hHeld => ?_)
      refine with_tabW q13.tab6 q13.bits6 (fun HT_ HW_ => ?_)
      refine pure_ (i := 0) (N := some 16) (v := ?_) (a' := ?_) #[tt,ff,ff,ff,ff,ff,ff,ff,ff,ff] rfl rfl (any_of HT_.out (by kernel_rfl)) (fun _ _ _ h => nomatch h.1) (Or.inl ⟨by rfl, ?_⟩) ?_ ?_
      rotate_left
      · intro w'
        go_simp
        with_reducible rfl
      rotate_left
      · simp only [Act.put, sA, sB, sC, i64_w, i32_w]
        rfl
      refine pure_ (i := 1) (N := some 17) (v := ?_) (a' := ?_) #[tt,tt,ff,ff,ff,ff,ff,ff,ff,ff] rfl rfl (any_of HT_.out (by kernel_rfl)) (fun _ _ _ h => nomatch h.1) (Or.inl ⟨by rfl, ?_⟩) ?_ ?_
      rotate_left
      · intro w'
        go_simp
        with_reducible rfl
      rotate_left
      · simp only [Act.put, sA, sB, sC, i64_w, i32_w]
        rfl
      refine pure_ (i := 2) (N := some 18) (v := ?_) (a' := ?_) #[tt,tt,tt,ff,ff,ff,ff,ff,ff,ff] rfl rfl (any_of HT_.out (by kernel_rfl)) (fun _ _ _ h => nomatch h.1) (Or.inl ⟨by rfl, ?_⟩) ?_ ?_
      rotate_left
      · intro w'
        go_simp
        with_reducible rfl
      rotate_left
      · simp only [Act.put, sA, sB, sC, i64_w, i32_w]
        rfl
      refine pure_ (i := 5) (N := some 21) (v := ?_) (a' := ?_) #[tt,tt,tt,ff,ff,tt,ff,ff,ff,ff] rfl rfl (any_of HT_.out (by kernel_rfl)) (fun _ _ _ h => nomatch h.1) (Or.inl ⟨by rfl, ?_⟩) ?_ ?_
      rotate_left
      · intro w'
        go_simp
        with_reducible rfl
      rotate_left
      · simp only [Act.put, sA, sB, sC, i64_w, i32_w]
        rfl
      refine pure_ (i := 6) (N := some 22) (v := ?_) (a' := ?_) #[tt,tt,tt,ff,ff,tt,tt,ff,ff,ff] rfl rfl (any_of HT_.out (by kernel_rfl)) (fun _ _ _ h => nomatch h.1) (Or.inl ⟨by rfl, ?_⟩) ?_ ?_
      rotate_left
      · intro w'
        go_simp
        with_reducible rfl
      rotate_left
      · simp only [Act.put, sA, sB, sC, i64_w, i32_w]
        rfl
      refine pure_ (i := 7) (N := some 23) (v := ?_) (a' := ?_) #[tt,tt,tt,ff,ff,tt,tt,tt,ff,ff] rfl rfl (any_of HT_.out (by kernel_rfl)) (fun _ _ _ h => nomatch h.1) (Or.inl ⟨by rfl, ?_⟩) ?_ ?_
      rotate_left
      · intro w'
        go_simp
        with_reducible rfl
      rotate_left
      · simp only [Act.put, sA, sB, sC, i64_w, i32_w]
        rfl
      refine take_ (i := 3) (N := some 19) (v := ?_) (a' := ?_) #[tt,tt,tt,tt,ff,tt,tt,tt,ff,ff] rfl rfl (take_ofW HT_.out HW_.out (by kernel_rfl)) (fun _ _ _ h => nomatch h.1) (Or.inl ⟨by rfl, ?_⟩) hHeld ?_ ?_
      rotate_left
      · rintro w' ⟨s0, s1, s2⟩
        go_simp
        with_reducible rfl
      rotate_left
      · simp only [Act.put, sA, sB, sC, i64_w, i32_w]
        rfl
      refine take_ (i := 4) (N := some 20) (v := ?_) (a' := ?_) #[tt,tt,tt,tt,tt,tt,tt,tt,ff,ff] rfl rfl (take_ofW HT_.out HW_.out (by kernel_rfl)) (fun _ _ _ h => nomatch h.1) (Or.inl ⟨by rfl, ?_⟩) hHeld ?_ ?_
      rotate_left
      · rintro w' ⟨s0, s1, s2⟩
        go_simp
        with_reducible rfl
      rotate_left
      · simp only [Act.put, sA, sB, sC, i64_w, i32_w]
        rfl
      refine take_ (i := 8) (N := some 24) (v := ?_) (a' := ?_) #[tt,tt,tt,tt,tt,tt,tt,tt,tt,ff] rfl rfl (take_ofW HT_.out HW_.out (by kernel_rfl)) (fun _ _ _ h => nomatch h.1) (Or.inl ⟨by rfl, ?_⟩) hHeld ?_ ?_
      rotate_left
      · rintro w' ⟨s0, s1, s2⟩
        go_simp
        with_reducible rfl
      rotate_left
      · simp only [Act.put, sA, sB, sC, i64_w, i32_w]
        rfl
      refine pure_ (i := 9) (N := some 25) (v := ?_) (a' := ?_) #[tt,tt,tt,tt,tt,tt,tt,tt,tt,tt] rfl rfl (any_of HT_.out (by kernel_rfl)) (fun _ _ _ h => nomatch h.1) (Or.inl ⟨by rfl, ?_⟩) ?_ ?_
      rotate_left
      · intro w'
        go_simp
        with_reducible rfl
      rotate_left
      · simp only [Act.put, sA, sB, sC, i64_w, i32_w]
        rfl
      refine done_ (done_of HT_.out (by kernel_rfl)) ?_
      refine ⟨rfl, ?_⟩
      clear hHeld HT_ HW_
      clear HX2 HCV2
      obtain ⟨bx, hbx⟩ : ∃ bx, (!((strOfNums p).toList == k.toList)) = bx := ⟨_, rfl⟩
      rw [hbx]
      have HBX := Aside0.mk hbx
      clear hbx
      have HBD := Aside0.mk (below_drew1 HBW.out)
      have HJ1 := Aside0.mk (show -9223372036854775808 ≤ (j : Int) + 1 ∧ (j : Int) + 1 ≤ 9223372036854775807 by have := HMX.out; omega)
      by_cases hk : strOfNums p = k
      · have hbn : bx = false := by rw [← HBX.out, hk]; simp
        subst hbn
        have HJ := Aside0.mk (show j + 1 ≤ n by omega)
        have HPP := Aside0.mk (show (l0.take (j + 1)).map strOfNums = l1.take (j + 1) by rw [HT.out.1, HT.out.2, List.map_append, HP.out, List.map_cons, List.map_nil, hk])
        have HJ0 := Aside0.mk hlt
        have hwn : wrap64 ((j : Int) + 1) = (j : Int) + 1 := wrap_in HJ1.out.1 HJ1.out.2
        clear hlt hk
        go_wp2_with fail
        go_roundw
        case rel => exact ⟨j + 1, by rw [hwn]; rfl, HJ.out, HPP.out, HBD.out⟩
        case measure =>
          have hw2 : wrap64 ((j : Int) + ((1 : Nat) : Int)) = ((j + 1 : Nat) : Int) := by rw [show ((1 : Nat) : Int) = 1 from rfl, hwn]; rfl
          exact ms_lt n j 1 (by have := HJ0.out; clear hwn hw2; omega) hw2
      · have hbn : bx = true := by
          rw [← HBX.out, Bool.not_eq_true', beq_eq_false_iff_ne]
          intro e
          exact hk (ba_inj e)
        subst hbn
        have HF := Aside0.mk (HNE.out hk)
        clear hk
        go_wp2_with fail
        exact bodyPost_ret (v := .bool false) (by simp [results, Tryz.results13, go_sem]) rfl ⟨by rw [HF.out], HBD.out⟩
    · obtain rfl : j = n := by omega
      have HT := Aside0.mk (show b = true by
        rw [← HB.out]
        refine decide_eq_true ?_
        have := HP.out
        rwa [List.take_of_length_le (by have := HN.out.1; omega), List.take_of_length_le (by have := HN.out.2; omega)] at this)
      clear hp hb
      go_wp2_with fail
      exact bodyPost_ret (v := .bool true) (by simp [results, Tryz.results13, go_sem]) rfl ⟨by rw [HT.out], HBW.out⟩
set_option maxRecDepth 100000 in
set_option maxHeartbeats 1600000 in
theorem same_calls (w : World) (A0 : Option Addr) (c0 : Nat) (l0 : List (List Int)) (A1 : Option Addr) (c1 : Nat) (l1 : List ByteArray) (h0 : Kd.C KBs w A0 l0.length l0) (h1 : Kd.C Kd.string w A1 l1.length l1) :
    Calls Tryz.prog 13 #[.slice A0 l0.length c0, .slice A1 l1.length c1] w fun e w' => e = .returned (.bool (decide (l0.map strOfNums = l1))) ∧ Below w.heap.size w w' := by
  by_cases he : l0.length = l1.length
  · exact same_eq w A0 c0 l0 A1 c1 l1 h0 h1 he
  · have hd : decide (l0.map strOfNums = l1) = false := decide_eq_false (fun e => he (by rw [← e, List.length_map]))
    rw [hd]
    have hne : ((l0.length : Int) != (l1.length : Int)) = true := by simp only [bne_iff_ne, ne_eq]; omega
    generalize l0.length = n0 at hne
    generalize l1.length = n1 at hne
    clear h0 h1 he hd
    go_enter Tryz.func13, Tryz.ntmps13
    go_wp2_with fail
    exact bodyPost_ret (v := .bool false) (by simp [results, Tryz.results13, go_sem]) rfl ⟨rfl, Below.refl _ _⟩
end Go.Proofs.YtdooajmgfoobfaaGreatDoor.H

