/- A reel's disk, plainly: a record is put behind. -/
import Derived.Test.YtdooajmgfoobfaaGreatDoorRpB
namespace Go.Proofs.YtdooajmgfoobfaaGreatDoor.H
open Go.RowKit Go.Shelf Go.Proofs.YtdooajmgfoobfaaGreatDoor.PA Go.Proofs.YtdooajmgfoobfaaGreatDoorW.PrintWords Go.Proofs.YtdooajmgfoobfaaGreatDoorW.PrintLast Go.Proofs.YtdooajmgfoobfaaGreatDoorW.PrintMore
set_option linter.unusedVariables false
set_option linter.unusedSimpArgs false
section
variable {D E D' D1 D2 : Dk} {first : Nat} {img : List Int} {pss : List Sg} {B : Nat} {roll : Int}
theorem Neat.same (h : Neat D first img pss B) (e : ∀ k, lk k D'.L = lk k D.L) : Neat D' first img pss B :=
  ⟨h.r.same e, h.whole, fun k f hk => h.safe k f (by rw [← e]; exact hk), fun k f hk => h.only k f (by rw [← e]; exact hk)⟩
def Only (D : Dk) (first : Nat) (pss : List Sg) : Prop := ∀ k f, lk k D.L = some f → k = markK ∨ ∃ n, first ≤ n ∧ n < first + pss.length ∧ k = segK n
theorem last_got {init : List Sg} {x : Sg} (h : Rec D first img (init ++ [x]) B) : ∃ f, lk (segK (first + init.length)) D.L = some f ∧ f.b = x.bytes :=
  h.segs.got init.length x.bytes (by simp)
/-- The last segment, without what is torn, all safe. -/
theorem last_put {init : List Sg} {x : Sg} (h : Rec D first img (init ++ [x]) B) (hs : AllSafe D) (ho : Only D first (init ++ [x])) (hr : Rise D.L) (hL : D2.L = D.L) :
    Neat (D2.put (segK (first + init.length)) ⟨framesB x.1, (framesB x.1).length⟩) first img (strip (init ++ [x])) B := by
  have hv : ∀ k', lk k' (D2.put (segK (first + init.length)) ⟨framesB x.1, (framesB x.1).length⟩).L = if k' = segK (first + init.length) then some ⟨framesB x.1, (framesB x.1).length⟩ else lk k' D.L := fun k' => by rw [Dk.put_lk (by rw [hL]; exact hr), hL]
  have hlt := seg_lt h
  rw [List.length_append, List.length_singleton] at hlt
  obtain ⟨f0, hf0, _⟩ := last_got h
  have hold : ∀ k f, lk k (D2.put (segK (first + init.length)) ⟨framesB x.1, (framesB x.1).length⟩).L = some f → ∃ f', lk k D.L = some f' := fun k f hk => by
    rw [hv] at hk
    by_cases e : k = segK (first + init.length)
    · subst e
      exact ⟨_, hf0⟩
    · rw [if_neg e] at hk
      exact ⟨_, hk⟩
  refine ⟨h.cut (by rw [hv, if_neg seg_ne_mark.symm]) rfl (fun n h1 h2 h3 => ?_) (by rw [hv, if_pos rfl]) rfl (fun k f hk => .inl (hold k f hk)), fun y hy => ?_, fun k f hk => ?_, fun k f hk => ?_⟩
  · rw [List.length_append, List.length_singleton] at h2
    rw [hv, if_neg (fun e => h3 (seg_inj (by omega) (by omega) e))]
  · obtain ⟨z, _, rfl⟩ := List.mem_map.1 hy
    rfl
  · rw [hv] at hk
    by_cases e : k = segK (first + init.length)
    · rw [if_pos e] at hk
      cases hk
      rfl
    · rw [if_neg e] at hk
      exact hs k f hk
  · obtain ⟨f', hf'⟩ := hold k f hk
    have := ho k f' hf'
    simpa [strip] using this
theorem sync_some {k : ByteArray} {f : Fl} (hk : lk k D.L = some f) (hs : D.step = some D1) : D.sync k = (D1.put k ⟨f.b, f.b.length⟩, 0) := by unfold Dk.sync; rw [hk, hs]
theorem sync_none {k : ByteArray} {f : Fl} (hk : lk k D.L = some f) (hs : D.step = none) : D.sync k = (D, 23) := by unfold Dk.sync; rw [hk, hs]
theorem cut_some {k : ByteArray} {f : Fl} {n : Int} (hk : lk k D.L = some f) (hn : ¬ (n < 0 ∨ n > f.b.length)) (hs : D.step = some D1) : D.cut k n = (D1.put k ⟨f.b.take n.toNat, min f.s n⟩, 0) := by unfold Dk.cut; rw [hk]; simp only; rw [if_neg hn, hs]
theorem cut_none {k : ByteArray} {f : Fl} {n : Int} (hk : lk k D.L = some f) (hn : ¬ (n < 0 ∨ n > f.b.length)) (hs : D.step = none) : D.cut k n = (D, 23) := by unfold Dk.cut; rw [hk]; simp only; rw [if_neg hn, hs]
/-- How opening's cleaning ends. -/
structure ClP (D : Dk) (first : Nat) (img : List Int) (pss : List Sg) (B : Nat) (r : Dk × Int) : Prop where
  out : (r.2 = 0 ∧ Neat r.1 first img (strip pss) B) ∨ (r.2 = 23 ∧ AllSafe r.1 ∧ ∃ pss', Rec r.1 first img pss' B ∧ recL pss' = recL pss)
  fz : Fz D 2 → r.2 = 0
  lim : r.1.lim = D.lim
theorem clean2_plain (h : Rec D first img pss B) (hs : AllSafe D) (ho : Only D first pss) (hr : Rise D.L) : ClP D first img pss B (rclean2 (openM roll first pss) D) := by
  have hlt := seg_lt h
  have hf1 := h.mok.f1
  rcases List.eq_nil_or_concat pss with rfl | ⟨init, x, hp⟩
  · have hz : segZ (openM roll first []).last = segK (first - 1) := by
      unfold segZ
      rw [openM_nil]
      exact congrArg segK (by show ((first : Int) - 1).toNat = _; omega)
    have hn : lk (segK (first - 1)) D.L = none := by
      cases e : lk (segK (first - 1)) D.L with
      | none => rfl
      | some f =>
        rcases ho _ f e with e2 | ⟨n, a, b, c⟩
        · exact absurd e2 seg_ne_mark
        · simp at b
          omega
    unfold rclean2
    rw [hz, hn]
    exact ⟨.inl ⟨rfl, h, fun x hx => by simp [strip] at hx, hs, ho⟩, fun _ => rfl, rfl⟩
  · rw [List.concat_eq_append] at hp
    subst hp
    obtain ⟨f, hf, hfb⟩ := last_got h
    have hl : (init ++ [x]).length = init.length + 1 := by simp
    have hz : segZ (openM roll first (init ++ [x])).last = segK (first + init.length) := by
      unfold segZ
      rw [(openM_last _ _ _).1, hl]
      exact congrArg segK (by push_cast; omega)
    have ht := openM_tail roll first init x
    have hlen : f.b.length = (framesB x.1).length + x.2.length := by rw [hfb]; unfold Sg.bytes; rw [List.length_append]
    have hput := fun D2 hL => last_put (D2 := D2) h hs ho hr hL
    have hstr : recL (strip (init ++ [x])) = recL (init ++ [x]) := strip_recL _
    unfold rclean2
    rw [hz, hf, ht]
    simp only
    by_cases hgt : (f.b.length : Int) > (framesB x.1).length
    · rw [if_pos hgt]
      have hcn : ¬ (((framesB x.1).length : Int) < 0 ∨ ((framesB x.1).length : Int) > f.b.length) := by omega
      cases hst : D.step with
      | none =>
        rw [cut_none hf hcn hst]
        exact ⟨.inr ⟨rfl, hs, _, h, rfl⟩, fun hz => absurd hz ((step_none hst).2 1), rfl⟩
      | some D2 =>
        obtain ⟨e1, e2, _, e4⟩ := step_some hst
        have hfe : (⟨f.b.take ((framesB x.1).length : Int).toNat, min f.s (framesB x.1).length⟩ : Fl) = ⟨framesB x.1, (framesB x.1).length⟩ := by
          rw [hfb, hs _ f hf, Int.toNat_natCast]
          unfold Sg.bytes
          rw [List.take_left]
          congr 1
          omega
        rw [cut_some hf hcn hst, hfe]
        simp only [if_true]
        have hN := hput D2 e1
        have hr3 : Rise (D2.put (segK (first + init.length)) ⟨framesB x.1, (framesB x.1).length⟩).L := rise_ins (by rw [e1]; exact hr)
        have hk3 : lk (segK (first + init.length)) (D2.put (segK (first + init.length)) ⟨framesB x.1, (framesB x.1).length⟩).L = some ⟨framesB x.1, (framesB x.1).length⟩ := by rw [Dk.put_lk (by rw [e1]; exact hr), if_pos rfl]
        have hl3 : (D2.put (segK (first + init.length)) ⟨framesB x.1, (framesB x.1).length⟩).lim = D.lim := e2
        have hz3 : Fz D 2 → Fz (D2.put (segK (first + init.length)) ⟨framesB x.1, (framesB x.1).length⟩) 1 := fun hz => e4 1 hz
        generalize D2.put (segK (first + init.length)) ⟨framesB x.1, (framesB x.1).length⟩ = D3 at hN hr3 hk3 hz3 hl3 ⊢
        cases hst3 : D3.step with
        | none =>
          rw [sync_none hk3 hst3]
          exact ⟨.inr ⟨rfl, hN.safe, _, hN.r, hstr⟩, fun hz => absurd (hz3 hz) ((step_none hst3).2 0), hl3⟩
        | some D4 =>
          obtain ⟨g1, g2, _, g4⟩ := step_some hst3
          rw [sync_some hk3 hst3]
          refine ⟨.inl ⟨rfl, hN.same fun k => ?_⟩, fun _ => rfl, g2.trans hl3⟩
          rw [Dk.put_lk (by rw [g1]; exact hr3), g1]
          split
          · rename_i e
            rw [e, hk3]
          · rfl
    · rw [if_neg hgt]
      have hx : x.2 = [] := List.eq_nil_of_length_eq_zero (by omega)
      have hfb2 : f.b = framesB x.1 := by rw [hfb]; unfold Sg.bytes; rw [hx, List.append_nil]
      cases hst : D.step with
      | none =>
        rw [sync_none hf hst]
        exact ⟨.inr ⟨rfl, hs, _, h, rfl⟩, fun hz => absurd hz ((step_none hst).2 1), rfl⟩
      | some D2 =>
        obtain ⟨e1, e2, _, e4⟩ := step_some hst
        rw [sync_some hf hst, hfb2]
        exact ⟨.inl ⟨rfl, hput D2 e1⟩, fun _ => rfl, e2⟩
/-- Opening cleans. -/
structure CleanP (D : Dk) (first : Nat) (img : List Int) (pss : List Sg) (B : Nat) (r : Dk × Int) : Prop where
  out : (r.2 = 0 ∧ Neat r.1 first img (strip pss) B) ∨ (r.2 = 23 ∧ AllSafe r.1 ∧ ∃ pss', Rec r.1 first img pss' B ∧ recL pss' = recL pss)
  fz : Fz D 18 → r.2 = 0
  lim : r.1.lim = D.lim
theorem clean_plain (h : Rec D first img pss B) (hs : AllSafe D) (ok : DkOk D) : CleanP D first img pss B (rclean (openM roll first pss) D) := by
  obtain ⟨m, hm⟩ : ∃ m, openM roll first pss = m := ⟨_, rfl⟩
  rw [hm]
  have hol : (overL m D.L).length ≤ 16 := Nat.le_trans (overL_len m D.L) ok.few
  have hd := drops_plain (overL m D.L) D ok.rise (fun k hk => (over_mem.1 hk).1) ((rise_nodup ok.rise).sublist List.filter_sublist)
  have hmem : ∀ {k : ByteArray}, k ∈ overL m D.L ↔ lk k D.L ≠ none ∧ overP m k = true := over_mem
  unfold rclean
  generalize overL m D.L = ol at hol hd hmem ⊢
  generalize cleanDrops D ol = r1 at hd ⊢
  obtain ⟨h1, h2, h3, h4, ⟨j, h5, h6⟩, h7⟩ := hd
  have keep : ∀ k, overP m k = false → lk k r1.1.L = lk k D.L := fun k hk => (h5 k).2 (fun e => by
    have := (hmem.1 (List.mem_of_mem_take e)).2
    rw [hk] at this
    cases this)
  have old : ∀ k f, lk k r1.1.L = some f → lk k D.L = some f := fun k f hk => by
    by_cases e : k ∈ ol.take j
    · rw [(h5 k).1 e] at hk
      cases hk
    · rw [← (h5 k).2 e]
      exact hk
  have hR1 : Rec r1.1 first img pss B := by
    refine h.view (keep _ (by rw [← hm]; exact over_no_mark h)) (fun n a b => ?_) (fun k f hk => .inl ⟨f, old k f hk⟩)
    rcases Nat.lt_or_ge n (first + pss.length) with hn | hn
    · exact keep _ (by rw [← hm]; exact over_no_seg h a hn)
    · obtain rfl : n = first + pss.length := by omega
      have hst := h.segs.stop
      rw [List.length_map] at hst
      rw [hst]
      cases e : lk (segK (first + pss.length)) r1.1.L with
      | none => rfl
      | some f =>
        rw [old _ _ e] at hst
        cases hst
  have hS1 : AllSafe r1.1 := fun k f hk => hs k f (old k f hk)
  by_cases h0 : r1.2 = 0
  · rw [if_pos h0]
    have hO : Only r1.1 first pss := fun k f hk => by
      have ho := old k f hk
      refine not_over (roll := roll) h ho ?_
      cases e : overP (openM roll first pss) k with
      | false => rfl
      | true =>
        rw [hm] at e
        have hin : k ∈ ol := hmem.2 ⟨by rw [ho]; simp, e⟩
        rw [(h5 k).1 (by rw [h6 h0, List.take_length]; exact hin)] at hk
        cases hk
    rw [← hm]
    have hc := clean2_plain (roll := roll) hR1 hS1 hO h2
    refine ⟨hc.out, fun hz => hc.fz ?_, hc.lim.trans h3⟩
    exact (h7 2 (fun hf => by have := hz hf; omega)).2
  · rw [if_neg h0]
    exact ⟨.inr ⟨h1.resolve_left h0, hS1, pss, hR1, rfl⟩, fun hz => (h7 0 (fun hf => by have := hz hf; omega)).1, h3⟩
end
end Go.Proofs.YtdooajmgfoobfaaGreatDoor.H
namespace Go.Proofs.YtdooajmgfoobfaaGreatDoor.H
open Go.RowKit Go.Shelf Go.Proofs.YtdooajmgfoobfaaGreatDoor.PA Go.Proofs.YtdooajmgfoobfaaGreatDoorW.PrintWords Go.Proofs.YtdooajmgfoobfaaGreatDoorW.PrintLast Go.Proofs.YtdooajmgfoobfaaGreatDoorW.PrintMore
set_option linter.unusedVariables false
set_option linter.unusedSimpArgs false
theorem frameB_ge (p : List Int) : p.length ≤ (frameB p).length := by
  unfold frameB textP
  simp only [List.length_append]
  omega
theorem framesB_mem {p : List Int} : ∀ {l : List (List Int)}, p ∈ l → p.length ≤ (framesB l).length
  | a :: l, h => by
    rw [framesB_cons, List.length_append]
    rcases List.mem_cons.1 h with rfl | h
    · have := frameB_ge p
      omega
    · have := framesB_mem h
      omega
section
variable {D E D' D1 D2 : Dk} {first : Nat} {img : List Int} {pss pre : List Sg} {g : List (List Int)} {B : Nat} {roll : Int}
/-- The place where a record comes: behind pre, in a segment that has g. -/
structure Place (D : Dk) (first : Nat) (pss pre : List Sg) (g : List (List Int)) : Prop where
  at_ : (pss = pre ∧ g = []) ∨ pss = pre ++ [(g, [])]
  lk_ : Fl.orNone (lk (segK (first + pre.length)) D.L) = ⟨framesB g, (framesB g).length⟩
theorem Place.recL (h : Place D first pss pre g) : recL pss = recL pre ++ g := by
  rcases h.at_ with ⟨rfl, rfl⟩ | rfl
  · simp
  · rw [recL_snoc]
theorem Place.len (h : Place D first pss pre g) : pre.length ≤ pss.length ∧ pss.length ≤ pre.length + 1 := by
  rcases h.at_ with ⟨rfl, rfl⟩ | rfl <;> simp
/-- Such a segment, with what is behind it. -/
theorem Rec.tailed {pre : List Sg} {g g' : List (List Int)} {t : List Int} {f : Fl} (h : Neat D first img pss B) (hp : Place D first pss pre g) (hB : B < 98) (hv : ∀ k, k ≠ segK (first + pre.length) → lk k D'.L = lk k D.L)
    (hk : lk (segK (first + pre.length)) D'.L = some f) (hb : f.b = framesB g' ++ t) (ht : Torn t) (hu : ∀ y ∈ f.b, 0 ≤ y ∧ y ≤ 255) (hl : f.b.length ≤ 100000) : Rec D' first img (pre ++ [(g', t)]) (B + 1) := by
  have hpl := hp.len
  have hlt := h.r.lt
  have hf1 := h.r.mok.f1
  have hsok : SgsOk pre := by
    have := h.r.sok
    rcases hp.at_ with ⟨rfl, _⟩ | rfl
    · exact this
    · exact { short := fun x hx => this.short x (List.mem_append_left _ hx), torn := fun x hx => this.torn x (List.mem_append_left _ hx), whole := fun i x hi hn => by
                have h1 : i < pre.length := by omega
                exact this.whole i x (by rw [List.getElem?_append_left h1]; exact hi) (by simp; omega)
              u8 := fun x hx => this.u8 x (List.mem_append_left _ hx), len := fun x hx => this.len x (List.mem_append_left _ hx), few := by have := this.few; simp at this; omega }
  have hwh : ∀ x ∈ pre, x.2 = [] := fun x hx => h.whole x (by rcases hp.at_ with ⟨rfl, _⟩ | rfl; exact hx; exact List.mem_append_left _ hx)
  have hgot : ∀ (i : Nat) (y : Sg), pre[i]? = some y → ∃ f, lk (segK (first + i)) D.L = some f ∧ f.b = y.bytes := fun i y hi => by
    have h1 := (List.getElem?_eq_some_iff.1 hi).1
    refine h.r.segs.got i y.bytes ?_
    rw [List.getElem?_map]
    rcases hp.at_ with ⟨rfl, _⟩ | rfl
    · rw [hi]; rfl
    · rw [List.getElem?_append_left h1, hi]; rfl
  have hstop : lk (segK (first + pre.length + 1)) D.L = none := by
    cases e : lk (segK (first + pre.length + 1)) D.L with
    | none => rfl
    | some f' =>
      rcases h.only _ f' e with e2 | ⟨n, a, b, c⟩
      · exact absurd e2 seg_ne_mark
      · have := seg_inj (by omega) (by omega) c
        omega
  refine ⟨?_, h.r.mok, ⟨fun i b hi => ?_, ?_⟩, ?_, ?_, fun k f' hk' => ?_, by omega⟩
  · have := h.r.mark
    unfold MarkIs at this ⊢
    rw [hv _ seg_ne_mark.symm]
    exact this
  · rw [List.getElem?_map] at hi
    obtain ⟨y, hy, rfl⟩ := Option.map_eq_some_iff.1 hi
    have hi2 := (List.getElem?_eq_some_iff.1 hy).1
    rw [List.length_append, List.length_singleton] at hi2
    rcases Nat.lt_or_ge i pre.length with hlti | hge
    · rw [List.getElem?_append_left hlti] at hy
      rw [hv _ (fun e => by have := seg_inj (by omega) (by omega) e; omega)]
      exact hgot i y hy
    · obtain rfl : i = pre.length := by omega
      rw [List.getElem?_concat_length] at hy
      cases hy
      exact ⟨f, hk, hb⟩
  · rw [List.length_map, List.length_append, List.length_singleton, ← Nat.add_assoc, hv _ (fun e => by have := seg_inj (by omega) (by omega) e; omega)]
    exact hstop
  · have hbl : (framesB g').length ≤ 100000 := by rw [hb, List.length_append] at hl; omega
    refine ⟨fun x hx => ?_, fun x hx => ?_, fun i x hi hn => ?_, fun x hx => ?_, fun x hx => ?_, ?_⟩
    · rcases List.mem_append.1 hx with hx | hx
      · exact hsok.short x hx
      · rw [List.mem_singleton.1 hx]
        intro p hpm
        have : p.length ≤ (framesB g').length := framesB_mem hpm
        omega
    · rcases List.mem_append.1 hx with hx | hx
      · exact hsok.torn x hx
      · rw [List.mem_singleton.1 hx]
        exact ht
    · rw [List.length_append, List.length_singleton] at hn
      have h1 : i < pre.length := by omega
      rw [List.getElem?_append_left h1] at hi
      exact hwh x (List.mem_of_getElem? hi)
    · rcases List.mem_append.1 hx with hx | hx
      · exact hsok.u8 x hx
      · rw [List.mem_singleton.1 hx]
        unfold Sg.bytes
        rw [← hb]
        exact hu
    · rcases List.mem_append.1 hx with hx | hx
      · exact hsok.len x hx
      · rw [List.mem_singleton.1 hx]
        unfold Sg.bytes
        rw [← hb]
        exact hl
    · rw [List.length_append, List.length_singleton]
      omega
  · rw [List.length_append, List.length_singleton]
    omega
  · by_cases e : k = segK (first + pre.length)
    · exact .inr (.inr ⟨first + pre.length, by omega, by omega, e⟩)
    · rw [hv _ e] at hk'
      exact (h.r.names k f' hk').imp id (fun h => h.imp id (fun ⟨n, a, b, c⟩ => ⟨n, a, by omega, c⟩))
theorem stopped_at (h : Stopped D E) (k : ByteArray) (hs : ∀ f, lk k D.L = some f → f.s = f.b.length) : lk k E.L = lk k D.L := by
  rcases h.2.2.2.lk k with ⟨h1, h2⟩ | ⟨⟨b, s⟩, ⟨b2, s2⟩, h1, h2, h3⟩
  · rw [h1, h2]
  · have hf := hs _ h1
    obtain ⟨l1, l2, l3⟩ := h3
    simp only at hf l1 l2 l3
    have e : s2 = b.length := by omega
    subst e
    rw [Int.toNat_natCast, List.take_length] at l3
    rw [h1, h2, l3, hf]
theorem stopped_part (h : Stopped D E) {k : ByteArray} {f : Fl} (hk : lk k D.L = some f) : ∃ g, lk k E.L = some g ∧ Left f g := by
  rcases h.2.2.2.lk k with ⟨h1, h2⟩ | ⟨f', g, h1, h2, h3⟩
  · rw [hk] at h1
    cases h1
  · rw [hk] at h1
    cases h1
    exact ⟨g, h2, h3⟩
/-- The place is found. -/
theorem place_plain (h : Neat D first img pss B) (fl : Int) : ∃ pre g, Place D first pss pre g ∧ (openM roll first pss).place fl = (((first + pre.length : Nat) : Int), ((framesB g).length : Int)) := by
  obtain ⟨e1, e2, e3, _⟩ := openM_last roll first pss
  have hst : ∀ n, n = pss.length → Fl.orNone (lk (segK (first + n)) D.L) = ⟨framesB [], (framesB []).length⟩ := fun n hn => by
    have := h.r.segs.stop
    rw [List.length_map, ← hn] at this
    rw [this]
    rfl
  rcases List.eq_nil_or_concat pss with rfl | ⟨init, x, hp⟩
  · refine ⟨[], [], ⟨.inl ⟨rfl, rfl⟩, hst 0 rfl⟩, ?_⟩
    unfold Rl.place
    rw [openM_nil]
    simp only
    rw [if_pos (.inl (by omega))]
    simp [framesB]
  · rw [List.concat_eq_append] at hp
    have hl : pss.length = init.length + 1 := by rw [hp]; simp
    have ht : (openM roll first pss).tail = (framesB x.1).length := by rw [hp]; exact openM_tail _ _ _ _
    have hx : x.2 = [] := h.whole x (by rw [hp]; simp)
    unfold Rl.place
    rw [e1, e2, e3, ht]
    by_cases hc : (first : Int) - 1 + pss.length < first ∨ (((framesB x.1).length : Int) > 0 ∧ fl > roll - (framesB x.1).length)
    · rw [if_pos hc]
      refine ⟨pss, [], ⟨.inl ⟨rfl, rfl⟩, hst _ rfl⟩, ?_⟩
      simp only [framesB, List.flatMap_nil, List.length_nil, Prod.mk.injEq]
      exact ⟨by push_cast; omega, by trivial⟩
    · rw [if_neg hc]
      have hpx : pss = init ++ [(x.1, [])] := by rw [hp, ← hx]
      obtain ⟨f, hf, hfb⟩ := last_got (x := x) (init := init) (by rw [← hp]; exact h.r)
      have hfs := h.safe _ f hf
      refine ⟨init, x.1, ⟨.inr hpx, ?_⟩, ?_⟩
      · rw [hf]
        show f = _
        have hb : f.b = framesB x.1 := by rw [hfb]; unfold Sg.bytes; rw [hx, List.append_nil]
        rw [← hb, ← hfs]
      · simp only [Prod.mk.injEq]
        exact ⟨by push_cast; omega, by trivial⟩
/-- How a record's Append ends. -/
structure AppP (D : Dk) (first : Nat) (img : List Int) (pss : List Sg) (B : Nat) (roll : Int) (b : List Int) (r : (Rl × Dk) × Int) : Prop where
  out : (r.2 = 0 ∧ ∃ pss', r.1.1 = openM roll first pss' ∧ Neat r.1.2 first img pss' (B + 1) ∧ recL pss' = recL pss ++ [b] ∧ pss'.length ≤ pss.length + 1 ∧ (openM roll first pss').size = (openM roll first pss).size + (frameB b).length) ∨
    (r.2 = 3 ∧ r.1 = (openM roll first pss, D)) ∨ (r.2 = 23 ∧ r.1.1 = (openM roll first pss).note 23 ∧ Crash r.1.2 (B + 1) (fun i l => i = img ∧ (l = recL pss ∨ l = recL pss ++ [b])))
  lim : r.1.2.lim = D.lim
  fu : r.1.2.fused = D.fused
  up : D.fused = false → r.2 ≠ 23
  full : ((frameB b).length : Int) ≤ D.lim - usedL D.L → D.L.length < 16 → r.2 ≠ 3
theorem note_three (roll : Int) (first : Nat) (pss : List Sg) : (openM roll first pss).note 3 = openM roll first pss := by
  unfold Rl.note
  have h := (openM_last roll first pss).2.2.2
  generalize openM roll first pss = m at h
  obtain ⟨a, b, c, d, e, f⟩ := m
  simp only at h
  subst h
  rfl
theorem note_down (m : Rl) : (m.note 23).down = true := by unfold Rl.note; simp
theorem place_M (hp : Place D first pss pre g) {b : List Int} : openM roll first (pre ++ [(g ++ [b], [])]) = { openM roll first pss with last := ((first + pre.length : Nat) : Int), tail := ((framesB g).length : Int) + (frameB b).length, size := (openM roll first pss).size + (frameB b).length } := by
  rcases hp.at_ with ⟨rfl, rfl⟩ | rfl
  · rw [openM_snoc]
    obtain ⟨q1, _, _, _⟩ := openM_last roll first pss
    generalize openM roll first pss = m at q1 ⊢
    obtain ⟨m1, m2, m3, m4, m5, m6⟩ := m
    simp only at q1
    have e : framesB ([] ++ [b]) = frameB b := by simp [framesB]
    simp only [e, Rl.mk.injEq, true_and, and_true]
    refine ⟨by push_cast; omega, ?_⟩
    simp [framesB]
  · rw [openM_snoc, openM_snoc]
    obtain ⟨q1, _, _, _⟩ := openM_last roll first pre
    generalize openM roll first pre = m at q1 ⊢
    obtain ⟨m1, m2, m3, m4, m5, m6⟩ := m
    simp only at q1
    simp only [framesB_snoc, List.length_append, Rl.mk.injEq, true_and, and_true]
    push_cast
    omega
theorem append_plain (h : Neat D first img pss B) (ok : DkOk D) (hlim : D.lim ≤ 100000) (hB : B < 98) (b : List Int) (hu : ∀ x ∈ b, 0 ≤ x ∧ x ≤ 255) (hbl : b.length ≤ 1000) : AppP D first img pss B roll b (rappend (openM roll first pss) D b) := by
  obtain ⟨pre, g, hp, hpl⟩ := place_plain (roll := roll) h ((frameB b).length : Int)
  have hlt := h.r.lt
  have hpn := hp.len
  unfold rappend
  rw [if_neg (by omega), if_neg (by rw [(openM_last roll first pss).2.2.2]; simp), hpl]
  simp only
  have hz : segZ ((first + pre.length : Nat) : Int) = segK (first + pre.length) := rfl
  have hfu := frameB_u8 hu
  have hom := orNone_ok ok (segK (first + pre.length))
  rw [hp.lk_] at hom
  have hlen : ((framesB g).length : Int) ≤ usedL D.L := by
    have h1 := hp.lk_
    cases e : lk (segK (first + pre.length)) D.L with
    | none =>
      rw [e] at h1
      have : framesB g = [] := (congrArg Fl.b h1).symm
      rw [this]
      exact used_nonneg _
    | some f =>
      rw [e] at h1
      have : f.b = framesB g := congrArg Fl.b h1
      rw [← this]
      exact used_mem ((lk_mem _ ok.rise).1 e)
  unfold rput
  rw [hz]
  by_cases hc : ((frameB b).length : Int) > D.lim - usedL D.L ∨ (lk (segK (first + pre.length)) D.L = none ∧ 16 ≤ D.L.length)
  · have ha : D.append (segK (first + pre.length)) (frameB b) = (D, 3) := by unfold Dk.append; rw [if_pos hc]
    rw [ha]
    simp only [show ¬ ((3 : Int) = 0) by decide, if_false]
    exact ⟨.inr (.inl ⟨rfl, by rw [note_three]⟩), rfl, rfl, fun _ => (show (3 : Int) ≠ 23 by decide), fun h1 h2 => by omega⟩
  · cases hst : D.step with
    | none =>
      have ha : D.append (segK (first + pre.length)) (frameB b) = (D, 23) := by unfold Dk.append; rw [if_neg hc, hst]
      rw [ha]
      simp only [show ¬ ((23 : Int) = 0) by decide, if_false]
      exact ⟨.inr (.inr ⟨rfl, rfl, (h.r.up (by omega) (by omega)).crash h.safe ⟨rfl, .inl rfl⟩⟩), rfl, rfl, fun h1 => (by rw [(step_none hst).1] at h1; cases h1), fun _ _ => (show (23 : Int) ≠ 3 by decide)⟩
    | some D1 =>
      obtain ⟨e1, e2, e3, _⟩ := step_some hst
      have ha := append_ok hc hst
      rw [hp.lk_] at ha
      rw [ha]
      simp only [if_true]
      have hv : ∀ k, lk k (D1.put (segK (first + pre.length)) ⟨framesB g ++ frameB b, (framesB g).length⟩).L = if k = segK (first + pre.length) then some ⟨framesB g ++ frameB b, (framesB g).length⟩ else lk k D.L := fun k => by rw [Dk.put_lk (by rw [e1]; exact ok.rise), e1]
      have hr2 : Rise (D1.put (segK (first + pre.length)) ⟨framesB g ++ frameB b, (framesB g).length⟩).L := rise_ins (by rw [e1]; exact ok.rise)
      have hl2 : (D1.put (segK (first + pre.length)) ⟨framesB g ++ frameB b, (framesB g).length⟩).lim = D.lim := e2
      have hf2 : (D1.put (segK (first + pre.length)) ⟨framesB g ++ frameB b, (framesB g).length⟩).fused = D.fused := e3
      generalize D1.put (segK (first + pre.length)) ⟨framesB g ++ frameB b, (framesB g).length⟩ = D2 at hv hr2 hl2 hf2 ⊢
      have hk2 : lk (segK (first + pre.length)) D2.L = some ⟨framesB g ++ frameB b, (framesB g).length⟩ := by rw [hv, if_pos rfl]
      have hall : ∀ y ∈ framesB g ++ frameB b, 0 ≤ y ∧ y ≤ 255 := fun y hy => (List.mem_append.1 hy).elim (hom.u8 y) (hfu y)
      have htot : (framesB g ++ frameB b).length ≤ 100000 := by rw [List.length_append]; omega
      have hsn : framesB (g ++ [b]) = framesB g ++ frameB b := framesB_snoc _ _
      cases hst2 : D2.step with
      | none =>
        rw [sync_none hk2 hst2]
        simp only [show ¬ ((23 : Int) = 0) by decide, if_false]
        refine ⟨.inr (.inr ⟨rfl, rfl, fun E hE => ?_⟩), hl2, hf2, fun h1 => (by rw [← hf2, (step_none hst2).1] at h1; cases h1), fun _ _ => (show (23 : Int) ≠ 3 by decide)⟩
        obtain ⟨gE, hgE, l1, l2, l3⟩ := stopped_part hE hk2
        simp only at l1 l2 l3
        have hvE : ∀ k, k ≠ segK (first + pre.length) → lk k E.L = lk k D.L := fun k hk => by
          rw [stopped_at hE k (fun f hf => by rw [hv, if_neg hk] at hf; exact h.safe k f hf), hv, if_neg hk]
        have hgb : gE.b = framesB g ++ (frameB b).take (gE.s.toNat - (framesB g).length) := by
          rw [l3, List.take_append, List.take_of_length_le (by omega)]
        have hgu : ∀ y ∈ gE.b, 0 ≤ y ∧ y ≤ 255 := fun y hy => hall y (by rw [l3] at hy; exact List.mem_of_mem_take hy)
        have hgl : gE.b.length ≤ 100000 := by rw [l3, List.length_take]; omega
        rcases Nat.lt_or_ge (gE.s.toNat - (framesB g).length) (frameB b).length with hj | hj
        · refine ⟨first, img, _, Rec.tailed h hp hB hvE hgE hgb (torn_take b (by omega) _ hj) hgu hgl, rfl, .inl ?_⟩
          rw [recL_snoc, hp.recL]
        · refine ⟨first, img, _, Rec.tailed (g' := g ++ [b]) (t := []) h hp hB hvE hgE ?_ torn_nil hgu hgl, rfl, .inr ?_⟩
          · rw [hgb, List.take_of_length_le hj, hsn, List.append_nil]
          · rw [recL_snoc, hp.recL, List.append_assoc]
      | some D3 =>
        obtain ⟨g1, g2, g3, _⟩ := step_some hst2
        rw [sync_some hk2 hst2]
        simp only [if_true]
        have hv4 : ∀ k, lk k (D3.put (segK (first + pre.length)) ⟨framesB g ++ frameB b, ((framesB g ++ frameB b).length : Nat)⟩).L = if k = segK (first + pre.length) then some ⟨framesB g ++ frameB b, ((framesB g ++ frameB b).length : Nat)⟩ else lk k D.L := fun k => by
          rw [Dk.put_lk (by rw [g1]; exact hr2), g1, hv]
          split <;> rfl
        refine ⟨.inl ⟨rfl, pre ++ [(g ++ [b], [])], ?_, ⟨Rec.tailed (g' := g ++ [b]) (t := []) h hp hB (fun k hk => by rw [hv4, if_neg hk]) (by rw [hv4, if_pos rfl]) (by rw [hsn, List.append_nil]) torn_nil hall htot, fun x hx => ?_, fun k f hk => ?_, fun k f hk => ?_⟩, ?_, by rw [List.length_append, List.length_singleton]; omega, ?_⟩, g2.trans hl2, g3.trans hf2, fun _ => (show (0 : Int) ≠ 23 by decide), fun _ _ => (show (0 : Int) ≠ 3 by decide)⟩
        · exact (place_M hp).symm
        · rcases List.mem_append.1 hx with hx | hx
          · exact h.whole x (by rcases hp.at_ with ⟨rfl, _⟩ | rfl; exact hx; exact List.mem_append_left _ hx)
          · rw [List.mem_singleton.1 hx]
        · rw [hv4] at hk
          split at hk
          · cases hk
            rfl
          · exact h.safe k f hk
        · rw [hv4] at hk
          rw [List.length_append, List.length_singleton]
          split at hk
          · rename_i e
            exact .inr ⟨first + pre.length, by omega, by omega, e⟩
          · rcases h.only k f hk with e | ⟨n, a, b, c⟩
            · exact .inl e
            · exact .inr ⟨n, a, by omega, c⟩
        · rw [recL_snoc, hp.recL, List.append_assoc]
        · rw [place_M hp]
end
end Go.Proofs.YtdooajmgfoobfaaGreatDoor.H

