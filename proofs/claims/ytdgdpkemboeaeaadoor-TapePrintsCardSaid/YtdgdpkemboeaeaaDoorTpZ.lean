/- tape.Parse: a text's acts. -/
import Derived.Test.YtdgdpkemboeaeaaDoorTpP
namespace Go.Proofs.YtdgdpkemboeaeaaDoor.H
open Go.RowKit Go.Shelf Go.Proofs.YtdgdpkemboeaeaaDoor.PT Go.Proofs.YtdgdpkemboeaeaaDoorW.PrintWords Go.Proofs.YtdgdpkemboeaeaaDoorW.PrintLast Go.Proofs.YtdgdpkemboeaeaaDoorW.PrintMore
attribute [local go_sem] Oper.semAt_some
set_option linter.unusedVariables false
set_option linter.unusedSimpArgs false
def s45 (a : PAct) : S45 := ⟨a.k, a.i, a.n, a.t, a.keep⟩
/-- What Parse returns. -/
noncomputable def parseR (s : List UInt8) : List PAct × Int × Int := if (parseA s).2 = true then ((parseA s).1, 0, 0) else ([], (parseA s).1.length, 2)
theorem evs_done {s : List UInt8} {xs : List El} (h : xs.map El.ev = evs s) (hz : ∀ x ∈ xs, x.2.2 = 0) : parseR s = (xs.map (·.1), 0, 0) := by
  unfold evs at h
  have e1 : (xs.map El.ev).map (·.1) = xs.map (·.1) := by rw [List.map_map]; rfl
  unfold parseR
  cases hp : (parseA s).2 with
  | true =>
    rw [hp, if_pos rfl, List.append_nil] at h
    rw [h, List.map_map] at e1
    rw [if_pos rfl, ← e1]
    congr 1
    exact (List.map_id _).symm
  | false =>
    rw [hp, if_neg (by decide)] at h
    have : (zeroP, (2 : Int)) ∈ xs.map El.ev := by rw [h]; simp
    obtain ⟨x, hx, e⟩ := List.mem_map.1 this
    have h2 := hz x hx
    unfold El.ev at e
    have := congrArg Prod.snd e
    simp only at this
    omega
theorem evs_stop {s : List UInt8} {p : List El} {x : El} (h : (p ++ [x]).map El.ev <+: evs s) (hx : x.2.2 ≠ 0) (hp : ∀ y ∈ p, y.2.2 = 0) : parseR s = ([], (p.length : Int), x.2.2) := by
  obtain ⟨t, ht⟩ := h
  rw [List.map_append, List.append_assoc] at ht
  have hl := congrArg (fun l => l[p.length]?) ht
  rw [List.getElem?_append_right (by simp)] at hl
  simp only [List.length_map, Nat.sub_self, List.map_cons, List.map_nil, List.cons_append, List.getElem?_cons_zero] at hl
  unfold evs at hl ht
  have key : (parseA s).2 = false ∧ p.length = (parseA s).1.length := by
    by_cases hlt : p.length < (parseA s).1.length
    · rw [List.getElem?_append_left (by simpa using hlt), List.getElem?_map, List.getElem?_eq_getElem hlt] at hl
      have := congrArg Prod.snd (Option.some.inj hl)
      exact absurd this hx
    · rw [List.getElem?_append_right (by simp; omega)] at hl
      cases hq : (parseA s).2 with
      | true => rw [hq, if_pos rfl] at hl; simp at hl
      | false =>
        rw [hq, if_neg (by decide)] at hl
        refine ⟨rfl, ?_⟩
        have := (List.getElem?_eq_some_iff.1 hl.symm).1
        simp at this
        omega
  obtain ⟨k1, k2⟩ := key
  rw [k1, if_neg (by decide), List.getElem?_append_right (by simp; omega)] at hl
  simp only [List.length_map, k2, Nat.sub_self, List.getElem?_cons_zero] at hl
  have e := congrArg Prod.snd (Option.some.inj hl)
  unfold parseR
  rw [k1, if_neg (by decide), k2]
  have e2 : x.2.2 = 2 := e
  rw [e2]
theorem infoA : (Tryd.prog.info? 45).map (fun i => (i.zero, i.size, i.bytes)) = some (some (.agg #[.int .i64 0, .int .i64 0, .int .i64 0, .string ⟨#[]⟩, .slice none 0 0]), 5, 64) := by kernel_rfl
theorem evs_len (s : List UInt8) : (evs s).length ≤ s.length + 1 := by
  have key : ∀ (n : Nat) (s : List UInt8), s.length ≤ n → (parseA s).1.length ≤ s.length := by
    intro n
    induction n with
    | zero =>
      intro s hs
      obtain rfl := List.eq_nil_of_length_eq_zero (Nat.le_zero.1 hs)
      rw [parseA_nil]
      exact Nat.le_refl _
    | succ n ih =>
      intro s hs
      by_cases h0 : s = []
      · subst h0; rw [parseA_nil]; exact Nat.le_refl _
      · rw [parseA_step h0]
        cases hc : (cutL s 10).2.2 with
        | false => simp
        | true =>
          have hl := cut_less hc
          have := ih (cutL s 10).2.1 (by omega)
          cases actA (cutL s 10).1 with
          | none => simp
          | some a => simp only [if_true, List.length_cons]; omega
  have := key _ s (Nat.le_refl _)
  unfold evs
  rw [List.length_append, List.length_map]
  split <;> simp <;> omega
theorem R_append_In {α : Type} {F : Fence} {n : Nat} {P : Program} {ops : Array Oper} {rest : List Oper} {o : Oper} {a : Act} {Q : Exit → Act → World → Prop} (d : Kd α) {W : World} (base : Nat) (hgd : o.guard = none) (s x : Operand) (t e : TypeId) (z : Value) (bytes : Nat)
    (ho : o.op = .call { callee := .builtin .append, args := #[s, x], argTypes := #[t, t] })
    (ht : P.underlying t = some (.slice e)) (hinfo : (P.info? e).map (fun i => (i.zero, i.size, i.bytes)) = some (some z, d.sz, bytes)) (hz : z.cells.size = d.sz) (hs0 : 0 < d.sz) (hb0 : 0 < bytes)
    (v : Value) (xs : List α) (p : α) (cs : List Value) (ok okp : Nat → Prop) (hs : a.eval s = v) (hx : a.eval x = .slice (some ⟨W.heap.size, 0, none⟩) 1 1) (hp : d.M W base okp p cs) (hokp : ∀ k, okp k → ok k ∧ some k ≠ v.ownBlock) (hfresh : ∀ k, W.heap.size ≤ k → ok k)
    (HO : d.R e W base ok v xs) (hbase : base ≤ W.heap.size) (hl : (xs.length + 1) * bytes ≤ 140737488355328)
    (h : ∀ v1 w1, d.R e w1 base ok v1 (xs ++ [p]) → W.grownBy w1 v.ownBlock → wpListIn F n P ops Q rest (a.put o.dst v1) w1) :
    wpListIn F n P ops Q (o :: rest) a (W.alloc (.cells cs.toArray e)) := by
  obtain ⟨h0, inner, hown, hr⟩ := HO
  obtain ⟨i0, hi, hzz⟩ := Option.map_eq_some_iff.1 hinfo
  simp only [Prod.mk.injEq] at hzz
  obtain ⟨hz0, hz1, hz2⟩ := hzz
  have hlen : xs.length + 1 ≤ 140737488355328 := Nat.le_trans (Nat.le_mul_of_pos_right _ hb0) hl
  have hcs := d.K_len (d.K_of_M hp)
  have h1c := d.K_one (d.K_of_M hp)
  refine wpListIn_plain hgd fun K hK' => ?_
  obtain ⟨v', w', hrun, r1, r2, _, r4⟩ := run_append_own_at (P := P) (w := W.alloc (.cells cs.toArray e)) base t o.type e i0 z d.sz bytes ht hi hz0 hz1 hz2 hz hs0 v xs.length inner (hown.alloc _) ⟨W.heap.size, 0, none⟩ 1 1 cs (by rw [hcs]; simp)
    (by simpa using World.news_of_block (cs := cs.toArray) (t := e) (fr := (0, 0)) (heap_alloc_new W (.cells cs.toArray e))) h1c (by simp only [maxLen]; omega) hl (by simp; omega)
  have hg1 : W.grownBy w' v.ownBlock := World.grownBy.trans (World.grownBy_alloc W _ _) r2
  have hat : v'.ownBlock = v.ownBlock ∨ ∃ b, v'.ownBlock = some b ∧ W.heap.size ≤ b := r4.imp id (fun h => ⟨_, h, by simp⟩)
  unfold Oper.wpIn
  refine ⟨?_, ?_⟩
  · simp [Oper.about, ho, resolve, Target.leads, Sem.run_pure]
  · rw [Oper.semAt_plain F _ _ (by rw [ho]; intro c hc'; cases hc')]
    simp [execOp, ho, resolve, invoke, builtin, hs, hx, hrun, Result.andThen]
    exact hK' _ _ (h v' w' (Kd.R_appended h0 hr hp hokp hfresh r1 hg1 hat) hg1)
theorem keeps_below {A B : World} (h : KeepsOthers A B) : KeepsOthers A B.drew := ⟨h.size, fun k o hk hc => h.same k o hk hc⟩
/-- Where a text is being parsed. -/
structure PSt (w : World) (pre : List El) (W : World) : Prop where
  hb : Below w.heap.size w W
  r0 : W.heap[w.heap.size]? = some (.cells #[.slice none 0 0] 50 (0, 0))
  r1 : W.heap[w.heap.size + 1]? = some (.cells #[.int .i64 0] 3 (0, 0))
  r2 : W.heap[w.heap.size + 1 + 1]? = some (.cells #[.int .i64 0] 24 (0, 0))
  ob : ∃ v, W.heap[w.heap.size + 1 + 1 + 1]? = some (.cells #[v] 50 (0, 0)) ∧ Kd.R k45 45 W (w.heap.size + 5) (fun _ => True) v (pre.map (fun x => s45 x.1))
  sz : w.heap.size + 5 ≤ W.heap.size
  er : ∀ x ∈ pre, x.2.2 = 0
theorem cells_ne_row {W : World} {row : Option Nat} {B g T : Nat} {cs : Array Value} (hr : ∀ r, row = some r → B ≤ r ∧ ∃ o : Obj, W.heap[r]? = some o ∧ o.isCells = false) (h : W.heap[g]? = some (.cells cs T (0, 0))) : some g ≠ row := fun e => by
  obtain ⟨_, o, ho, hc⟩ := hr g e.symm
  rw [h] at ho
  cases ho
  cases hc
theorem R_ownFrom {α : Type} {d : Kd α} {e base : Nat} {W W' : World} {v : Value} {xs : List α} {row : Option Nat} {B : Nat} (h : Kd.R d e W base (fun _ => True) v xs) (hg : W.grownBy W' row) (hr : ∀ r, row = some r → B ≤ r ∧ ∃ o : Obj, W.heap[r]? = some o ∧ o.isCells = false) : Kd.R d e W' base (fun _ => True) v xs :=
  Kd.R_mono (Kd.R_grown (Kd.R_bound h) hg (fun k hk => by obtain ⟨_, _, _, q, _, cells, hc⟩ := hk; exact cells_ne_row hr hc)) (fun _ _ => trivial)
theorem PSt.own (w : World) {B : Nat} (hB : w.heap.size ≤ B) : OwnFrom B (PSt w) := fun s W W' row hs hg hr => by
  obtain ⟨v, h1, h2⟩ := hs.ob
  exact { hb := hs.hb.grown hg hs.hb.size (fun k e => Nat.le_trans hB (hr k e).1)
          r0 := blk_grown hs.r0 hg (cells_ne_row hr hs.r0)
          r1 := blk_grown hs.r1 hg (cells_ne_row hr hs.r1)
          r2 := blk_grown hs.r2 hg (cells_ne_row hr hs.r2)
          ob := ⟨v, blk_grown h1 hg (cells_ne_row hr h1), R_ownFrom h2 hg hr⟩
          sz := Nat.le_trans hs.sz hg.size
          er := hs.er }
theorem PSt.below {w W W' : World} {pre : List El} (hs : PSt w pre W) (hb : Below W.heap.size W W') : PSt w pre W' := by
  obtain ⟨v, h1, h2⟩ := hs.ob
  exact { hb := hs.hb.trans (hb.mono hs.hb.size)
          r0 := (hb.block _ (blk_lt hs.r0)).trans hs.r0
          r1 := (hb.block _ (blk_lt hs.r1)).trans hs.r1
          r2 := (hb.block _ (blk_lt hs.r2)).trans hs.r2
          ob := ⟨v, (hb.block _ (blk_lt h1)).trans h1, Kd.R_below h2 hb⟩
          sz := Nat.le_trans hs.sz hb.size
          er := hs.er }
/-- Where the parse has met an error. -/
def PEnd (w : World) (pre : List El) (W : World) : Prop := ∃ p x, pre = p ++ [x] ∧ x.2.2 ≠ 0 ∧ (∀ y ∈ p, y.2.2 = 0) ∧ Below w.heap.size w W ∧ W.heap[w.heap.size]? = some (.cells #[.slice none 0 0] 50 (0, 0)) ∧ W.heap[w.heap.size + 1]? = some (.cells #[.int .i64 (p.length : Int)] 3 (0, 0)) ∧ W.heap[w.heap.size + 1 + 1]? = some (.cells #[.int .i64 x.2.2] 24 (0, 0))
theorem PEnd.own (w : World) {B : Nat} (hB : w.heap.size ≤ B) : OwnFrom B (PEnd w) := fun s W W' row hs hg hr => by
  obtain ⟨p, x, h1, h2, h3, h4, h5, h6, h7⟩ := hs
  exact ⟨p, x, h1, h2, h3, h4.grown hg h4.size (fun k e => Nat.le_trans hB (hr k e).1), blk_grown h5 hg (cells_ne_row hr h5), blk_grown h6 hg (cells_ne_row hr h6), blk_grown h7 hg (cells_ne_row hr h7)⟩
theorem keeps_grown {A B : World} {e base size n : Nat} {v : Value} {xs : List Value} (hg : A.grownBy B v.ownBlock) (ho : A.ownsRow base e size v n xs) : KeepsOthers A B :=
  ⟨hg.size, fun k o hk hc => (hg.block k (blk_lt hk) (fun e => by
    obtain ⟨cells, h⟩ := own_typed ho k e.symm
    rw [hk] at h
    cases h
    cases hc)).trans hk⟩
set_option maxRecDepth 100000 in
set_option maxHeartbeats 8000000 in
theorem parse_calls (s : ByteArray) (hs : s.size ≤ 1000000) (w : World) (hE : Env w) :
    Calls Tryd.prog 40 #[.string s] w fun e w' => ∃ v, e = .returned (.tuple #[v, .int .i64 (parseR s.data.toList).2.1, .int .i64 (parseR s.data.toList).2.2]) ∧ Kd.R k45 45 w' w.heap.size (fun _ => True) v ((parseR s.data.toList).1.map s45) ∧ Below w.heap.size w w' := by
  have HE := Aside0.mk hE
  have HS := Aside0.mk hs
  clear hE hs
  refine (callsIn_wide (n := 6)).1 ?_
  refine callsIn_of_wp_marks Tryd.func40 rfl trivial ?_ rfl
  simp only [Tryd.ntmps40, List.size_toArray, List.length_cons, List.length_nil, Nat.reduceAdd, Nat.reduceSub, Array.replicate_succ, Array.replicate_zero, List.push_toArray, List.append_toArray, List.nil_append, List.cons_append]
  gi_wp2_with fail
  refine ⟨trivial, ?_⟩
  gi_at_call 26
  refine (callsIn_wide.2 (lines_calls s _)).mono ?_
  rintro e w4 ⟨rfl, rfl⟩
  gi_wp2_with fail
  have hP0 : PSt w [] (((((w.alloc (.cells #[.slice none 0 0] 50)).alloc (.cells #[.int .i64 0] 3)).alloc (.cells #[.int .i64 0] 24)).alloc (.cells #[.slice none 0 0] 50)).alloc (.cells #[.string s] 9)) ∧
      (((((w.alloc (.cells #[.slice none 0 0] 50)).alloc (.cells #[.int .i64 0] 3)).alloc (.cells #[.int .i64 0] 24)).alloc (.cells #[.slice none 0 0] 50)).alloc (.cells #[.string s] 9)).cell? ⟨w.heap.size + 1 + 1 + 1 + 1, 0, none⟩ = some (.string s) := by
    obtain ⟨w1, h1⟩ : ∃ w1, w.alloc (.cells #[.slice none 0 0] 50) = w1 := ⟨_, rfl⟩
    obtain ⟨w2, h2⟩ : ∃ w2, w1.alloc (.cells #[.int .i64 0] 3) = w2 := ⟨_, rfl⟩
    obtain ⟨w3, h3⟩ : ∃ w3, w2.alloc (.cells #[.int .i64 0] 24) = w3 := ⟨_, rfl⟩
    obtain ⟨w4, h4⟩ : ∃ w4, w3.alloc (.cells #[.slice none 0 0] 50) = w4 := ⟨_, rfl⟩
    obtain ⟨w5, h5⟩ : ∃ w5, w4.alloc (.cells #[.string s] 9) = w5 := ⟨_, rfl⟩
    have z1 : w1.heap.size = w.heap.size + 1 := by rw [← h1]; exact World.size_alloc _ _
    have z2 : w2.heap.size = w.heap.size + 1 + 1 := by rw [← h2, World.size_alloc, z1]
    have z3 : w3.heap.size = w.heap.size + 1 + 1 + 1 := by rw [← h3, World.size_alloc, z2]
    have z4 : w4.heap.size = w.heap.size + 1 + 1 + 1 + 1 := by rw [← h4, World.size_alloc, z3]
    have z5 : w5.heap.size = w.heap.size + 1 + 1 + 1 + 1 + 1 := by rw [← h5, World.size_alloc, z4]
    have e0 := heap_alloc_new w (.cells #[.slice none 0 0] 50)
    have e1 := heap_alloc_new w1 (.cells #[.int .i64 0] 3)
    have e2 := heap_alloc_new w2 (.cells #[.int .i64 0] 24)
    have e3 := heap_alloc_new w3 (.cells #[.slice none 0 0] 50)
    have e4 := heap_alloc_new w4 (.cells #[.string s] 9)
    rw [h1] at e0
    rw [h2, z1] at e1
    rw [h3, z2] at e2
    rw [h4, z3] at e3
    rw [h5, z4] at e4
    have b1 : Below w1.heap.size w1 w2 := by rw [← h2]; exact (Below.refl _ _).alloc (Nat.le_refl _) _
    have b2 : Below w2.heap.size w2 w3 := by rw [← h3]; exact (Below.refl _ _).alloc (Nat.le_refl _) _
    have b3 : Below w3.heap.size w3 w4 := by rw [← h4]; exact (Below.refl _ _).alloc (Nat.le_refl _) _
    have b4 : Below w4.heap.size w4 w5 := by rw [← h5]; exact (Below.refl _ _).alloc (Nat.le_refl _) _
    have b0 : Below w.heap.size w w1 := by rw [← h1]; exact (Below.refl _ _).alloc (Nat.le_refl _) _
    rw [h1, h2, h3, h4, h5]
    have b34 := b3.trans (b4.mono b3.size)
    have b24 := b2.trans (b34.mono b2.size)
    have b14 := b1.trans (b24.mono b1.size)
    exact ⟨{ hb := b0.trans (b14.mono b0.size)
             r0 := (b14.block _ (blk_lt e0)).trans e0
             r1 := (b24.block _ (blk_lt e1)).trans e1
             r2 := (b34.block _ (blk_lt e2)).trans e2
             ob := ⟨_, (b4.block _ (blk_lt e3)).trans e3, Kd.R_nil _ _ _ _ _⟩
             sz := by omega
             er := fun x hx => by cases hx }, by rw [Lib.cell_of_heap e4]; rfl⟩
  generalize ((((w.alloc (.cells #[.slice none 0 0] 50)).alloc (.cells #[.int .i64 0] 3)).alloc (.cells #[.int .i64 0] 24)).alloc (.cells #[.slice none 0 0] 50)).alloc (.cells #[.string s] 9) = w5 at hP0 ⊢
  obtain ⟨hP0, hsc⟩ := hP0
  have HB5 := Aside0.mk hP0.hb
  have hlen : s.data.toList.length ≤ 1000000 := by rw [len_of]; exact HS.out
  have hhands := lines_hands (6 - 1) (by omega) (w.heap.size + 1 + 1 + 1 + 1) (w.heap.size + 5) s.data.toList hlen w w5 HE.out hP0.hb hP0.sz (by have := hP0.sz; omega) (by rw [ba_of]; exact hsc)
  refine range_hands (F := Fence.wide) (n := 6) rfl (by omega) (gf := 54) (lb := #[.pointer (some ⟨w.heap.size + 1 + 1 + 1 + 1, 0, none⟩)]) rfl trivial (enters_of Tryd.func54 (by kernel_rfl) rfl)
    hhands (fun _ => rfl) (fun h k => h.trans k) (fun W l o o' hl ho hc hw => ?kb)
    (PSt w) (PEnd w) (PSt.own w hP0.hb.size) (PEnd.own w hP0.hb.size) (fun x s W W' row hs hg hr => R_ownFrom hs hg hr) hP0
    (fun x a' W => ∃ Ab, a' = { tmps := #[.string s, undef, .pointer (some ⟨w.heap.size, 0, none⟩), .pointer (some ⟨w.heap.size + 1, 0, none⟩), .pointer (some ⟨w.heap.size + 1 + 1, 0, none⟩), .pointer (some ⟨w.heap.size + 1 + 1 + 1, 0, none⟩), .pointer (some ⟨Ab, 0, none⟩), .int .i64 x.2.2, .string s, .func (.func 54) #[] #[.pointer (some ⟨w.heap.size + 1 + 1 + 1 + 1, 0, none⟩)], actV x.1 x.2.1, .int .i64 x.2.2, undef, undef, undef, undef, undef, undef, undef, undef, undef, undef], defers := [] } ∧ W.heap[Ab]? = some (.cells #[.int .i64 x.1.k, .int .i64 x.1.i, .int .i64 x.1.n, .string x.1.t, x.2.1] 45 (0, 0)))
    (fun x a' s W W' row hs hg hr => by obtain ⟨Ab, h1, h2⟩ := hs; exact ⟨Ab, h1, blk_grown h2 hg (cells_ne_row hr h2)⟩) ?assign ?body ?done ?stop
  case kb => exact belowK_b (by exact hP0.hb.size) _ _ _ _ hl ho hc hw
  case assign =>
    rintro lp pre ⟨a, v, e⟩ W K hI hR hK
    obtain ⟨vA, vc, rfl, hvl, hvC⟩ := Kd.R_reads (show Kd.R (Kd.int .i64) 3 W (w.heap.size + 5) (fun _ => True) v a.keep from hR)
    simp only [elA, actV]
    gi_wp2
    have hb := (Below.refl W.heap.size W).alloc (Nat.le_refl _) (.cells #[.int .i64 a.k, .int .i64 a.i, .int .i64 a.n, .string a.t, .slice vA a.keep.length vc] 45)
    exact hK _ _ (KeepsOthers.alloc _ _) (hb.mono hI.hb.size) (hI.below hb) (Kd.R_below hR hb) ⟨_, rfl, heap_alloc_new W _⟩
  case body =>
    rintro lp pre ⟨a, v, e⟩ a' W hI hR ⟨Ab, rfl, hab⟩ hln
    obtain ⟨vA, vc, rfl, hvl, hvC⟩ := Kd.R_reads (show Kd.R (Kd.int .i64) 3 W (w.heap.size + 5) (fun _ => True) v a.keep from hR)
    obtain ⟨vo, hob, hro⟩ := hI.ob
    obtain ⟨ys, hys⟩ : ∃ ys, pre.map (fun x => s45 x.1) = ys := ⟨_, rfl⟩
    have hyl : ys.length = pre.length := by rw [← hys, List.length_map]
    rw [hys] at hro
    have HYS := Aside0.mk hys
    obtain ⟨oA, oc, rfl, hol, hoC⟩ := Kd.R_reads hro
    have o0 := blk_cell hob 0
    have HI := Aside0.mk hI
    have HR := Aside0.mk hR
    have HOB := Aside0.mk hob
    have HRO := Aside0.mk hro
    simp only [actV]
    by_cases he : e = 0
    · subst he
      have f0 := blk_frozen hob 0
      have a0 := blk_cell hab 0
      have a1 := blk_cell hab 1
      have a2 := blk_cell hab 2
      have a3 := blk_cell hab 3
      have a4 := blk_cell hab 4
      have hbd : (ys.length + 1) * 64 ≤ 140737488355328 := by
        have h1 := evs_len s.data.toList
        omega
      have HBD := Aside0.mk hbd
      clear hI hR hob hro hol hoC hvl hvC hbd hln hab hsc hP0 hhands hys hyl
      gi_wp2_with (gi_at_builtin; refine R_append_In k45 (w.heap.size + 5) rfl (.tmp 17) (.tmp 19) 50 45 (.agg #[.int .i64 0, .int .i64 0, .int .i64 0, .string ⟨#[]⟩, .slice none 0 0]) 64 rfl Tryd.underlying50 infoA rfl (by decide) (by omega) (.slice oA ys.length oc) ys (s45 a) [.int .i64 a.k, .int .i64 a.i, .int .i64 a.n, .string a.t, .slice vA a.keep.length vc] (fun _ => True) (fun k => some k ≠ (.slice oA ys.length oc : Value).ownBlock) rfl rfl (k45_mkM _ _ _ (s45 a) (Kd.R_mono (Kd.R_apart' HR.out (Kd.R_typed HRO.out) (by decide)) (fun _ hk => hk.2))) (fun _ hk => ⟨trivial, hk⟩) (fun _ _ => trivial) HRO.out HI.out.sz HBD.out ?_; intro v1 w1 hr hg; obtain ⟨A1, c1, rfl, hl1, hC1⟩ := Kd.R_reads hr; have HR1 := Aside0.mk hr; have HG1 := Aside0.mk hg; have HO1 := Aside0.mk (blk_grown HOB.out hg (Kd.R_ne HRO.out HOB.out (by decide))); have g0 := blk_cell HO1.out 0; have g1 := blk_frozen HO1.out 0; clear hr hg hl1 hC1)
      have hlow : ∀ k, (.slice oA ys.length oc : Value).ownBlock = some k → w.heap.size + 5 ≤ k := Kd.R_base HRO.out
      have hbe : Below w.heap.size W w1 := (Below.refl w.heap.size W).grown HG1.out HI.out.hb.size (fun k e => by have := hlow k e; omega)
      have hne : ∀ {g T : Nat} {cs : Array Value}, W.heap[g]? = some (.cells cs T (0, 0)) → 45 ≠ T → some g ≠ (.slice oA ys.length oc : Value).ownBlock := fun h ht => Kd.R_ne HRO.out h ht
      have HLN := Aside0.mk (show (ys ++ [s45 a]).length = ys.length + 1 by simp)
      have hr1 := HR1.out
      rw [HLN.out] at hr1
      refine .inl ⟨rfl, ?_, ?_, ?_⟩
      · obtain ⟨inner, ho⟩ := Kd.R_own HRO.out
        exact (keeps_grown HG1.out ho).trans (KeepsOthers.setCell _ _ _)
      · exact hbe.setCell (p := ⟨w.heap.size + 1 + 1 + 1, 0, none⟩) (by simp only; omega) _
      · exact { hb := (HI.out.hb.trans hbe).setCell (p := ⟨w.heap.size + 1 + 1 + 1, 0, none⟩) (by simp only; omega) _
                r0 := blk_far (blk_grown HI.out.r0 HG1.out (hne HI.out.r0 (by decide))) (by simp only; omega) _
                r1 := blk_far (blk_grown HI.out.r1 HG1.out (hne HI.out.r1 (by decide))) (by simp only; omega) _
                r2 := blk_far (blk_grown HI.out.r2 HG1.out (hne HI.out.r2 (by decide))) (by simp only; omega) _
                ob := ⟨_, blk_set HO1.out 0 _, by rw [List.map_append, HYS.out]; exact Kd.R_set hr1 HO1.out (by decide) 0 _⟩
                sz := by have := HI.out.sz; have := HG1.out.size; simp [World.setCell]; omega
                er := fun x hx => by
                  rcases List.mem_append.1 hx with hx | hx
                  · exact HI.out.er x hx
                  · rw [List.mem_singleton.1 hx] }
    · have k0 := blk_cell hI.r0 0
      have k1 := blk_cell hI.r1 0
      have k2 := blk_cell hI.r2 0
      have q0 := blk_frozen hI.r0 0
      have q1 := blk_frozen hI.r1 0
      have q2 := blk_frozen hI.r2 0
      have hyl2 := Aside0.mk hyl
      clear hI hR hob hro hol hoC hvl hvC hln hab hsc hP0 hhands hys hyl
      gi_wp2_with fail
      gi_region
      all_goals
        gi_wp2
        refine .inr ⟨rfl, ?_, pre, (a, .slice vA a.keep.length vc, e), rfl, he, HI.out.er, ?_, ?_, ?_, ?_⟩
        · exact keeps_below ((((KeepsOthers.setCell W ⟨w.heap.size, 0, none⟩ _).trans (KeepsOthers.setCell _ ⟨w.heap.size + 1, 0, none⟩ _)).trans (KeepsOthers.setCell _ ⟨w.heap.size + 1 + 1, 0, none⟩ _)))
        · exact below_drew1 (((HI.out.hb.setCell (p := ⟨w.heap.size, 0, none⟩) (by simp only; omega) _).setCell (p := ⟨w.heap.size + 1, 0, none⟩) (by simp only; omega) _).setCell (p := ⟨w.heap.size + 1 + 1, 0, none⟩) (by simp only; omega) _)
        · exact blk_drew (blk_far (blk_far (blk_set HI.out.r0 0 _) (by simp only; omega) _) (by simp only; omega) _)
        · rw [← hyl2.out]
          exact blk_drew (blk_far (blk_set (blk_far HI.out.r1 (by simp only; omega) _) 0 _) (by simp only; omega) _)
        · exact blk_drew (blk_set (blk_far (blk_far HI.out.r2 (by simp only; omega) _) (by simp only; omega) _) 0 _)
  case done =>
    rintro D xs W hD hS hI hK
    have hres := evs_done hS hI.er
    have HRES := Aside0.mk hres
    obtain ⟨vo, hob, hro⟩ := hI.ob
    obtain ⟨oA, oc, rfl, hol, hoC⟩ := Kd.R_reads hro
    have o0 := blk_cell hob 0
    have k0 := blk_cell hI.r0 0
    have k1 := blk_cell hI.r1 0
    have k2 := blk_cell hI.r2 0
    have q0 := blk_frozen hI.r0 0
    have q1 := blk_frozen hI.r1 0
    have q2 := blk_frozen hI.r2 0
    have HI := Aside0.mk hI
    have HRO := Aside0.mk hro
    have HK := Aside0.mk hK
    clear hres hI hK hro hol hoC hob hS hP0 hhands hsc
    gi_wp2
    have HYS := Aside0.mk (show (xs.map (fun x => s45 x.1)).length = xs.length by simp)
    have b0 := HI.out.hb.size
    have hK3 := (((KeepsOthers.setCell W ⟨w.heap.size, 0, none⟩ (.slice oA xs.length oc)).trans (KeepsOthers.setCell _ ⟨w.heap.size + 1, 0, none⟩ (.int .i64 0))).trans (KeepsOthers.setCell _ ⟨w.heap.size + 1 + 1, 0, none⟩ (.int .i64 0))).same D _ HK.out rfl
    have p0 : (((W.setCell ⟨w.heap.size, 0, none⟩ (.slice oA xs.length oc)).setCell ⟨w.heap.size + 1, 0, none⟩ (.int .i64 0)).setCell ⟨w.heap.size + 1 + 1, 0, none⟩ (.int .i64 0)).heap[w.heap.size]? = some (.cells #[.slice oA xs.length oc] 50 (0, 0)) := blk_far (blk_far (blk_set HI.out.r0 0 _) (by simp only; omega) _) (by simp only; omega) _
    have p1 : (((W.setCell ⟨w.heap.size, 0, none⟩ (.slice oA xs.length oc)).setCell ⟨w.heap.size + 1, 0, none⟩ (.int .i64 0)).setCell ⟨w.heap.size + 1 + 1, 0, none⟩ (.int .i64 0)).heap[w.heap.size + 1]? = some (.cells #[.int .i64 0] 3 (0, 0)) := blk_far (blk_set (blk_far HI.out.r1 (by simp only; omega) _) 0 _) (by simp only; omega) _
    have p2 : (((W.setCell ⟨w.heap.size, 0, none⟩ (.slice oA xs.length oc)).setCell ⟨w.heap.size + 1, 0, none⟩ (.int .i64 0)).setCell ⟨w.heap.size + 1 + 1, 0, none⟩ (.int .i64 0)).heap[w.heap.size + 1 + 1]? = some (.cells #[.int .i64 0] 24 (0, 0)) := blk_set (blk_far (blk_far HI.out.r2 (by simp only; omega) _) (by simp only; omega) _) 0 _
    have hro := HRO.out
    rw [HYS.out] at hro
    have hrb := Kd.R_bound hro
    have pr : Kd.R k45 45 (((W.setCell ⟨w.heap.size, 0, none⟩ (.slice oA xs.length oc)).setCell ⟨w.heap.size + 1, 0, none⟩ (.int .i64 0)).setCell ⟨w.heap.size + 1 + 1, 0, none⟩ (.int .i64 0)) (w.heap.size + 5) (fun _ => True) (.slice oA xs.length oc) (xs.map (fun x => s45 x.1)) :=
      Kd.R_mono (Kd.R_far (p := ⟨w.heap.size + 1 + 1, 0, none⟩) (Kd.R_far (p := ⟨w.heap.size + 1, 0, none⟩) (Kd.R_far (p := ⟨w.heap.size, 0, none⟩) hrb (fun k hk => by have := hk.2.1; simp only; omega) _) (fun k hk => by have := hk.2.1; simp only; omega) _) (fun k hk => by have := hk.2.1; simp only; omega) _) (fun _ _ => trivial)
    have pb : Below w.heap.size w (((W.setCell ⟨w.heap.size, 0, none⟩ (.slice oA xs.length oc)).setCell ⟨w.heap.size + 1, 0, none⟩ (.int .i64 0)).setCell ⟨w.heap.size + 1 + 1, 0, none⟩ (.int .i64 0)) := ((HI.out.hb.setCell (p := ⟨w.heap.size, 0, none⟩) (by simp only; omega) _).setCell (p := ⟨w.heap.size + 1, 0, none⟩) (by simp only; omega) _).setCell (p := ⟨w.heap.size + 1 + 1, 0, none⟩) (by simp only; omega) _
    generalize ((W.setCell ⟨w.heap.size, 0, none⟩ (.slice oA xs.length oc)).setCell ⟨w.heap.size + 1, 0, none⟩ (.int .i64 0)).setCell ⟨w.heap.size + 1 + 1, 0, none⟩ (.int .i64 0) = W3 at hK3 p0 p1 p2 pr pb ⊢
    have hb5 := HB5.out
    refine ⟨by simp, .inl ⟨_, _, rfl, run_takeDeferred hK3, ?_⟩⟩
    have hg := grownBy_putObj' W3 D (.deferred none)
    have hrr : ∀ r, some D = some r → 0 ≤ r ∧ ∃ o : Obj, W3.heap[r]? = some o ∧ o.isCells = false := fun r e => by cases e; exact ⟨Nat.zero_le _, _, hK3, rfl⟩
    have e0 := blk_cell (blk_grown p0 hg (cells_ne_row hrr p0)) 0
    have e1 := blk_cell (blk_grown p1 hg (cells_ne_row hrr p1)) 0
    have e2 := blk_cell (blk_grown p2 hg (cells_ne_row hrr p2)) 0
    refine ⟨.tuple #[.slice oA xs.length oc, .int .i64 0, .int .i64 0], by simp [results, Tryd.results40, go_sem, e0, e1, e2], .slice oA xs.length oc, by rw [HRES.out], ?_, pb.trans (belowK_b (w := w5) hb5.size _ D _ (.deferred none) hD hK3 rfl rfl)⟩
    rw [HRES.out, List.map_map]
    exact Kd.R_lower (R_ownFrom pr hg hrr) (by omega)
  case stop =>
    rintro D pre W hD hS ⟨p, x, rfl, hx, hp, hb, p0, p1, p2⟩ hK
    have HRES := Aside0.mk (evs_stop hS hx hp)
    have HB := Aside0.mk hb
    have HK := Aside0.mk hK
    have P0 := Aside0.mk p0
    have P1 := Aside0.mk p1
    have P2 := Aside0.mk p2
    clear hS hx hp hb hK p0 p1 p2 hP0 hhands hsc
    gi_wp2
    refine ⟨by simp, .inl ⟨_, _, rfl, run_takeDeferred HK.out, ?_⟩⟩
    have hg := grownBy_putObj' W D (.deferred none)
    have hrr : ∀ r, some D = some r → 0 ≤ r ∧ ∃ o : Obj, W.heap[r]? = some o ∧ o.isCells = false := fun r e => by cases e; exact ⟨Nat.zero_le _, _, HK.out, rfl⟩
    have e0 := blk_cell (blk_grown P0.out hg (cells_ne_row hrr P0.out)) 0
    have e1 := blk_cell (blk_grown P1.out hg (cells_ne_row hrr P1.out)) 0
    have e2 := blk_cell (blk_grown P2.out hg (cells_ne_row hrr P2.out)) 0
    refine ⟨.tuple #[.slice none 0 0, .int .i64 (p.length : Int), .int .i64 x.2.2], by simp [results, Tryd.results40, go_sem, e0, e1, e2], .slice none 0 0, by rw [HRES.out], ?_, HB.out.trans (belowK_b (w := w5) HB5.out.size _ D _ (.deferred none) hD HK.out rfl rfl)⟩
    rw [HRES.out]
    exact Kd.R_nil _ _ _ _ _
end Go.Proofs.YtdgdpkemboeaeaaDoor.H
