/- coil's Reel, told to the byte: a number, a text, what is left. -/
import Derived.Test.YtdooajmgfoobfaaGreatDoorPAx
import Derived.Lib.VarintBits
import Derived.BigCall
import Derived.BigGuard
namespace Go.Proofs.YtdooajmgfoobfaaGreatDoor.H
open Go.RowKit Go.Proofs.YtdooajmgfoobfaaGreatDoor.PA Go.Proofs.YtdooajmgfoobfaaGreatDoorW.PrintWords Go.Proofs.YtdooajmgfoobfaaGreatDoorW.PrintLast Go.Proofs.YtdooajmgfoobfaaGreatDoorW.PrintMore
set_option linter.unusedVariables false
set_option linter.unusedSimpArgs false
/-- How a number's taking ends: the number and what is left, or the error. -/
inductive NumR where
  | got (n : Int) (r : List Int)
  | bad (e : Int)
/-- A number's bytes, from the i-th on, n taken so far. -/
def numT (i : Nat) (n : Int) : List Int → NumR
  | [] => .bad 17
  | d :: r => if (i = 0 ∧ d = 128) ∨ i = 9 then .bad 2 else if d < 128 then .got (n * 128 + d % 128) r else numT (i + 1) (n * 128 + d % 128) r
/-- A reel's state: the bytes that are left, how it failed. -/
structure Rs where
  l : List Int
  f : Int
def Rs.num (s : Rs) : Int × Rs := if s.f ≠ 0 then (0, s) else match numT 0 0 s.l with
  | .got n r => (n, ⟨r, 0⟩)
  | .bad e => (0, ⟨s.l, e⟩)
def Rs.up (s : Rs) (most : Int) : Int × Rs :=
  if s.num.2.f = 0 then (if s.num.1 > most then (0, ⟨s.num.2.l, 1⟩) else s.num) else (0, s.num.2)
def Rs.bytes (s : Rs) (n : Int) : List Int × Rs := if s.f ≠ 0 then ([], s) else if n > s.l.length then ([], ⟨s.l, 17⟩) else (s.l.take n.toNat, ⟨s.l.drop n.toNat, 0⟩)
def Rs.text (s : Rs) (most : Int) : List Int × Rs := (s.up most).2.bytes (s.up most).1
/-- A reel: what it is upon is elder than w0's end. -/
def RX (w0 : World) (g : Nat) (s : Rs) (W : World) : Prop := Below w0.heap.size w0 W ∧ w0.heap.size ≤ g ∧ ∃ (A : Option Addr) (c : Nat), W.heap[g]? = some (.cells #[.slice A s.l.length c, .int .i64 s.f] 112 (0, 0)) ∧ s.l.length ≤ c ∧ s.l.length ≤ 1000000000 ∧ (∀ x ∈ s.l, 0 ≤ x ∧ x ≤ 255) ∧ Kd.C (Kd.int .u8) w0 A s.l.length s.l
theorem RX.lt {w0 W : World} {g : Nat} {s : Rs} (h : RX w0 g s W) : g < W.heap.size := by
  obtain ⟨_, _, A, c, hb, _⟩ := h
  exact blk_lt hb
theorem RX.below {w0 W : World} {g : Nat} {s : Rs} (h : RX w0 g s W) : Below w0.heap.size w0 W := h.1
/-- A world that differs from the one only by blocks that are new, and by g. -/
theorem grown_set {w W : World} {g : Nat} (h : w.grownBy W (some g)) (j : Nat) (v : Value) : w.grownBy (W.setCell ⟨g, j, none⟩ v) (some g) :=
  ⟨h.os, h.tape, h.output, by rw [World.size_setCell]; exact h.size, fun i hi hne => (Below.heap_setCell W _ v i (fun e => hne (by rw [e]))).trans (h.block i hi hne)⟩
theorem RX.setF {w0 W : World} {g : Nat} {s : Rs} (h : RX w0 g s W) (f' : Int) : RX w0 g ⟨s.l, f'⟩ (W.setCell ⟨g, 1, none⟩ (.int .i64 f')) := by
  obtain ⟨h1, h2, A, c, hb, r⟩ := h
  exact ⟨h1.setCell h2 _, h2, A, c, by simpa using blk_set hb 1 (.int .i64 f'), r⟩
theorem RX.kept {w0 W W' : World} {g : Nat} {s : Rs} (h : RX w0 g s W) (hb : Below W.heap.size W W') : RX w0 g s W' := by
  obtain ⟨h1, h2, A, c, hk, r⟩ := h
  exact ⟨h1.trans (hb.mono h1.size), h2, A, c, blk_below hk hb, r⟩
theorem lose_calls (w0 : World) (g : Nat) (s : Rs) (k : Int) (w : World) (h : RX w0 g s w) :
    Calls Tryz.prog 65 #[.pointer (some ⟨g, 0, none⟩), .int .i64 k] w fun e w' => e = .returned (.tuple #[]) ∧ RX w0 g ⟨s.l, if s.f = 0 then k else s.f⟩ w' ∧ w.grownBy w' (some g) := by
  have HS := Aside0.mk h
  obtain ⟨l, f⟩ := s
  obtain ⟨h1, h2, A, c, hb, r⟩ := h
  have c1 := blk_cell hb 1
  have f1 := blk_frozen hb 1
  clear hb r h1
  by_cases hf : f = 0
  · subst hf
    go_enter Tryz.func65, Tryz.ntmps65
    go_wp2
    go_end0
    exact ⟨rfl, by first | exact HS.out.setF k | (rw [if_pos rfl]; exact HS.out.setF k), grown_set (World.grownBy.refl _ _) 1 _⟩
  · have hf' : (f == 0) = false := by simpa using hf
    have HF := Aside0.mk hf
    go_enter Tryz.func65, Tryz.ntmps65
    go_wp2
    go_end0
    exact ⟨rfl, by first | exact HS.out | (rw [if_neg HF.out]; exact HS.out), World.grownBy.refl _ _⟩
theorem infoB : ∃ i : TypeInfo, Tryz.prog.info? 5 = some i ∧ i.size = 1 := by
  obtain ⟨i, hi, hz⟩ := Option.map_eq_some_iff.1 (show (Tryz.prog.info? 5).map (·.size) = some 1 by kernel_rfl)
  exact ⟨i, hi, hz⟩
theorem reads_of_C {w : World} {A : Option Addr} {n : Nat} {xs : List Int} {k : IntKind} (h : Kd.C (Kd.int k) w A n xs) : ReadsInt w k A n xs := by
  obtain ⟨h1, h2, h3⟩ := h
  refine ⟨h1, h2, fun hp => ?_⟩
  obtain ⟨ad, e, hc⟩ := h3 hp
  refine ⟨ad, e, fun j hj => ?_⟩
  have hx : xs[j]? = some (xs.getD j 0) := by rw [List.getD_eq_getElem?_getD, List.getElem?_eq_getElem (by omega)]; rfl
  obtain ⟨c, _, hK, hu⟩ := hc j _ hx
  have hK2 : c = [.int k (xs.getD j 0)] := hK
  have := hu 0 (.int k (xs.getD j 0)) (by rw [hK2]; rfl)
  have e2 : j * (Kd.int k).sz + 0 = j := by show j * 1 + 0 = j; omega
  rwa [e2] at this
theorem C_of_reads {w : World} {A : Option Addr} {n : Nat} {xs : List Int} {k : IntKind} (h : ReadsInt w k A n xs) : Kd.C (Kd.int k) w A n xs := by
  obtain ⟨h1, h2, h3⟩ := h
  refine ⟨h1, h2, fun hp => ?_⟩
  obtain ⟨ad, e, hc⟩ := h3 hp
  refine ⟨ad, e, fun j p hj => ⟨[.int k p], rfl, rfl, fun i u hi => ?_⟩⟩
  have hjl := (List.getElem?_eq_some_iff.1 hj).1
  have hi0 : i = 0 := by
    cases i with
    | zero => rfl
    | succ i => simp at hi
  subst hi0
  obtain rfl : Value.int k p = u := by simpa using hi
  have e2 : j * (Kd.int k).sz + 0 = j := by show j * 1 + 0 = j; omega
  rw [e2, hc j (by omega), List.getD_eq_getElem?_getD, hj]
  rfl
/-- A cut from m on, whatever the room. -/
theorem cut_from (A : Option Addr) (n c : Nat) (m : Nat) (k : Int) (hk : k = m) (hm : m ≤ n) :
    ∃ A' : Option Addr, (∀ W : World, (Instr.slice 22 (.slice A n c) (some (.int .i64 k)) none none).run Tryz.prog W = .ok (.slice A' (n - m) (c - m)) W) ∧
      ∀ (w : World) (xs : List Int), n ≤ c → Kd.C (Kd.int .u8) w A n xs → Kd.C (Kd.int .u8) w A' (n - m) (xs.drop m) := by
  subst hk
  obtain ⟨i, hi, hz⟩ := infoB
  obtain ⟨A', h1, h2⟩ := print_cut (P := Tryz.prog) 22 5 .i64 Tryz.underlying22 hi hz A n c m hm
  exact ⟨A', h1, fun w xs hc h => C_of_reads (h2 w .u8 xs hc (reads_of_C h))⟩
theorem pow7 (j : Nat) (h : j ≤ 8) : (2 : Int) ^ (7 * j) ≤ 72057594037927936 := by
  have : j = 0 ∨ j = 1 ∨ j = 2 ∨ j = 3 ∨ j = 4 ∨ j = 5 ∨ j = 6 ∨ j = 7 ∨ j = 8 := by omega
  rcases this with rfl | rfl | rfl | rfl | rfl | rfl | rfl | rfl | rfl <;> decide
theorem shl_or (n d : Int) (h0 : 0 ≤ n) (h1 : n < 72057594037927936) (h2 : 0 ≤ d) (h3 : d ≤ 255) : bits .or .u64 (IntKind.u64.wrap (n * 128)) (IntKind.u64.wrap (bits .and .u8 d 127)) = n * 128 + d % 128 := by
  rw [u8_and127 d h2 (by omega), wraps_u64 (n * 128) (by omega) (by omega), wraps_u64 (d % 128) (by omega) (by omega)]
  exact bits_join .u64 64 (by decide) wraps_u64 7 (n * 128) (d % 128) (by omega) (by omega) (by omega) (by omega) (by omega) (by omega)
theorem numT_range : ∀ (l : List Int) (i : Nat) (n : Int), i ≤ 9 → 0 ≤ n → n < 2 ^ (7 * i) → (∀ x ∈ l, 0 ≤ x ∧ x ≤ 255) → match numT i n l with
    | .got m r => 0 ≤ m ∧ m ≤ 9223372036854775807 ∧ ∃ p, l = p ++ r
    | .bad e => e = 17 ∨ e = 2
  | [], i, n, _, _, _, _ => by simp [numT]
  | d :: r, i, n, hi, h0, h1, hu => by
    unfold numT
    by_cases h9 : (i = 0 ∧ d = 128) ∨ i = 9
    · rw [if_pos h9]; exact .inr rfl
    · rw [if_neg h9]
      have hp := pow7 i (by omega)
      by_cases hd : d < 128
      · rw [if_pos hd]; exact ⟨by omega, by omega, [d], rfl⟩
      · rw [if_neg hd]
        have := numT_range r (i + 1) (n * 128 + d % 128) (by omega) (by omega) (by rw [show 7 * (i + 1) = 7 * i + 7 by omega, Int.pow_add]; omega) (fun x hx => hu x (by simp [hx]))
        revert this
        cases numT (i + 1) (n * 128 + d % 128) r with
        | got m q => rintro ⟨a, b, p, hp⟩; exact ⟨a, b, d :: p, by rw [hp]; rfl⟩
        | bad e => exact id
structure NumAns (w0 : World) (g : Nat) (s : Rs) (w : World) (e : Ending) (w' : World) : Prop where
  ret : e = .returned (.int .u64 s.num.1)
  at_ : RX w0 g s.num.2 w'
  grown : w.grownBy w' (some g)
theorem num_range (s : Rs) (hu : ∀ x ∈ s.l, 0 ≤ x ∧ x ≤ 255) : 0 ≤ s.num.1 ∧ s.num.1 ≤ 9223372036854775807 := by
  have := numT_range s.l 0 0 (by omega) (by omega) (by simp) hu
  unfold Rs.num
  split
  · exact ⟨Int.le_refl 0, by show (0 : Int) ≤ _; omega⟩
  · revert this
    cases numT 0 0 s.l with
    | got n r => rintro ⟨a, b, _⟩; exact ⟨a, b⟩
    | bad e => intro _; exact ⟨Int.le_refl 0, by show (0 : Int) ≤ _; omega⟩
theorem lose_calls0 (w0 : World) (g : Nat) (l : List Int) (k : Int) (w : World) (h : RX w0 g ⟨l, 0⟩ w) :
    Calls Tryz.prog 65 #[.pointer (some ⟨g, 0, none⟩), .int .i64 k] w fun e w' => e = .returned (.tuple #[]) ∧ RX w0 g ⟨l, k⟩ w' ∧ w.grownBy w' (some g) := lose_calls w0 g ⟨l, 0⟩ k w h
theorem lose_calls1 (w0 : World) (g : Nat) (l : List Int) (f k : Int) (hf : f ≠ 0) (w : World) (h : RX w0 g ⟨l, f⟩ w) :
    Calls Tryz.prog 65 #[.pointer (some ⟨g, 0, none⟩), .int .i64 k] w fun e w' => e = .returned (.tuple #[]) ∧ RX w0 g ⟨l, f⟩ w' ∧ w.grownBy w' (some g) := by
  have := lose_calls w0 g ⟨l, f⟩ k w h
  simp only [if_neg hf] at this
  exact this
theorem num_got {l r : List Int} {n : Int} (h : numT 0 0 l = .got n r) : Rs.num ⟨l, 0⟩ = (n, ⟨r, 0⟩) := by unfold Rs.num; simp [h]
theorem num_bad {l : List Int} {e : Int} (h : numT 0 0 l = .bad e) : Rs.num ⟨l, 0⟩ = (0, ⟨l, e⟩) := by unfold Rs.num; simp [h]
set_option maxRecDepth 100000 in
set_option maxHeartbeats 8000000 in
theorem number_calls (w0 : World) (g : Nat) (s : Rs) (w : World) (h : RX w0 g s w) : Calls Tryz.prog 64 #[.pointer (some ⟨g, 0, none⟩)] w (NumAns w0 g s w) := by
  have HS := Aside0.mk h
  obtain ⟨l, f⟩ := s
  obtain ⟨h1, h2, A, c, hb, hc, hm, hu, hC⟩ := h
  simp only at hb hc hm hu hC
  have c0 := blk_cell hb 0
  have c1 := blk_cell hb 1
  have f0 := blk_frozen hb 0
  have HC := Aside0.mk (Kd.C_below hC h1)
  have HC0 := Aside0.mk hC
  have HU := Aside0.mk hu
  have HB := Aside0.mk hb
  clear hb h1 hu hC
  by_cases hf : f = 0
  · subst hf
    have hl := fun k W => lose_calls0 w0 g l k W
    have LOSE : ∀ k w1, RX w0 g ⟨l, k⟩ w1 → w.grownBy w1 (some g) → numT 0 0 l = .bad k → NumAns w0 g ⟨l, 0⟩ w (.returned (.int .u64 0)) w1 := fun k w1 hr hg he => ⟨by rw [num_bad he], by rw [num_bad he]; exact hr, hg⟩
    go_enter Tryz.func64, Tryz.ntmps64
    go_wp2_with fail
    go_loopw [3, 4, 5, 11] (fun v3 _ _ v11 wr => ∃ (j : Nat) (n : Int), j ≤ l.length ∧ j ≤ 9 ∧ v11 = .int .i64 j ∧ v3 = .int .u64 n ∧ 0 ≤ n ∧ n < 2 ^ (7 * j) ∧ wr = w ∧ numT j n (l.drop j) = numT 0 0 l) (fun _ _ _ v11 _ => l.length - (intOf v11).toNat)
    case atStart => exact ⟨0, 0, Nat.zero_le _, by omega, rfl, rfl, by omega, by simp, rfl, by simp⟩
    case round =>
      obtain ⟨j, n, hj, hj9, rfl, rfl, hn0, hn1, rfl, hT⟩ := hrel
      by_cases hlt : j < l.length
      · obtain ⟨ad, rfl, hcell⟩ := Kd.at_int HC.out (j : Int) (by omega) (by omega)
        have e1 : rd l (j : Int) = l[j] := by unfold rd; rw [Int.toNat_natCast, List.getD_eq_getElem?_getD, List.getElem?_eq_getElem hlt]; rfl
        rw [e1] at hcell
        simp only [Int.toNat_natCast] at hcell
        have hd := HU.out l[j] (List.getElem_mem hlt)
        rw [List.drop_eq_getElem_cons hlt] at hT
        generalize l[j] = d at hcell hd hT
        have HT := Aside0.mk hT
        clear e1 hT
        by_cases hz : j = 0 ∧ d = 128
        · have z1 : ((j : Int) == 0) = true := by simp; omega
          have z2 : (d == 128) = true := by simp; omega
          have HB2 := Aside0.mk (show numT 0 0 l = .bad 2 by rw [← HT.out, numT, if_pos (.inl hz)])
          clear hz hd
          go_wp2_with (go_at_call 65; refine (hl _ _ HS.out).mono ?_; rintro e w1 ⟨rfl, hr, hg⟩; have HR := Aside0.mk hr; have HG := Aside0.mk hg; clear hr hg)
          exact bodyPost_ret (v := .int .u64 0) (by simp [results, Tryz.results64, go_sem]) rfl (LOSE 2 _ HR.out HG.out HB2.out)
        · by_cases h9 : j = 9
          · have z0 : ((j : Int) == 9) = true := by simp; omega
            have z1 : ((j : Int) == 0) = false := by simp; omega
            have HB2 := Aside0.mk (show numT 0 0 l = .bad 2 by rw [← HT.out, numT, if_pos (.inr h9)])
            clear h9 hz hd
            go_wp2_with (go_at_call 65; refine (hl _ _ HS.out).mono ?_; rintro e w1 ⟨rfl, hr, hg⟩; have HR := Aside0.mk hr; have HG := Aside0.mk hg; clear hr hg)
            exact bodyPost_ret (v := .int .u64 0) (by simp [results, Tryz.results64, go_sem]) rfl (LOSE 2 _ HR.out HG.out HB2.out)
          · have hp := pow7 j (by omega)
            have hbits := shl_or n d hn0 (by omega) hd.1 hd.2
            have hn2 : n * 128 + d % 128 < 2 ^ (7 * (j + 1)) := by
              rw [show 7 * (j + 1) = 7 * j + 7 by omega, Int.pow_add]
              omega
            have hn3 : 0 ≤ n * 128 + d % 128 ∧ n * 128 + d % 128 ≤ 9223372036854775807 := by omega
            have HT2 := Aside0.mk (show (if d < 128 then NumR.got (n * 128 + d % 128) (l.drop (j + 1)) else numT (j + 1) (n * 128 + d % 128) (l.drop (j + 1))) = numT 0 0 l by
              have := HT.out
              rw [numT, if_neg (show ¬((j = 0 ∧ d = 128) ∨ j = 9) from fun h => h.elim hz h9)] at this
              exact this)
            generalize hm2 : n * 128 + d % 128 = m at hbits hn2 hn3 HT2
            have HN2 := Aside0.mk hn2
            have HN3 := Aside0.mk hn3
            clear hn2 hn3 hn0 hn1 hp hm2
            have z1 : ((j : Int) == 9) = false := by simp; omega
            have HD := Aside0.mk hd
            obtain ⟨zb, hzb⟩ : ∃ zb, ((j : Int) == 0) = zb := ⟨_, rfl⟩
            have hzd : zb = true → (d == 128) = false := by
              intro h
              rw [h] at hzb
              have : (j : Int) = 0 := by simpa using hzb
              simp
              omega
            have HJ := Aside0.mk (show j + 1 ≤ 9 by omega)
            clear hz h9 hd
            by_cases h128 : d < 128
            · have HG2 := Aside0.mk (show numT 0 0 l = .got m (l.drop (j + 1)) by rw [← HT2.out, if_pos h128])
              obtain ⟨A1, hcut, hA1⟩ := cut_from (some ad) l.length c (j + 1) ((j : Int) + 1) (by omega) (by omega)
              have HA1 := Aside0.mk (hA1 w0 l hc HC0.out)
              have fin : RX w0 g ⟨l.drop (j + 1), 0⟩ (wr.setCell ⟨g, 0, none⟩ (.slice A1 (l.length - (j + 1)) (c - (j + 1)))) := by
                have hlen : (l.drop (j + 1)).length = l.length - (j + 1) := List.length_drop
                refine ⟨HS.out.1.setCell h2 _, h2, A1, c - (j + 1), ?_, by simp only [hlen]; omega, by simp only [hlen]; omega, fun x hx => HU.out x (List.mem_of_mem_drop hx), ?_⟩
                · simp only [hlen]
                  simpa using blk_set HB.out 0 (.slice A1 (l.length - (j + 1)) (c - (j + 1)))
                · simp only [hlen]
                  exact HA1.out
              have FIN := Aside0.mk fin
              have FIN2 := Aside0.mk (grown_set (World.grownBy.refl wr (some g)) 0 (.slice A1 (l.length - (j + 1)) (c - (j + 1))))
              clear hA1 fin
              cases zb with
              | true =>
                have z2 := hzd rfl
                clear hzd
                go_wp2_with fail
                exact bodyPost_ret (v := .int .u64 m) (by simp [results, Tryz.results64, go_sem]) rfl ⟨by rw [num_got HG2.out], by rw [num_got HG2.out]; exact FIN.out, FIN2.out⟩
              | false =>
                clear hzd
                go_wp2_with fail
                exact bodyPost_ret (v := .int .u64 m) (by simp [results, Tryz.results64, go_sem]) rfl ⟨by rw [num_got HG2.out], by rw [num_got HG2.out]; exact FIN.out, FIN2.out⟩
            · have HG2 := Aside0.mk (show numT (j + 1) m (l.drop (j + 1)) = numT 0 0 l by rw [← HT2.out, if_neg h128])
              cases zb with
              | true =>
                have z2 := hzd rfl
                clear hzd
                go_wp2_with fail
                go_roundw
                case rel => exact ⟨j + 1, m, by omega, HJ.out, by simp, by first | rfl | trivial, HN3.out.1, HN2.out, by first | rfl | trivial, HG2.out⟩
                case measure => simp [intOf]; omega
              | false =>
                clear hzd
                go_wp2_with fail
                go_roundw
                case rel => exact ⟨j + 1, m, by omega, HJ.out, by simp, by first | rfl | trivial, HN3.out.1, HN2.out, by first | rfl | trivial, HG2.out⟩
                case measure => simp [intOf]; omega
      · have hge : j = l.length := by omega
        clear hn0 hn1 hj hlt
        subst hge
        rw [List.drop_length] at hT
        have HB2 := Aside0.mk (show numT 0 0 l = .bad 17 by rw [← hT, numT])
        clear hT
        go_wp2_with (go_at_call 65; refine (hl _ _ HS.out).mono ?_; rintro e w1 ⟨rfl, hr, hg⟩; have HR := Aside0.mk hr; have HG := Aside0.mk hg; clear hr hg)
        exact bodyPost_ret (v := .int .u64 0) (by simp [results, Tryz.results64, go_sem]) rfl (LOSE 17 _ HR.out HG.out HB2.out)
  · have hf1 : (f != 0) = true := by simpa using hf
    have hf2 : (f == 0) = false := by simpa using hf
    have hnum : Rs.num ⟨l, f⟩ = (0, ⟨l, f⟩) := by unfold Rs.num; rw [if_pos hf]
    have HNU := Aside0.mk hnum
    have hl := fun k W => lose_calls1 w0 g l f k hf W
    clear hnum hf
    go_enter Tryz.func64, Tryz.ntmps64
    go_wp2_with fail
    go_loopw [3, 4, 5, 11] (fun v3 _ _ v11 wr => v11 = .int .i64 0 ∧ wr = w) (fun _ _ _ v11 _ => 0)
    case atStart => exact ⟨rfl, rfl⟩
    case round =>
      obtain ⟨rfl, rfl⟩ := hrel
      by_cases hlt : 0 < l.length
      · obtain ⟨ad, rfl, hcell⟩ := Kd.at_int HC.out 0 (by omega) (by omega)
        have hcell2 : wr.cell? ad = some (.int .u8 (rd l 0)) := by simpa [Addr.add] using hcell
        go_wp2_with fail
        exact bodyPost_ret (v := .int .u64 0) (by simp [results, Tryz.results64, go_sem]) rfl ⟨by rw [HNU.out], by rw [HNU.out]; exact HS.out, World.grownBy.refl _ _⟩
      · go_wp2_with (go_at_call 65; refine (hl _ _ HS.out).mono ?_; rintro e w1 ⟨rfl, hr, hg⟩; have HR := Aside0.mk hr; have HG := Aside0.mk hg; clear hr hg)
        exact bodyPost_ret (v := .int .u64 0) (by simp [results, Tryz.results64, go_sem]) rfl ⟨by rw [HNU.out], by rw [HNU.out]; exact HR.out, HG.out⟩
theorem RX.cells {w0 W : World} {g : Nat} {s : Rs} (h : RX w0 g s W) : ∃ (A : Option Addr) (c : Nat), W.cell? ⟨g, 0, none⟩ = some (.slice A s.l.length c) ∧ W.cell? ⟨g, 1, none⟩ = some (.int .i64 s.f) := by
  obtain ⟨_, _, A, c, hb, _⟩ := h
  exact ⟨A, c, blk_cell hb 0, blk_cell hb 1⟩
theorem RX.u8 {w0 W : World} {g : Nat} {s : Rs} (h : RX w0 g s W) : ∀ x ∈ s.l, 0 ≤ x ∧ x ≤ 255 := by
  obtain ⟨_, _, A, c, _, _, _, hu, _⟩ := h
  exact hu
structure UpAns (w0 : World) (g : Nat) (s : Rs) (most : Int) (w : World) (e : Ending) (w' : World) : Prop where
  ret : e = .returned (.int .i64 (s.up most).1)
  at_ : RX w0 g (s.up most).2 w'
  grown : w.grownBy w' (some g)
theorem up_range (s : Rs) (most : Int) (hm : 0 ≤ most) (hu : ∀ x ∈ s.l, 0 ≤ x ∧ x ≤ 255) : 0 ≤ (s.up most).1 ∧ (s.up most).1 ≤ most := by
  have := num_range s hu
  unfold Rs.up
  split
  · split
    · simp; omega
    · omega
  · simp; omega
set_option maxRecDepth 100000 in
set_option maxHeartbeats 8000000 in
theorem up_calls (w0 : World) (g : Nat) (s : Rs) (most : Int) (w : World) (h : RX w0 g s w) : Calls Tryz.prog 37 #[.pointer (some ⟨g, 0, none⟩), .int .i64 most] w (UpAns w0 g s most w) := by
  have hn := number_calls w0 g s w h
  have hl := fun l k W => lose_calls0 w0 g l k W
  have hrg := num_range s h.u8
  have HUP := Aside0.mk (show s.up most = if s.num.2.f = 0 then (if s.num.1 > most then (0, ⟨s.num.2.l, 1⟩) else s.num) else (0, s.num.2) from rfl)
  clear h
  go_enter Tryz.func37, Tryz.ntmps37
  go_upto_region 2 with (go_at_call 64; refine hn.mono ?_; rintro e w1 ⟨rfl, hr, hg⟩; have HR := Aside0.mk hr; have HG := Aside0.mk hg; clear hr hg hn)
  generalize s.num = N at HR HUP hrg ⊢
  obtain ⟨n, l1, f1⟩ := N
  simp only at HR HUP hrg ⊢
  have hw : IntKind.i64.wrap n = n := by rw [IntKind.wrap_i64]; omega
  obtain ⟨A, c, c0, c1⟩ := HR.out.cells
  simp only at c0 c1
  by_cases hf : f1 = 0
  · subst hf
    by_cases hgt : n > most
    · have HGT := Aside0.mk (show s.up most = (0, ⟨l1, 1⟩) by rw [HUP.out, if_pos rfl, if_pos hgt])
      go_wp2_with (go_at_call 65; refine (hl _ _ _ HR.out).mono ?_; rintro e w2 ⟨rfl, hr, hg⟩; obtain ⟨_, _, d0, d1⟩ := hr.cells; have HR2 := Aside0.mk hr; have HG2 := Aside0.mk hg; clear hr hg)
      exact bodyPost_ret (v := .int .i64 0) (by simp [results, Tryz.results37, go_sem]) rfl ⟨by rw [HGT.out], by rw [HGT.out]; exact HR2.out, HG.out.trans HG2.out⟩
    · have HLE := Aside0.mk (show s.up most = (n, ⟨l1, 0⟩) by rw [HUP.out, if_pos rfl, if_neg hgt])
      go_wp2_with fail
      exact bodyPost_ret (v := .int .i64 n) (by simp [results, Tryz.results37, go_sem]) rfl ⟨by rw [HLE.out], by rw [HLE.out]; exact HR.out, HG.out⟩
  · have hf1 : (f1 != 0) = true := by simpa using hf
    have hf2 : (f1 == 0) = false := by simpa using hf
    have HLE := Aside0.mk (show s.up most = (0, ⟨l1, f1⟩) by rw [HUP.out, if_neg hf])
    go_wp2_with fail
    exact bodyPost_ret (v := .int .i64 0) (by simp [results, Tryz.results37, go_sem]) rfl ⟨by rw [HLE.out], by rw [HLE.out]; exact HR.out, HG.out⟩
structure BytesAns (w0 : World) (g : Nat) (s : Rs) (n : Int) (w : World) (e : Ending) (w' : World) : Prop where
  out : ∃ A c, e = .returned (.slice A (s.bytes n).1.length c) ∧ Kd.C (Kd.int .u8) w0 A (s.bytes n).1.length (s.bytes n).1
  at_ : RX w0 g (s.bytes n).2 w'
  grown : w.grownBy w' (some g)
set_option maxRecDepth 100000 in
set_option maxHeartbeats 8000000 in
theorem bytes_calls (w0 : World) (g : Nat) (s : Rs) (n : Int) (hn0 : 0 ≤ n) (w : World) (h : RX w0 g s w) : Calls Tryz.prog 91 #[.pointer (some ⟨g, 0, none⟩), .int .i64 n] w (BytesAns w0 g s n w) := by
  have hl := fun l k W => lose_calls0 w0 g l k W
  obtain ⟨m, rfl⟩ := Int.eq_ofNat_of_zero_le hn0
  have HS := Aside0.mk h
  obtain ⟨l, f⟩ := s
  obtain ⟨h1, h2, A, c, hb, hc, hm, hu, hC⟩ := h
  simp only at hb hc hm hu hC
  have c0 := blk_cell hb 0
  have c1 := blk_cell hb 1
  have f0 := blk_frozen hb 0
  have HC0 := Aside0.mk hC
  have HU := Aside0.mk hu
  have HB := Aside0.mk hb
  clear hb h1 hu hC
  by_cases hf : f = 0
  · subst hf
    by_cases hgt : (m : Int) > (l.length : Int)
    · have HE := Aside0.mk (show Rs.bytes ⟨l, 0⟩ (m : Int) = ([], ⟨l, 17⟩) by unfold Rs.bytes; rw [if_neg (by simp), if_pos hgt])
      go_enter Tryz.func91, Tryz.ntmps91
      go_wp2_with (go_at_call 65; refine (hl _ _ _ HS.out).mono ?_; rintro e w2 ⟨rfl, hr, hg⟩; obtain ⟨_, _, d0, d1⟩ := hr.cells; have HR2 := Aside0.mk hr; have HG2 := Aside0.mk hg; clear hr hg)
      exact bodyPost_ret (v := .slice none 0 0) (by simp [results, Tryz.results91, go_sem]) rfl ⟨by rw [HE.out]; exact ⟨none, 0, rfl, Kd.C_nil _ _⟩, by rw [HE.out]; exact HR2.out, HG2.out⟩
    · have hml : m ≤ l.length := by omega
      have HE := Aside0.mk (show Rs.bytes ⟨l, 0⟩ (m : Int) = (l.take m, ⟨l.drop m, 0⟩) by unfold Rs.bytes; rw [if_neg (by simp), if_neg hgt]; simp)
      obtain ⟨A1, hcut, hA1⟩ := cut_from A l.length c m (m : Int) rfl hml
      have HA1 := Aside0.mk (hA1 w0 l hc HC0.out)
      have fin : RX w0 g ⟨l.drop m, 0⟩ (w.setCell ⟨g, 0, none⟩ (.slice A1 (l.length - m) (c - m))) := by
        have hlen : (l.drop m).length = l.length - m := List.length_drop
        refine ⟨HS.out.1.setCell h2 _, h2, A1, c - m, ?_, by simp only [hlen]; omega, by simp only [hlen]; omega, fun x hx => HU.out x (List.mem_of_mem_drop hx), ?_⟩
        · simp only [hlen]
          simpa using blk_set HB.out 0 (.slice A1 (l.length - m) (c - m))
        · simp only [hlen]
          exact HA1.out
      have FIN := Aside0.mk fin
      have FIN2 := Aside0.mk (grown_set (World.grownBy.refl w (some g)) 0 (.slice A1 (l.length - m) (c - m)))
      have htk : (l.take m).length = m := by rw [List.length_take]; omega
      have FIN3 := Aside0.mk (show Kd.C (Kd.int .u8) w0 A (l.take m).length (l.take m) from Kd.C_take HC0.out hml)
      have HTK := Aside0.mk htk
      clear hA1 fin htk
      go_enter Tryz.func91, Tryz.ntmps91
      go_wp2_with fail
      exact bodyPost_ret (v := .slice A m m) (by simp [results, Tryz.results91, go_sem]) rfl ⟨by rw [HE.out]; exact ⟨A, m, by simp only [HTK.out], FIN3.out⟩, by rw [HE.out]; exact FIN.out, FIN2.out⟩
  · have hf1 : (f != 0) = true := by simpa using hf
    have hf2 : (f == 0) = false := by simpa using hf
    have HE := Aside0.mk (show Rs.bytes ⟨l, f⟩ (m : Int) = ([], ⟨l, f⟩) by unfold Rs.bytes; rw [if_pos hf])
    go_enter Tryz.func91, Tryz.ntmps91
    go_wp2_with fail
    exact bodyPost_ret (v := .slice none 0 0) (by simp [results, Tryz.results91, go_sem]) rfl ⟨by rw [HE.out]; exact ⟨none, 0, rfl, Kd.C_nil _ _⟩, by rw [HE.out]; exact HS.out, World.grownBy.refl _ _⟩
theorem C_str {w : World} {A : Option Addr} {n c : Nat} {xs : List Int} (hl : n = xs.length) (hC : Kd.C (Kd.int .u8) w A n xs) (W : World) (hW : Below w.heap.size w W) : (convert 22 9 (.slice A n c)).run Tryz.prog W = .ok (.string (strOfNums xs)) W := by
  subst hl
  exact Kd.C_string Tryz.underlying22 Tryz.underlying5 Tryz.underlying9 (Kd.C_below hC hW)
structure TextAns (w0 : World) (g : Nat) (s : Rs) (most : Int) (w : World) (e : Ending) (w' : World) : Prop where
  ret : e = .returned (.string (strOfNums (s.text most).1))
  at_ : RX w0 g (s.text most).2 w'
  grown : w.grownBy w' (some g)
set_option maxRecDepth 100000 in
set_option maxHeartbeats 8000000 in
theorem text_calls (w0 : World) (g : Nat) (s : Rs) (most : Int) (hm : 0 ≤ most) (w : World) (h : RX w0 g s w) : Calls Tryz.prog 80 #[.pointer (some ⟨g, 0, none⟩), .int .i64 most] w (TextAns w0 g s most w) := by
  have hr0 := (up_range s most hm h.u8).1
  have hn : Calls Tryz.prog 37 #[.pointer (some ⟨g, 0, none⟩), .int .i64 most] w fun e w' => e = .returned (.int .i64 (s.up most).1) ∧ RX w0 g (s.up most).2 w' ∧ w.grownBy w' (some g) := (up_calls w0 g s most w h).mono fun e w' h => ⟨h.ret, h.at_, h.grown⟩
  have hbb := fun w1 (hr : RX w0 g (s.up most).2 w1) => bytes_calls w0 g (s.up most).2 (s.up most).1 hr0 w1 hr
  have FIN : ∀ w2 w1, RX w0 g ((s.up most).2.bytes (s.up most).1).2 w2 → w.grownBy w1 (some g) → w1.grownBy w2 (some g) → TextAns w0 g s most w (.returned (.string (strOfNums ((s.up most).2.bytes (s.up most).1).1))) w2 := fun w2 w1 a b c => ⟨rfl, a, b.trans c⟩
  clear h hm
  generalize hU : s.up most = U at hn hr0 hbb FIN
  clear hU
  obtain ⟨n, s1⟩ := U
  simp only at hn hr0 hbb FIN
  go_enter Tryz.func80, Tryz.ntmps80
  go_wp2_with (first
    | (go_at_call 37; refine hn.mono ?_; rintro e w1 ⟨rfl, hr, hg⟩; have HG := Aside0.mk hg; have hb1 := hbb w1 hr; clear hr hg hn hbb)
    | (go_at_call 91; refine hb1.mono ?_; rintro e w2 ⟨⟨A, c, rfl, hC⟩, hr, hg⟩; have hcv := C_str (c := c) rfl hC w2 hr.1; have HR2 := Aside0.mk hr; have HG2 := Aside0.mk hg; clear hr hg hC hb1))
  exact bodyPost_ret (v := .string (strOfNums (s1.bytes n).1)) (by simp [results, Tryz.results80, go_sem]) rfl (FIN _ _ HR2.out HG.out HG2.out)
theorem open_calls (A : Option Addr) (c : Nat) (l : List Int) (w : World) (hC : Kd.C (Kd.int .u8) w A l.length l) (hc : l.length ≤ c) (hl : l.length ≤ 1000000000) (hu : ∀ x ∈ l, 0 ≤ x ∧ x ≤ 255) :
    Calls Tryz.prog 36 #[.slice A l.length c] w fun e w' => e = .returned (.pointer (some ⟨w.heap.size, 0, none⟩)) ∧ RX w w.heap.size ⟨l, 0⟩ w' ∧ w' = w.alloc (.cells #[.slice A l.length c, .int .i64 0] 112) := by
  have HC := Aside0.mk (show RX w w.heap.size ⟨l, 0⟩ (w.alloc (.cells #[.slice A l.length c, .int .i64 0] 112)) from ⟨(Below.refl _ w).alloc (Nat.le_refl _) _, Nat.le_refl _, A, c, heap_alloc_new w _, hc, hl, hu, hC⟩)
  clear hC hc hl hu
  generalize hn : l.length = n
  rw [hn] at HC
  go_enter Tryz.func36, Tryz.ntmps36
  go_wp2
  go_ret
  exact ⟨rfl, HC.out, rfl⟩
theorem fail_calls (w0 : World) (g : Nat) (s : Rs) (w : World) (h : RX w0 g s w) : Calls Tryz.prog 38 #[.pointer (some ⟨g, 0, none⟩)] w fun e w' => e = .returned (.int .i64 s.f) ∧ w' = w := by
  obtain ⟨_, _, d0, d1⟩ := h.cells
  clear h
  go_enter Tryz.func38, Tryz.ntmps38
  go_wp2
  go_ret
  exact ⟨rfl, rfl⟩
theorem left_calls (w0 : World) (g : Nat) (s : Rs) (w : World) (h : RX w0 g s w) : Calls Tryz.prog 39 #[.pointer (some ⟨g, 0, none⟩)] w fun e w' => e = .returned (.int .i64 s.l.length) ∧ w' = w := by
  obtain ⟨_, _, d0, d1⟩ := h.cells
  clear h
  go_enter Tryz.func39, Tryz.ntmps39
  go_wp2
  go_ret
  exact ⟨rfl, rfl⟩
end Go.Proofs.YtdooajmgfoobfaaGreatDoor.H
