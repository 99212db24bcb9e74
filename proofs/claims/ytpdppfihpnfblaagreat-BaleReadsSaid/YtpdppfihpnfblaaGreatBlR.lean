/- coil's Reel: what its methods leave; of a number no more than its range. -/
import Derived.Test.YtpdppfihpnfblaaGreatPAx
import Derived.Lib.VarintBits
import Derived.BigCall
import Derived.BigGuard
namespace Go.Proofs.YtpdppfihpnfblaaGreat.H
open Go.RowKit Go.Proofs.YtpdppfihpnfblaaGreat.PA Go.Proofs.YtpdppfihpnfblaaGreatW.PrintWords Go.Proofs.YtpdppfihpnfblaaGreatW.PrintLast Go.Proofs.YtpdppfihpnfblaaGreatW.PrintMore
set_option linter.unusedVariables false
set_option linter.unusedSimpArgs false
/-- A reel: what it is upon is elder than w0's end. -/
def RS (w0 : World) (g : Nat) (f : Int) (W : World) : Prop := Below w0.heap.size w0 W ∧ w0.heap.size ≤ g ∧ ∃ (A : Option Addr) (c : Nat) (l : List Int), W.heap[g]? = some (.cells #[.slice A l.length c, .int .i64 f] 145 (0, 0)) ∧ l.length ≤ c ∧ l.length ≤ 1000000 ∧ (∀ x ∈ l, 0 ≤ x ∧ x ≤ 255) ∧ Kd.C (Kd.int .u8) w0 A l.length l
theorem RS.lt {w0 W : World} {g : Nat} {f : Int} (h : RS w0 g f W) : g < W.heap.size := by
  obtain ⟨_, _, A, c, l, hb, _⟩ := h
  exact blk_lt hb
theorem RS.below {w0 W : World} {g : Nat} {f : Int} (h : RS w0 g f W) : Below w0.heap.size w0 W := h.1
/-- A world that differs from the one only by blocks that are new, and by g. -/
theorem grown_set {w W : World} {g : Nat} (h : w.grownBy W (some g)) (j : Nat) (v : Value) : w.grownBy (W.setCell ⟨g, j, none⟩ v) (some g) :=
  ⟨h.os, h.tape, h.output, by rw [World.size_setCell]; exact h.size, fun i hi hne => (Below.heap_setCell W _ v i (fun e => hne (by rw [e]))).trans (h.block i hi hne)⟩
theorem RS.setF {w0 W : World} {g : Nat} {f : Int} (h : RS w0 g f W) (f' : Int) : RS w0 g f' (W.setCell ⟨g, 1, none⟩ (.int .i64 f')) := by
  obtain ⟨h1, h2, A, c, l, hb, r⟩ := h
  exact ⟨h1.setCell h2 _, h2, A, c, l, by simpa using blk_set hb 1 (.int .i64 f'), r⟩
theorem RS.kept {w0 W W' : World} {g : Nat} {f : Int} (h : RS w0 g f W) (hb : Below W.heap.size W W') : RS w0 g f W' := by
  obtain ⟨h1, h2, A, c, l, hk, r⟩ := h
  exact ⟨h1.trans (hb.mono h1.size), h2, A, c, l, blk_below hk hb, r⟩
/-- A store into a block that is none of the reel's, nor w0's. -/
theorem RS.far {w0 W : World} {g : Nat} {f : Int} (h : RS w0 g f W) {b : Nat} (hb : w0.heap.size ≤ b) (hne : b ≠ g) (j : Nat) (v : Value) : RS w0 g f (W.setCell ⟨b, j, none⟩ v) := by
  obtain ⟨h1, h2, A, c, l, hk, r⟩ := h
  exact ⟨h1.setCell hb _, h2, A, c, l, blk_far hk (p := ⟨b, j, none⟩) (Ne.symm hne) v, r⟩
theorem lose_calls (w0 : World) (g : Nat) (f k : Int) (w : World) (h : RS w0 g f w) :
    Calls Tryz.prog 65 #[.pointer (some ⟨g, 0, none⟩), .int .i64 k] w fun e w' => e = .returned (.tuple #[]) ∧ RS w0 g (if f = 0 then k else f) w' ∧ w.grownBy w' (some g) := by
  have HS := Aside0.mk h
  obtain ⟨h1, h2, A, c, l, hb, r⟩ := h
  have c1 := blk_cell hb 1
  have f1 := blk_frozen hb 1
  clear hb r h1
  by_cases hf : f = 0
  · subst hf
    go_enter Tryz.func65, Tryz.ntmps65
    go_wp2
    go_end0
    exact ⟨rfl, by first | exact HS.out.setF k | (rw [if_pos rfl]; exact HS.out.setF k), grown_set (World.grownBy.refl _ _) 1 _⟩
  · have hf' : (f == 0) = false := by simpa using hf
    have HF := Aside0.mk hf
    go_enter Tryz.func65, Tryz.ntmps65
    go_wp2
    go_end0
    exact ⟨rfl, by first | exact HS.out | (rw [if_neg HF.out]; exact HS.out), World.grownBy.refl _ _⟩
theorem infoB : ∃ i : TypeInfo, Tryz.prog.info? 5 = some i ∧ i.size = 1 := by
  obtain ⟨i, hi, hz⟩ := Option.map_eq_some_iff.1 (show (Tryz.prog.info? 5).map (·.size) = some 1 by kernel_rfl)
  exact ⟨i, hi, hz⟩
theorem reads_of_C {w : World} {A : Option Addr} {n : Nat} {xs : List Int} {k : IntKind} (h : Kd.C (Kd.int k) w A n xs) : ReadsInt w k A n xs := by
  obtain ⟨h1, h2, h3⟩ := h
  refine ⟨h1, h2, fun hp => ?_⟩
  obtain ⟨ad, e, hc⟩ := h3 hp
  refine ⟨ad, e, fun j hj => ?_⟩
  have hx : xs[j]? = some (xs.getD j 0) := by rw [List.getD_eq_getElem?_getD, List.getElem?_eq_getElem (by omega)]; rfl
  obtain ⟨c, _, hK, hu⟩ := hc j _ hx
  have hK2 : c = [.int k (xs.getD j 0)] := hK
  have := hu 0 (.int k (xs.getD j 0)) (by rw [hK2]; rfl)
  have e2 : j * (Kd.int k).sz + 0 = j := by show j * 1 + 0 = j; omega
  rwa [e2] at this
theorem C_of_reads {w : World} {A : Option Addr} {n : Nat} {xs : List Int} {k : IntKind} (h : ReadsInt w k A n xs) : Kd.C (Kd.int k) w A n xs := by
  obtain ⟨h1, h2, h3⟩ := h
  refine ⟨h1, h2, fun hp => ?_⟩
  obtain ⟨ad, e, hc⟩ := h3 hp
  refine ⟨ad, e, fun j p hj => ⟨[.int k p], rfl, rfl, fun i u hi => ?_⟩⟩
  have hjl := (List.getElem?_eq_some_iff.1 hj).1
  have hi0 : i = 0 := by
    cases i with
    | zero => rfl
    | succ i => simp at hi
  subst hi0
  obtain rfl : Value.int k p = u := by simpa using hi
  have e2 : j * (Kd.int k).sz + 0 = j := by show j * 1 + 0 = j; omega
  rw [e2, hc j (by omega), List.getD_eq_getElem?_getD, hj]
  rfl
/-- A cut from m on, whatever the room. -/
theorem cut_from (A : Option Addr) (n c : Nat) (m : Nat) (k : Int) (hk : k = m) (hm : m ≤ n) :
    ∃ A' : Option Addr, (∀ W : World, (Instr.slice 22 (.slice A n c) (some (.int .i64 k)) none none).run Tryz.prog W = .ok (.slice A' (n - m) (c - m)) W) ∧
      ∀ (w : World) (xs : List Int), n ≤ c → Kd.C (Kd.int .u8) w A n xs → Kd.C (Kd.int .u8) w A' (n - m) (xs.drop m) := by
  subst hk
  obtain ⟨i, hi, hz⟩ := infoB
  obtain ⟨A', h1, h2⟩ := print_cut (P := Tryz.prog) 22 5 .i64 Tryz.underlying22 hi hz A n c m hm
  exact ⟨A', h1, fun w xs hc h => C_of_reads (h2 w .u8 xs hc (reads_of_C h))⟩
theorem pow7 (j : Nat) (h : j ≤ 8) : (2 : Int) ^ (7 * j) ≤ 72057594037927936 := by
  have : j = 0 ∨ j = 1 ∨ j = 2 ∨ j = 3 ∨ j = 4 ∨ j = 5 ∨ j = 6 ∨ j = 7 ∨ j = 8 := by omega
  rcases this with rfl | rfl | rfl | rfl | rfl | rfl | rfl | rfl | rfl <;> decide
theorem shl_or (n d : Int) (h0 : 0 ≤ n) (h1 : n < 72057594037927936) (h2 : 0 ≤ d) (h3 : d ≤ 255) : bits .or .u64 (IntKind.u64.wrap (n * 128)) (IntKind.u64.wrap (bits .and .u8 d 127)) = n * 128 + d % 128 := by
  rw [u8_and127 d h2 (by omega), wraps_u64 (n * 128) (by omega) (by omega), wraps_u64 (d % 128) (by omega) (by omega)]
  exact bits_join .u64 64 (by decide) wraps_u64 7 (n * 128) (d % 128) (by omega) (by omega) (by omega) (by omega) (by omega) (by omega)
theorem number_calls (w0 : World) (g : Nat) (f : Int) (w : World) (h : RS w0 g f w) : Calls Tryz.prog 66 #[.pointer (some ⟨g, 0, none⟩)] w fun e w' => (∃ n : Int, e = .returned (.int .u64 n) ∧ 0 ≤ n ∧ n ≤ 9223372036854775807) ∧ (∃ f, RS w0 g f w') ∧ w.grownBy w' (some g) := by
  have HS := Aside0.mk h
  obtain ⟨h1, h2, A, c, l, hb, hc, hm, hu, hC⟩ := h
  have c0 := blk_cell hb 0
  have c1 := blk_cell hb 1
  have f0 := blk_frozen hb 0
  have HC := Aside0.mk (Kd.C_below hC h1)
  have HC0 := Aside0.mk hC
  have HU := Aside0.mk hu
  have HB := Aside0.mk hb
  clear hb h1 hu hC
  have hl := fun f' W => lose_calls w0 g f f' W
  by_cases hf : f = 0
  · subst hf
    go_enter Tryz.func66, Tryz.ntmps66
    go_wp2_with fail
    go_loopw [3, 4, 5, 11] (fun v3 _ _ v11 wr => ∃ (j : Nat) (n : Int), j ≤ l.length ∧ j ≤ 9 ∧ v11 = .int .i64 j ∧ v3 = .int .u64 n ∧ 0 ≤ n ∧ n < 2 ^ (7 * j) ∧ wr = w) (fun _ _ _ v11 _ => l.length - (intOf v11).toNat)
    case atStart => exact ⟨0, 0, Nat.zero_le _, by omega, rfl, rfl, by omega, by simp, rfl⟩
    case round =>
      obtain ⟨j, n, hj, hj9, rfl, rfl, hn0, hn1, rfl⟩ := hrel
      by_cases hlt : j < l.length
      · obtain ⟨ad, rfl, hcell⟩ := Kd.at_int HC.out (j : Int) (by omega) (by omega)
        have e1 : rd l (j : Int) = l[j] := by unfold rd; rw [Int.toNat_natCast, List.getD_eq_getElem?_getD, List.getElem?_eq_getElem hlt]; rfl
        rw [e1] at hcell
        simp only [Int.toNat_natCast] at hcell
        have hd := HU.out l[j] (List.getElem_mem hlt)
        generalize l[j] = d at hcell hd
        clear e1
        by_cases hz : j = 0 ∧ d = 128
        · have z1 : ((j : Int) == 0) = true := by simp; omega
          have z2 : (d == 128) = true := by simp; omega
          clear hz hd
          go_wp2_with (go_at_call 65; refine (hl _ _ HS.out).mono ?_; rintro e w1 ⟨rfl, hr, hg⟩; have HR := Aside0.mk hr; have HG := Aside0.mk hg; clear hr hg)
          exact bodyPost_ret (v := .int .u64 0) (by simp [results, Tryz.results66, go_sem]) rfl ⟨⟨0, rfl, by omega, by omega⟩, ⟨_, HR.out⟩, HG.out⟩
        · by_cases h9 : j = 9
          · have z0 : ((j : Int) == 9) = true := by simp; omega
            have z1 : ((j : Int) == 0) = false := by simp; omega
            clear h9 hz hd
            go_wp2_with (go_at_call 65; refine (hl _ _ HS.out).mono ?_; rintro e w1 ⟨rfl, hr, hg⟩; have HR := Aside0.mk hr; have HG := Aside0.mk hg; clear hr hg)
            exact bodyPost_ret (v := .int .u64 0) (by simp [results, Tryz.results66, go_sem]) rfl ⟨⟨0, rfl, by omega, by omega⟩, ⟨_, HR.out⟩, HG.out⟩
          · have hp := pow7 j (by omega)
            have hbits := shl_or n d hn0 (by omega) hd.1 hd.2
            have hn2 : n * 128 + d % 128 < 2 ^ (7 * (j + 1)) := by
              rw [show 7 * (j + 1) = 7 * j + 7 by omega, Int.pow_add]
              omega
            have hn3 : 0 ≤ n * 128 + d % 128 ∧ n * 128 + d % 128 ≤ 9223372036854775807 := by omega
            generalize hm2 : n * 128 + d % 128 = m at hbits hn2 hn3
            have HN2 := Aside0.mk hn2
            have HN3 := Aside0.mk hn3
            clear hn2 hn3 hn0 hn1 hp hm2
            have z1 : ((j : Int) == 9) = false := by simp; omega
            have HD := Aside0.mk hd
            obtain ⟨zb, hzb⟩ : ∃ zb, ((j : Int) == 0) = zb := ⟨_, rfl⟩
            have hzd : zb = true → (d == 128) = false := by
              intro h
              rw [h] at hzb
              have : (j : Int) = 0 := by simpa using hzb
              simp
              omega
            have HJ := Aside0.mk (show j + 1 ≤ 9 by omega)
            clear hz h9 hd
            by_cases h128 : d < 128
            · obtain ⟨A1, hcut, hA1⟩ := cut_from (some ad) l.length c (j + 1) ((j : Int) + 1) (by omega) (by omega)
              have HA1 := Aside0.mk (hA1 w0 l hc HC0.out)
              have fin : ∃ f, RS w0 g f (wr.setCell ⟨g, 0, none⟩ (.slice A1 (l.length - (j + 1)) (c - (j + 1)))) := by
                have hlen : (l.drop (j + 1)).length = l.length - (j + 1) := List.length_drop
                refine ⟨0, HS.out.1.setCell h2 _, h2, A1, c - (j + 1), l.drop (j + 1), ?_, by omega, by omega, fun x hx => HU.out x (List.mem_of_mem_drop hx), ?_⟩
                · rw [hlen]
                  simpa using blk_set HB.out 0 (.slice A1 (l.length - (j + 1)) (c - (j + 1)))
                · rw [hlen]
                  exact HA1.out
              have FIN := Aside0.mk fin
              have FIN2 := Aside0.mk (grown_set (World.grownBy.refl wr (some g)) 0 (.slice A1 (l.length - (j + 1)) (c - (j + 1))))
              clear hA1 fin
              cases zb with
              | true =>
                have z2 := hzd rfl
                clear hzd
                go_wp2_with fail
                exact bodyPost_ret (v := .int .u64 m) (by simp [results, Tryz.results66, go_sem]) rfl ⟨⟨m, rfl, HN3.out.1, HN3.out.2⟩, FIN.out, FIN2.out⟩
              | false =>
                clear hzd
                go_wp2_with fail
                exact bodyPost_ret (v := .int .u64 m) (by simp [results, Tryz.results66, go_sem]) rfl ⟨⟨m, rfl, HN3.out.1, HN3.out.2⟩, FIN.out, FIN2.out⟩
            · cases zb with
              | true =>
                have z2 := hzd rfl
                clear hzd
                go_wp2_with fail
                go_roundw
                case rel => exact ⟨j + 1, m, by omega, HJ.out, by simp, by first | rfl | trivial, HN3.out.1, HN2.out, by first | rfl | trivial⟩
                case measure => simp [intOf]; omega
              | false =>
                clear hzd
                go_wp2_with fail
                go_roundw
                case rel => exact ⟨j + 1, m, by omega, HJ.out, by simp, by first | rfl | trivial, HN3.out.1, HN2.out, by first | rfl | trivial⟩
                case measure => simp [intOf]; omega
      · have hge : j = l.length := by omega
        clear hn0 hn1 hj hlt
        subst hge
        go_wp2_with (go_at_call 65; refine (hl _ _ HS.out).mono ?_; rintro e w1 ⟨rfl, hr, hg⟩; have HR := Aside0.mk hr; have HG := Aside0.mk hg; clear hr hg)
        exact bodyPost_ret (v := .int .u64 0) (by simp [results, Tryz.results66, go_sem]) rfl ⟨⟨0, rfl, by omega, by omega⟩, ⟨_, HR.out⟩, HG.out⟩
  · have hf1 : (f != 0) = true := by simpa using hf
    have hf2 : (f == 0) = false := by simpa using hf
    go_enter Tryz.func66, Tryz.ntmps66
    go_wp2_with fail
    go_loopw [3, 4, 5, 11] (fun v3 _ _ v11 wr => v11 = .int .i64 0 ∧ wr = w) (fun _ _ _ v11 _ => 0)
    case atStart => exact ⟨rfl, rfl⟩
    case round =>
      obtain ⟨rfl, rfl⟩ := hrel
      by_cases hlt : 0 < l.length
      · obtain ⟨ad, rfl, hcell⟩ := Kd.at_int HC.out 0 (by omega) (by omega)
        have hcell2 : wr.cell? ad = some (.int .u8 (rd l 0)) := by simpa [Addr.add] using hcell
        go_wp2_with fail
        exact bodyPost_ret (v := .int .u64 0) (by simp [results, Tryz.results66, go_sem]) rfl ⟨⟨0, rfl, by omega, by omega⟩, ⟨_, HS.out⟩, World.grownBy.refl _ _⟩
      · go_wp2_with (go_at_call 65; refine (hl _ _ HS.out).mono ?_; rintro e w1 ⟨rfl, hr, hg⟩; have HR := Aside0.mk hr; have HG := Aside0.mk hg; clear hr hg)
        exact bodyPost_ret (v := .int .u64 0) (by simp [results, Tryz.results66, go_sem]) rfl ⟨⟨0, rfl, by omega, by omega⟩, ⟨_, HR.out⟩, HG.out⟩
theorem RS.cells {w0 W : World} {g : Nat} {f : Int} (h : RS w0 g f W) : ∃ (A : Option Addr) (n c : Nat), W.cell? ⟨g, 0, none⟩ = some (.slice A n c) ∧ W.cell? ⟨g, 1, none⟩ = some (.int .i64 f) := by
  obtain ⟨_, _, A, c, l, hb, _⟩ := h
  exact ⟨A, l.length, c, blk_cell hb 0, blk_cell hb 1⟩
theorem up_calls (w0 : World) (g : Nat) (f most : Int) (hm : 0 ≤ most) (w : World) (h : RS w0 g f w) : Calls Tryz.prog 63 #[.pointer (some ⟨g, 0, none⟩), .int .i64 most] w fun e w' => (∃ n : Int, e = .returned (.int .i64 n) ∧ 0 ≤ n ∧ n ≤ most) ∧ (∃ f, RS w0 g f w') ∧ w.grownBy w' (some g) := by
  have hn := number_calls w0 g f w h
  have hl := fun f f' W => lose_calls w0 g f f' W
  have HM := Aside0.mk hm
  have hz := Aside0.mk (show (0 : Int) ≤ 0 ∧ (0 : Int) ≤ most from ⟨by omega, hm⟩)
  clear hm
  go_enter Tryz.func63, Tryz.ntmps63
  go_upto_region 2 with (go_at_call 66; refine hn.mono ?_; rintro e w1 ⟨⟨n, rfl, hn0, hn1⟩, ⟨f1, hr⟩, hg⟩; have HR := Aside0.mk hr; have HG := Aside0.mk hg; clear hr hg hn)
  have hw : IntKind.i64.wrap n = n := by rw [IntKind.wrap_i64]; omega
  obtain ⟨A, nn, c, c0, c1⟩ := HR.out.cells
  by_cases hf : f1 = 0
  · subst hf
    by_cases hgt : n > most
    · have HGT := Aside0.mk hgt
      go_wp2_with (go_at_call 65; refine (hl _ _ _ HR.out).mono ?_; rintro e w2 ⟨rfl, hr, hg⟩; rw [if_pos rfl] at hr; obtain ⟨_, _, _, d0, d1⟩ := hr.cells; have HR2 := Aside0.mk hr; have HG2 := Aside0.mk hg; clear hr hg)
      exact bodyPost_ret (v := .int .i64 0) (by simp [results, Tryz.results63, go_sem]) rfl ⟨⟨0, rfl, hz.out.1, hz.out.2⟩, ⟨_, HR2.out⟩, HG.out.trans HG2.out⟩
    · have hle : n ≤ most := by omega
      have HLE := Aside0.mk (And.intro hn0 hle)
      go_wp2_with fail
      exact bodyPost_ret (v := .int .i64 n) (by simp [results, Tryz.results63, go_sem]) rfl ⟨⟨n, rfl, HLE.out.1, HLE.out.2⟩, ⟨_, HR.out⟩, HG.out⟩
  · have hf1 : (f1 != 0) = true := by simpa using hf
    have hf2 : (f1 == 0) = false := by simpa using hf
    go_wp2_with fail
    exact bodyPost_ret (v := .int .i64 0) (by simp [results, Tryz.results63, go_sem]) rfl ⟨⟨0, rfl, hz.out.1, hz.out.2⟩, ⟨_, HR.out⟩, HG.out⟩
theorem rint_calls (w0 : World) (g : Nat) (f : Int) (w : World) (h : RS w0 g f w) : Calls Tryz.prog 37 #[.pointer (some ⟨g, 0, none⟩)] w fun e w' => (∃ n : Int, e = .returned (.int .i64 n) ∧ -4611686018427387904 ≤ n ∧ n ≤ 4611686018427387903) ∧ (∃ f, RS w0 g f w') ∧ w.grownBy w' (some g) := by
  have hn := number_calls w0 g f w h
  go_enter Tryz.func37, Tryz.ntmps37
  go_upto_region 2 with (go_at_call 66; refine hn.mono ?_; rintro e w1 ⟨⟨n, rfl, hn0, hn1⟩, ⟨f1, hr⟩, hg⟩; have HR := Aside0.mk hr; have HG := Aside0.mk hg; clear hr hg hn)
  have hn2 : n % 2 = 0 ∨ n % 2 = 1 := by omega
  have hq : 0 ≤ n / 2 ∧ n / 2 ≤ 4611686018427387903 := by omega
  have t1 : Int.tdiv n 2 = n / 2 := Int.tdiv_eq_ediv_of_nonneg hn0
  have t2 : Int.tmod n 2 = n % 2 := Int.tmod_eq_emod_of_nonneg hn0
  generalize hqd : n / 2 = q at hq t1
  generalize n % 2 = r at hn2 t2
  have hw : IntKind.i64.wrap q = q := by rw [IntKind.wrap_i64]; omega
  rcases hn2 with rfl | rfl
  · go_wp2_with fail
    exact bodyPost_ret (v := .int .i64 q) (by simp [results, Tryz.results37, go_sem]) rfl ⟨⟨q, rfl, by omega, by omega⟩, ⟨_, HR.out⟩, HG.out⟩
  · go_wp2_with fail
    exact bodyPost_ret (v := .int .i64 (-q - 1)) (by simp [results, Tryz.results37, go_sem]) rfl ⟨⟨-q - 1, rfl, by omega, by omega⟩, ⟨_, HR.out⟩, HG.out⟩
structure BytesAns (w0 : World) (g : Nat) (n : Int) (w : World) (e : Ending) (w' : World) : Prop where
  out : ∃ f' A k c xs, e = .returned (.slice A k c) ∧ (f' = 0 → (k : Int) = n) ∧ (k : Int) ≤ n ∧ (∀ x ∈ xs, 0 ≤ x ∧ x ≤ 255) ∧ Kd.C (Kd.int .u8) w0 A k xs ∧ RS w0 g f' w' ∧ w.grownBy w' (some g)
theorem bytes_calls (w0 : World) (g : Nat) (f n : Int) (hn0 : 0 ≤ n) (hn1 : n ≤ 1000000) (w : World) (h : RS w0 g f w) : Calls Tryz.prog 64 #[.pointer (some ⟨g, 0, none⟩), .int .i64 n] w (BytesAns w0 g n w) := by
  have hl := fun f f' W => lose_calls w0 g f f' W
  obtain ⟨m, rfl⟩ := Int.eq_ofNat_of_zero_le hn0
  have HS := Aside0.mk h
  obtain ⟨h1, h2, A, c, l, hb, hc, hm, hu, hC⟩ := h
  have c0 := blk_cell hb 0
  have c1 := blk_cell hb 1
  have f0 := blk_frozen hb 0
  have HC0 := Aside0.mk hC
  have HU := Aside0.mk hu
  have HB := Aside0.mk hb
  have HNO := Aside0.mk (show ((0 : Nat) : Int) ≤ (m : Int) by omega)
  clear hb h1 hu hC
  by_cases hf : f = 0
  · subst hf
    by_cases hgt : (m : Int) > (l.length : Int)
    · go_enter Tryz.func64, Tryz.ntmps64
      go_wp2_with (go_at_call 65; refine (hl _ _ _ HS.out).mono ?_; rintro e w2 ⟨rfl, hr, hg⟩; rw [if_pos rfl] at hr; obtain ⟨_, _, _, d0, d1⟩ := hr.cells; have HR2 := Aside0.mk hr; have HG2 := Aside0.mk hg; clear hr hg)
      exact bodyPost_ret (v := .slice none 0 0) (by simp [results, Tryz.results64, go_sem]) rfl ⟨17, none, 0, 0, [], rfl, fun h => absurd h (by decide), HNO.out, by simp, Kd.C_nil _ _, HR2.out, HG2.out⟩
    · have hml : m ≤ l.length := by omega
      obtain ⟨A1, hcut, hA1⟩ := cut_from A l.length c m (m : Int) rfl hml
      have HA1 := Aside0.mk (hA1 w0 l hc HC0.out)
      have fin : RS w0 g 0 (w.setCell ⟨g, 0, none⟩ (.slice A1 (l.length - m) (c - m))) := by
        have hlen : (l.drop m).length = l.length - m := List.length_drop
        refine ⟨HS.out.1.setCell h2 _, h2, A1, c - m, l.drop m, ?_, by omega, by omega, fun x hx => HU.out x (List.mem_of_mem_drop hx), ?_⟩
        · rw [hlen]
          simpa using blk_set HB.out 0 (.slice A1 (l.length - m) (c - m))
        · rw [hlen]
          exact HA1.out
      have FIN := Aside0.mk fin
      have FIN2 := Aside0.mk (grown_set (World.grownBy.refl w (some g)) 0 (.slice A1 (l.length - m) (c - m)))
      have htk : (l.take m).length = m := by rw [List.length_take]; omega
      have FIN3 := Aside0.mk (show Kd.C (Kd.int .u8) w0 A m (l.take m) by have := Kd.C_take HC0.out hml; rwa [htk] at this)
      have FIN4 := Aside0.mk (show ∀ x ∈ l.take m, 0 ≤ x ∧ x ≤ 255 from fun x hx => HU.out x (List.mem_of_mem_take hx))
      clear hA1 fin htk
      go_enter Tryz.func64, Tryz.ntmps64
      go_wp2_with fail
      exact bodyPost_ret (v := .slice A m m) (by simp [results, Tryz.results64, go_sem]) rfl ⟨0, A, m, m, l.take m, rfl, fun _ => rfl, Int.le_refl _, FIN4.out, FIN3.out, FIN.out, FIN2.out⟩
  · have hf1 : (f != 0) = true := by simpa using hf
    have hf2 : (f == 0) = false := by simpa using hf
    have HF := Aside0.mk hf
    go_enter Tryz.func64, Tryz.ntmps64
    go_wp2_with fail
    exact bodyPost_ret (v := .slice none 0 0) (by simp [results, Tryz.results64, go_sem]) rfl ⟨f, none, 0, 0, [], rfl, fun h => absurd h HF.out, HNO.out, by simp, Kd.C_nil _ _, HS.out, World.grownBy.refl _ _⟩
theorem C_str {w : World} {A : Option Addr} {n c : Nat} {xs : List Int} (hl : n = xs.length) (hC : Kd.C (Kd.int .u8) w A n xs) (W : World) (hW : Below w.heap.size w W) : (convert 22 9 (.slice A n c)).run Tryz.prog W = .ok (.string (strOfNums xs)) W := by
  subst hl
  exact Kd.C_string Tryz.underlying22 Tryz.underlying5 Tryz.underlying9 (Kd.C_below hC hW)
theorem text_calls (w0 : World) (g : Nat) (f most : Int) (hm : 0 ≤ most) (hm1 : most ≤ 1000000) (w : World) (h : RS w0 g f w) : Calls Tryz.prog 62 #[.pointer (some ⟨g, 0, none⟩), .int .i64 most] w fun e w' => (∃ s : ByteArray, e = .returned (.string s) ∧ (s.size : Int) ≤ most) ∧ (∃ f, RS w0 g f w') ∧ w.grownBy w' (some g) := by
  have hn := up_calls w0 g f most hm w h
  have HM := Aside0.mk hm1
  clear hm hm1
  go_enter Tryz.func62, Tryz.ntmps62
  go_wp2_with (first
    | (go_at_call 63; refine hn.mono ?_; rintro e w1 ⟨⟨n, rfl, hn0, hn1⟩, ⟨f1, hr⟩, hg⟩; have HG := Aside0.mk hg; have hbb := bytes_calls w0 g f1 n hn0 (by have := HM.out; omega) w1 hr; have HN := Aside0.mk hn1; clear hr hg hn hn0 hn1)
    | (go_at_call 64; refine hbb.mono ?_; rintro e w2 ⟨f2, A, k, c, xs, rfl, hk1, hk2, hu, hC, hr, hg⟩; have hk3 := hC.1.symm; have hcv := C_str (c := c) hk3 hC w2 hr.1; have HR2 := Aside0.mk hr; have HG2 := Aside0.mk hg; have HK := Aside0.mk (And.intro hk2 hk3); clear hr hg hC hk1 hk2 hk3 hu hbb))
  exact bodyPost_ret (v := .string (strOfNums xs)) (by simp [results, Tryz.results62, go_sem]) rfl ⟨⟨_, rfl, by rw [strOfNums_size]; have := HK.out; have := HN.out; omega⟩, ⟨_, HR2.out⟩, HG.out.trans HG2.out⟩
theorem mark_calls (w0 : World) (g : Nat) (f : Int) (w : World) (h : RS w0 g f w) : Calls Tryz.prog 36 #[.pointer (some ⟨g, 0, none⟩)] w fun e w' => (∃ b : Bool, e = .returned (.bool b)) ∧ (∃ f, RS w0 g f w') ∧ w.grownBy w' (some g) := by
  have hbb := bytes_calls w0 g f 1 (by omega) (by omega) w h
  have hl := fun f f' W => lose_calls w0 g f f' W
  go_enter Tryz.func36, Tryz.ntmps36
  go_upto_region 2 with (go_at_call 64; refine hbb.mono ?_; rintro e w2 ⟨f2, A, k, c, xs, rfl, hk1, hk2, hu, hC, hr, hg⟩; have HR := Aside0.mk hr; have HG := Aside0.mk hg; have HU := Aside0.mk hu; have HC := Aside0.mk (Kd.C_below hC hr.1); have HK := Aside0.mk hk1; clear hr hg hC hu hbb hk1)
  obtain ⟨A1, nn, c1, d0, d1⟩ := HR.out.cells
  have hk : k = 0 ∨ k = 1 := by omega
  rcases hk with rfl | rfl
  · have hf : ¬ f2 = 0 := fun e => by have := HK.out e; omega
    have hf2 : (f2 == 0) = false := by simpa using hf
    go_wp2_with fail
    exact bodyPost_ret (v := .bool false) (by simp [results, Tryz.results36, go_sem]) rfl ⟨(by first | exact ⟨_, rfl⟩ | (cases (d == 1) <;> simp) | simp), ⟨_, HR.out⟩, HG.out⟩
  · obtain ⟨ad, rfl, hcell⟩ := Kd.at_int HC.out 0 (by omega) (by omega)
    have hcell2 : w2.cell? ad = some (.int .u8 (rd xs 0)) := by simpa [Addr.add] using hcell
    generalize rd xs 0 = d at hcell2
    have HC2 := Aside0.mk hcell2
    clear hcell
    by_cases hd : d > 1
    · by_cases hf : f2 = 0
      · subst hf
        go_wp2_with (go_at_call 65; refine (hl _ _ _ HR.out).mono ?_; rintro e w3 ⟨rfl, hr, hg⟩; rw [if_pos rfl] at hr; obtain ⟨_, _, _, e0, e1⟩ := hr.cells; have HR2 := Aside0.mk hr; have HG2 := Aside0.mk hg; clear hr hg)
        exact bodyPost_ret (v := .bool false) (by simp [results, Tryz.results36, go_sem]) rfl ⟨(by first | exact ⟨_, rfl⟩ | (cases (d == 1) <;> simp) | simp), ⟨_, HR2.out⟩, HG.out.trans HG2.out⟩
      · have hf2 : (f2 == 0) = false := by simpa using hf
        have HF := Aside0.mk hf
        go_wp2_with (go_at_call 65; refine (hl _ _ _ HR.out).mono ?_; rintro e w3 ⟨rfl, hr, hg⟩; rw [if_neg HF.out] at hr; obtain ⟨_, _, _, e0, e1⟩ := hr.cells; have HR2 := Aside0.mk hr; have HG2 := Aside0.mk hg; clear hr hg)
        exact bodyPost_ret (v := .bool false) (by simp [results, Tryz.results36, go_sem]) rfl ⟨(by first | exact ⟨_, rfl⟩ | (cases (d == 1) <;> simp) | simp), ⟨_, HR2.out⟩, HG.out.trans HG2.out⟩
    · by_cases hf : f2 = 0
      · subst hf
        go_wp2_with fail
        exact bodyPost_ret (v := .bool (d == 1)) (by simp [results, Tryz.results36, go_sem]) rfl ⟨(by first | exact ⟨_, rfl⟩ | (cases (d == 1) <;> simp) | simp), ⟨_, HR.out⟩, HG.out⟩
      · have hf2 : (f2 == 0) = false := by simpa using hf
        go_wp2_with fail
        exact bodyPost_ret (v := .bool false) (by simp [results, Tryz.results36, go_sem]) rfl ⟨(by first | exact ⟨_, rfl⟩ | (cases (d == 1) <;> simp) | simp), ⟨_, HR.out⟩, HG.out⟩
/-- The three that takers call. -/
theorem takeUp_calls (w0 : World) (g : Nat) (f : Int) (w : World) (h : RS w0 g f w) : Calls Tryz.prog 35 #[.pointer (some ⟨g, 0, none⟩)] w fun e w' => (∃ n : Int, e = .returned (.int .i64 n) ∧ 0 ≤ n ∧ n ≤ 9007199254740992) ∧ (∃ f, RS w0 g f w') ∧ w.grownBy w' (some g) := by
  have hn := up_calls w0 g f 9007199254740992 (by omega) w h
  go_enter Tryz.func35, Tryz.ntmps35
  go_wp2_with (go_at_call 63; refine hn.mono ?_; rintro e w1 ⟨⟨n, rfl, hn0, hn1⟩, ⟨f1, hr⟩, hg⟩; have HG := Aside0.mk hg; have HN := Aside0.mk (And.intro hn0 hn1); have HR := Aside0.mk hr; clear hr hg hn hn0 hn1)
  exact bodyPost_ret (v := .int .i64 n) (by simp [results, Tryz.results35, go_sem]) rfl ⟨⟨n, rfl, HN.out.1, HN.out.2⟩, ⟨_, HR.out⟩, HG.out⟩
theorem takeText_calls (w0 : World) (g : Nat) (f : Int) (w : World) (h : RS w0 g f w) : Calls Tryz.prog 34 #[.pointer (some ⟨g, 0, none⟩)] w fun e w' => (∃ s : ByteArray, e = .returned (.string s) ∧ (s.size : Int) ≤ 10000) ∧ (∃ f, RS w0 g f w') ∧ w.grownBy w' (some g) := by
  have hn := text_calls w0 g f 10000 (by omega) (by omega) w h
  go_enter Tryz.func34, Tryz.ntmps34
  go_wp2_with (go_at_call 62; refine hn.mono ?_; rintro e w1 ⟨⟨n, rfl, hn0⟩, ⟨f1, hr⟩, hg⟩; have HG := Aside0.mk hg; have HN := Aside0.mk hn0; have HR := Aside0.mk hr; clear hr hg hn hn0)
  exact bodyPost_ret (v := .string n) (by simp [results, Tryz.results34, go_sem]) rfl ⟨⟨n, rfl, HN.out⟩, ⟨_, HR.out⟩, HG.out⟩
end Go.Proofs.YtpdppfihpnfblaaGreat.H
