/- The law TagGets: its walk, whole. -/
import Derived.Test.YtkclojakmhipnaaTagV
namespace Go.Proofs.Ytkclojakmhipnaa.H
open Go.RowKit Go.Shelf Go.Proofs.Ytkclojakmhipnaa.PA Go.Proofs.Ytkclojakmhipnaa.PC Go.Proofs.YtkclojakmhipnaaW.PrintWords Go.Proofs.YtkclojakmhipnaaW.PrintLast Go.Proofs.YtkclojakmhipnaaW.PrintMore
attribute [local go_sem] Oper.semAt_some
set_option linter.unusedVariables false

theorem two_cells {W : World} {g T : Nat} {a b : Value} (h : W.heap[g]? = some (.cells #[a, b] T (0, 0))) : W.cell? ⟨g, 0, none⟩ = some a ∧ W.cell? ⟨g, 1, none⟩ = some b := by
  rw [Lib.cell_of_heap h, Lib.cell_of_heap h]
  exact ⟨rfl, rfl⟩

set_option maxRecDepth 100000 in
set_option maxHeartbeats 4000000 in
theorem gets_bad (m : ByteArray) (A : Option Addr) (c : Nat) (l : List S33) (name : ByteArray) (stop : Int) (w : World) (hC : Kd.C k33 w A l.length l) (hc : l.length ≤ c)
    (hm : m.size ≤ 140737488351232) (hW : Within 140737488351232 l) (hl : l.length ≤ 140737488351232) (hg : goodB m l = false) :
    Calls Try.prog 5 #[.agg #[.string m, .slice A l.length c], .string name, .int .u8 stop] w fun e w' => e = .returned (.bool true) ∧ Below w.heap.size w w' := by
  have huS := Try.underlying26
  have hgc := refGood_eq m l 140737488351232 (by decide) hm (by omega) hW 1000000000000000 (by omega)
  rw [hg] at hgc
  have HGC := Aside0.mk hgc
  have HC := Aside0.mk hC
  clear hgc hC hW
  go_enter Try.func5, Try.ntmps5
  obtain ⟨w1, hw1⟩ : ∃ w1, w.alloc (.cells #[.string m, .slice A l.length c] 26) = w1 := ⟨_, rfl⟩
  have s1 : w1.heap.size = w.heap.size + 1 := by rw [← hw1]; simp
  have HB1 := Aside0.mk (show Below w.heap.size w w1 by rw [← hw1]; exact (Below.refl _ w).alloc (Nat.le_refl _) _)
  have HS1 := Aside0.mk (show w1.heap[w.heap.size]? = some (.cells #[.string m, .slice A l.length c] 26 (0, 0)) by rw [← hw1]; exact World.alloc_heap_new w _)
  go_wp2_with (go_at_call 7; refine (tidemilllaw02_awake.calls true w1 awake02).mono ?_; rintro e w2 ⟨rfl, hb2⟩; have HB2 := Aside0.mk (HB1.out.trans (hb2.mono HB1.out.size)); have s2 := hb2.size; have hs2 := (hb2.block w.heap.size (by omega)).trans HS1.out; obtain ⟨hc0, hc1⟩ := two_cells hs2; clear hb2 hs2)
  go_wp2_with (go_at_call 16; refine (tidemillref02_Good.calls 1000000000000000 m A c l false w2 (Kd.C_below HC.out HB2.out) hc HGC.out).mono ?_; rintro e w3 ⟨rfl, hb3⟩; have HB3 := Aside0.mk (HB2.out.trans (hb3.mono HB2.out.size)); clear hb3)
  go_wp2_with (go_at_call 7; refine (tidemilllaw02_awake.calls true w3 awake02).mono ?_; rintro e w4 ⟨rfl, hb4⟩; have HB4 := Aside0.mk (HB3.out.trans (hb4.mono HB3.out.size)); clear hb4)
  exact bodyPost_ret (v := .bool true) (by simp [results, Try.results5]) rfl ⟨rfl, HB4.out⟩

set_option maxRecDepth 100000 in
set_option maxHeartbeats 4000000 in
theorem gets_long (m : ByteArray) (A : Option Addr) (c : Nat) (l : List S33) (name : ByteArray) (stop : Int) (w : World) (hC : Kd.C k33 w A l.length l) (hc : l.length ≤ c)
    (hm : m.size ≤ 140737488351232) (hW : Within 140737488351232 l) (hl : l.length ≤ 140737488351232) (hg : goodB m l = true) (hn : 200 < name.size) :
    Calls Try.prog 5 #[.agg #[.string m, .slice A l.length c], .string name, .int .u8 stop] w fun e w' => e = .returned (.bool true) ∧ Below w.heap.size w w' := by
  have huS := Try.underlying26
  have hgc := refGood_eq m l 140737488351232 (by decide) hm (by omega) hW 1000000000000000 (by omega)
  rw [hg] at hgc
  have HGC := Aside0.mk hgc
  have HC := Aside0.mk hC
  have hn1 : (200 : Int) < (name.size : Int) := by omega
  clear hgc hC hW
  go_enter Try.func5, Try.ntmps5
  obtain ⟨w1, hw1⟩ : ∃ w1, w.alloc (.cells #[.string m, .slice A l.length c] 26) = w1 := ⟨_, rfl⟩
  have s1 : w1.heap.size = w.heap.size + 1 := by rw [← hw1]; simp
  have HB1 := Aside0.mk (show Below w.heap.size w w1 by rw [← hw1]; exact (Below.refl _ w).alloc (Nat.le_refl _) _)
  have HS1 := Aside0.mk (show w1.heap[w.heap.size]? = some (.cells #[.string m, .slice A l.length c] 26 (0, 0)) by rw [← hw1]; exact World.alloc_heap_new w _)
  go_wp2_with (go_at_call 7; refine (tidemilllaw02_awake.calls true w1 awake02).mono ?_; rintro e w2 ⟨rfl, hb2⟩; have HB2 := Aside0.mk (HB1.out.trans (hb2.mono HB1.out.size)); have s2 := hb2.size; have hs2 := (hb2.block w.heap.size (by omega)).trans HS1.out; obtain ⟨hc0, hc1⟩ := two_cells hs2; clear hb2 hs2)
  go_wp2_with (go_at_call 16; refine (tidemillref02_Good.calls 1000000000000000 m A c l true w2 (Kd.C_below HC.out HB2.out) hc HGC.out).mono ?_; rintro e w3 ⟨rfl, hb3⟩; have HB3 := Aside0.mk (HB2.out.trans (hb3.mono HB2.out.size)); clear hb3)
  go_wp2_with (go_at_call 7; refine (tidemilllaw02_awake.calls true w3 awake02).mono ?_; rintro e w4 ⟨rfl, hb4⟩; have HB4 := Aside0.mk (HB3.out.trans (hb4.mono HB3.out.size)); clear hb4)
  exact bodyPost_ret (v := .bool true) (by simp [results, Try.results5]) rfl ⟨rfl, HB4.out⟩

attribute [local go_sem] max2_int min2_int max_two min_two
set_option maxRecDepth 100000 in
set_option maxHeartbeats 8000000 in
theorem gets_main (m : ByteArray) (A : Option Addr) (c : Nat) (l : List S33) (name : ByteArray) (stop : Int) (w : World) (hC : Kd.C k33 w A l.length l) (hc : l.length ≤ c)
    (hm : m.size ≤ 140737488351232) (hW : Within 140737488351232 l) (hl : l.length ≤ 140737488351232) (hg : goodB m l = true) (hn : name.size ≤ 200) (hst0 : 0 ≤ stop) (hst1 : stop ≤ 255) :
    Calls Try.prog 5 #[.agg #[.string m, .slice A l.length c], .string name, .int .u8 stop] w fun e w' => e = .returned (.bool true) ∧ Below w.heap.size w w' := by
  have huS := Try.underlying26
  have huL := Try.underlying33
  have hmax := hC.2.1
  have hgc := refGood_eq m l 140737488351232 (by decide) hm (by omega) hW 1000000000000000 (by omega)
  rw [hg] at hgc
  have HU := Aside0.mk (uniq_want name l (good_nodup hg))
  have HGC := Aside0.mk hgc
  have HC := Aside0.mk hC
  have hn1 : ¬ (200 : Int) < (name.size : Int) := by omega
  clear hgc hC hW hg
  go_enter Try.func5, Try.ntmps5
  obtain ⟨w1, hw1⟩ : ∃ w1, w.alloc (.cells #[.string m, .slice A l.length c] 26) = w1 := ⟨_, rfl⟩
  have s1 : w1.heap.size = w.heap.size + 1 := by rw [← hw1]; simp
  have HB1 := Aside0.mk (show Below w.heap.size w w1 by rw [← hw1]; exact (Below.refl _ w).alloc (Nat.le_refl _) _)
  have HS1 := Aside0.mk (show w1.heap[w.heap.size]? = some (.cells #[.string m, .slice A l.length c] 26 (0, 0)) by rw [← hw1]; exact World.alloc_heap_new w _)
  go_wp2_with (go_at_call 7; refine (tidemilllaw02_awake.calls true w1 awake02).mono ?_; rintro e w2 ⟨rfl, hb2⟩; have HB2 := Aside0.mk (HB1.out.trans (hb2.mono HB1.out.size)); have s2 := hb2.size; have hs2 := (hb2.block w.heap.size (by omega)).trans HS1.out; have HS2 := Aside0.mk hs2; obtain ⟨hc0, hc1⟩ := two_cells hs2; clear hb2 hs2)
  go_wp2_with (go_at_call 16; refine (tidemillref02_Good.calls 1000000000000000 m A c l true w2 (Kd.C_below HC.out HB2.out) hc HGC.out).mono ?_; rintro e w3 ⟨rfl, hb3⟩; have HB3 := Aside0.mk (HB2.out.trans (hb3.mono HB2.out.size)); have s3 := hb3.size; have hs3 := (hb3.block w.heap.size (by omega)).trans HS2.out; have HS3 := Aside0.mk hs3; obtain ⟨hc0, hc1⟩ := two_cells hs3; clear hb3 hs3)
  go_wp2_with (go_at_call 17; refine (get_calls m A c l name w3 (Kd.C_below HC.out HB3.out)).mono ?_; rintro e w4 ⟨rfl, hb4⟩; have HB4 := Aside0.mk (HB3.out.trans (hb4.mono HB3.out.size)); have s4 := hb4.size; have hs4 := (hb4.block w.heap.size (by omega)).trans HS3.out; have HS4 := Aside0.mk hs4; obtain ⟨hc0, hc1⟩ := two_cells hs4; clear hb4 hs4)
  generalize getR l name = g at HU
  go_loopw [9, 10, 38] (fun v e i wr => ∃ k : Nat, k ≤ l.length ∧ i = .int .i64 k ∧ v = .string (wantR (l.take k) name (⟨#[]⟩, 5)).1 ∧ e = .int .i64 (wantR (l.take k) name (⟨#[]⟩, 5)).2 ∧ Below w.heap.size w wr ∧ w.heap.size + 1 ≤ wr.heap.size ∧ wr.heap[w.heap.size]? = some (.cells #[.string m, .slice A l.length c] 26 (0, 0)))
    (fun _ _ i _ => l.length - (intOf i).toNat)
  case atStart => exact ⟨0, Nat.zero_le _, rfl, rfl, rfl, HB4.out, by omega, HS4.out⟩
  case round =>
    clear HB1 HB2 HB3 HB4 HS1 HS2 HS3 HS4
    obtain ⟨k, hk, rfl, rfl, rfl, hb, hz, hs⟩ := hrel
    by_cases hlt : k < l.length
    · obtain ⟨ad, rfl, hc0, hc1⟩ := at_T33 (Kd.C_below HC.out hb) (k : Int) (by omega) (by omega)
      rw [lab_at l k hlt] at hc0 hc1
      simp only [Int.toNat_natCast] at hc0 hc1
      have htk : wantR (l.take (k + 1)) name (⟨#[]⟩, 5) = if hasName name l[k] = true then (l[k].f1, 0) else wantR (l.take k) name (⟨#[]⟩, 5) := by
        rw [List.take_succ_eq_append_getElem hlt]
        unfold wantR
        rw [List.foldl_append]
        rfl
      have HTK := Aside0.mk htk
      have HB := Aside0.mk hb
      have HS := Aside0.mk hs
      clear htk hb hs
      generalize l[k] = x at hc0 hc1 HTK
      generalize wantR (l.take k) name (⟨#[]⟩, 5) = q at HTK ⊢
      by_cases hx : hasName name x = true
      · have hd : (x.f0.toList == name.toList) = true := by rw [Lib.toList_data, Lib.toList_data]; exact hx
        rw [if_pos hx] at HTK
        clear hx
        go_wp2
        go_roundw
        case rel => exact ⟨k + 1, by omega, by simp, by rw [HTK.out], by rw [HTK.out], HB.out.alloc (by omega) _, by simp; omega, (Below.heap_alloc _ _ _ (by omega)).trans HS.out⟩
        case measure => simp [intOf]; omega
      · have hd : (x.f0.toList == name.toList) = false := by rw [Lib.toList_data, Lib.toList_data]; exact Bool.eq_false_iff.2 hx
        rw [if_neg hx] at HTK
        clear hx
        go_wp2
        go_roundw
        case rel => exact ⟨k + 1, by omega, by simp, by rw [HTK.out], by rw [HTK.out], HB.out.alloc (by omega) _, by simp; omega, (Below.heap_alloc _ _ _ (by omega)).trans HS.out⟩
        case measure => simp [intOf]; omega
    · obtain rfl : k = l.length := by omega
      rw [List.take_length, ← HU.out]
      have HB := Aside0.mk hb
      have HS := Aside0.mk hs
      clear hb hs HU
      obtain ⟨w6, hw6⟩ : ∃ w6, ((wr.alloc (.cells #[.int .i64 0] 3)).alloc (.cells #[.int .i64 (stop % 8)] 3)).alloc (.cells #[.bool true] 4) = w6 := ⟨_, rfl⟩
      have z6 : w6.heap.size = wr.heap.size + 3 := by rw [← hw6]; simp
      have hbB : Below wr.heap.size wr w6 := by rw [← hw6]; exact (((Below.refl _ wr).alloc (Nat.le_refl _) _).alloc (by simp) _).alloc (by simp; omega) _
      have bN : Boxed w6 wr.heap.size 3 (.int .i64 ((0 : Nat) : Int)) := by rw [← hw6]; exact ((Boxed.new wr _ _).alloc _).alloc _
      have bM : Boxed w6 (wr.heap.size + 1) 3 (.int .i64 (stop % 8)) := by
        rw [← hw6]
        have := (Boxed.new (wr.alloc (.cells #[.int .i64 0] 3)) 3 (.int .i64 (stop % 8))).alloc (.cells #[.bool true] 4)
        rwa [World.size_alloc] at this
      have bO : Boxed w6 (wr.heap.size + 1 + 1) 4 (.bool true) := by
        rw [← hw6]
        have := Boxed.new ((wr.alloc (.cells #[.int .i64 0] 3)).alloc (.cells #[.int .i64 (stop % 8)] 3)) 4 (.bool true)
        rwa [World.size_alloc, World.size_alloc] at this
      have G6 : Gets w wr.heap.size m A c l (stop % 8) w.heap.size (wr.heap.size + 1 + 1) wr.heap.size (wr.heap.size + 1) 0 w6 :=
        { ok := bO
          n := bN
          mo := bM
          s := (hbB.block w.heap.size (by omega)).trans HS.out
          C := HC.out
          b := HB.out.trans (hbB.mono (by omega))
          sB := by omega
          b0 := by omega
          bW := by omega
          d1 := by omega
          d2 := by omega
          d3 := by omega
          bO := by omega
          bN := by omega }
      obtain ⟨hc0, hc1⟩ := two_cells G6.s
      have HG6 := Aside0.mk (G6.alloc (.cells #[.string m, .slice A l.length c] 26))
      have HA6 := Aside0.mk (World.alloc_heap_new w6 (.cells #[.string m, .slice A l.length c] 26))
      clear bN bM bO hbB G6
      go_wp2_with (go_at_call 18; refine (all_calls m A l.length c w6).mono ?_; rintro e w7 ⟨rfl, rfl⟩)
      rw [z6] at HA6
      go_at_call 32
      refine (all1_gets (Bs := wr.heap.size + 3) _ HG6.out HA6.out (by omega) (by omega)).mono ?_
      rintro e w8 ⟨⟨v, rfl⟩, n, hnn, G8⟩
      obtain ⟨hd0, hd1⟩ := two_cells G8.s
      have ho8 := G8.ok.cell
      have hn8 := G8.n.cell
      have hm8 := G8.mo.cell
      have HB8 := Aside0.mk G8.b
      clear G8 hc0 hc1 hw6 HG6 HA6
      have hq : (g.1.toList == g.1.toList) = true := by simp
      go_wp2
      all_goals exact bodyPost_ret (v := .bool _) (by simp [results, Try.results5]; rfl) rfl ⟨ret_bool rfl (by rw [beq_iff_eq]; omega), HB8.out⟩

/-- What the row asks: sizes. -/
def GetsOk (m : ByteArray) (l : List S33) (name : ByteArray) (stop : Int) : Prop := m.size ≤ 140737488351232 ∧ Within 140737488351232 l ∧ l.length ≤ 140737488351232 ∧ (Lit.int .u8 stop).wf = true
theorem gets_calls (m : ByteArray) (A : Option Addr) (c : Nat) (l : List S33) (name : ByteArray) (stop : Int) (r : Bool) (w : World) (hC : Kd.C k33 w A l.length l) (hc : l.length ≤ c) (h : r = true ∧ GetsOk m l name stop) :
    Calls Try.prog 5 #[.agg #[.string m, .slice A l.length c], .string name, .int .u8 stop] w fun e w' => e = .returned (.bool r) ∧ Below w.heap.size w w' := by
  obtain ⟨rfl, hm, hW, hl, hwf⟩ := h
  have hst : 0 ≤ stop ∧ stop ≤ 255 := by
    simp only [Lit.wf, Bool.and_eq_true, decide_eq_true_eq] at hwf
    have h1 : IntKind.min .u8 = 0 := by decide
    have h2 : IntKind.max .u8 = 255 := by decide
    rw [h1, h2] at hwf
    exact hwf
  by_cases hg : goodB m l = true
  · by_cases hn : 200 < name.size
    · exact gets_long m A c l name stop w hC hc hm hW hl hg hn
    · exact gets_main m A c l name stop w hC hc hm hW hl hg (by omega) hst.1 hst.2
  · exact gets_bad m A c l name stop w hC hc hm hW hl (Bool.eq_false_iff.2 hg)
end Go.Proofs.Ytkclojakmhipnaa.H
namespace Go.Proofs.Ytkclojakmhipnaa.Pure
open Go.RowKit Go.Proofs.Ytkclojakmhipnaa.H
theorem TagGets (m : ByteArray) (l : List Go.Proofs.Ytkclojakmhipnaa.PA.S33) (name : ByteArray) (stop : Int) (hm : m.size ≤ 140737488351232) (hW : Within 140737488351232 l) (hl : l.length ≤ 140737488351232) (_hn : name.size ≤ 140737488351232) (hs : (Lit.int .u8 stop).wf = true) : true = true ∧ GetsOk m l name stop :=
  ⟨rfl, hm, hW, hl, hs⟩
end Go.Proofs.Ytkclojakmhipnaa.Pure
