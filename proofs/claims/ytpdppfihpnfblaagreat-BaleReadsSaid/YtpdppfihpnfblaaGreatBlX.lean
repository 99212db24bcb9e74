/- The mill's state is put. -/
import Derived.Test.YtpdppfihpnfblaaGreatBlQ
namespace Go.Proofs.YtpdppfihpnfblaaGreat.H
open Go.RowKit Go.Shelf Go.Proofs.YtpdppfihpnfblaaGreat.PA Go.Proofs.YtpdppfihpnfblaaGreatW.PrintWords Go.Proofs.YtpdppfihpnfblaaGreatW.PrintLast Go.Proofs.YtpdppfihpnfblaaGreatW.PrintMore
set_option linter.unusedVariables false
set_option linter.unusedSimpArgs false
def bSta (x : Sta) : List Int := upB x.now ++ upB x.low ++ listB bSrc x.sources ++ listB bSen x.seens ++ listB bCel x.cells ++ upB x.first ++ listB bEmi x.out ++ x.counts.flatMap upB
theorem bSta_len (x : Sta) (h : gSta x) (h24 : x.counts.length = 24) : (bSta x).length ≤ 40000000000 := by
  obtain ⟨h1, h2, h3, h4, h5, h6, h7, h8⟩ := h
  have := upB_len' h1; have := upB_len' h2; have := upB_len' h6
  have := listB_len (B := bSrc) (M := 10033) bSrc_len h3
  have := listB_len (B := bSen) (M := 21033) bSen_len h4
  have := listB_len (B := bCel) (M := 30064166) bCel_len h5
  have := listB_len (B := bEmi) (M := 20200) bEmi_len h7
  have := flat_len upB 11 x.counts (fun n hn => upB_len' (h8 n hn))
  simp only [bSta, List.length_append]; omega
theorem bBat_len (x : Bat) (h : gBat x) : (bBat x).length ≤ 10100 := by
  obtain ⟨h1, h2, h3⟩ := h
  have := upB_len' h1; have := upB_len' h2; have := textB_len h3
  simp only [bBat, List.length_append]; omega
set_option maxRecDepth 100000 in
set_option maxHeartbeats 8000000 in
theorem putSta_calls (w0 : World) (g : Nat) (bs : List Int) (x : Sta) (cs : List Value) (w : World) (hK : kSta.K w0 x cs) (hG : gSta x) (hl : bs.length + (bSta x).length ≤ 100000000000) (h : CS w0 g bs w) :
    Calls Tryz.prog 16 #[.pointer (some ⟨g, 0, none⟩), encA cs] w fun e w' => (∃ v, e = .returned v) ∧ CS w0 g (bs ++ bSta x) w' ∧ PF g w w' := by
  obtain ⟨A1, c1, A2, c2, A3, c3, A4, c4, hcs, h24, ⟨l1, g1⟩, ⟨l2, g2⟩, ⟨l3, g3⟩, ⟨l4, g4⟩⟩ := kSta_open hK
  subst hcs
  obtain ⟨h_now, h_low, h_sources, h_seens, h_cells, h_first, h_out, h_counts⟩ := hG
  have HL := Aside0.mk hl
  simp only [bSta, List.length_append] at HL
  obtain ⟨CA, hCA⟩ : ∃ CA, CA = staA x.now x.low (.slice A1 x.sources.length c1) (.slice A2 x.seens.length c2) (.slice A3 x.cells.length c3) x.first (.slice A4 x.out.length c4) x.counts := ⟨_, rfl⟩
  have he : encA ([.int .i64 x.now, .int .i64 x.low, .slice A1 x.sources.length c1, .slice A2 x.seens.length c2, .slice A3 x.cells.length c3, .int .i64 x.first, .slice A4 x.out.length c4] ++ encs (Value.int .i64) x.counts) = .agg CA := by rw [hCA]; rfl
  rw [he]
  have k0 : CA[0]? = some (.int .i64 x.now) := by rw [hCA]; rfl
  have k1 : CA[1]? = some (.int .i64 x.low) := by rw [hCA]; rfl
  have k2 : CA[2]? = some (.slice A1 x.sources.length c1) := by rw [hCA]; rfl
  have k3 : CA[3]? = some (.slice A2 x.seens.length c2) := by rw [hCA]; rfl
  have k4 : CA[4]? = some (.slice A3 x.cells.length c3) := by rw [hCA]; rfl
  have k5 : CA[5]? = some (.int .i64 x.first) := by rw [hCA]; rfl
  have k6 : CA[6]? = some (.slice A4 x.out.length c4) := by rw [hCA]; rfl
  have k7 : ∀ (j : Nat) (n : Int), x.counts[j]? = some n → CA[7 + j]? = some (.int .i64 n) := by
    intro j n hj
    have hl2 := (List.getElem?_eq_some_iff.1 hj).1
    rw [hCA, staA_at _ _ _ _ _ _ _ hl2, List.getD_eq_getElem?_getD, hj]
    rfl
  have KK := Aside0.mk (And.intro k0 (And.intro k1 (And.intro k2 (And.intro k3 (And.intro k4 (And.intro k5 (And.intro k6 k7)))))))
  have C1 := Aside0.mk g1
  have C2 := Aside0.mk g2
  have C3 := Aside0.mk g3
  have C4 := Aside0.mk g4
  have G1 := Aside0.mk h_sources
  have G2 := Aside0.mk h_seens
  have G3 := Aside0.mk h_cells
  have G4 := Aside0.mk h_out
  have GC := Aside0.mk h_counts
  have GU := Aside0.mk (And.intro h_now (And.intro h_low h_first))
  have H24 := Aside0.mk h24
  have HS := Aside0.mk (PS.start (T := 44) (cs := CA) h (by decide))
  clear hl h hK l1 g1 l2 g2 l3 g3 l4 g4 h_now h_low h_sources h_seens h_cells h_first h_out h_counts hCA he k0 k1 k2 k3 k4 k5 k6 k7 h24
  go_enter Tryz.func16, Tryz.ntmps16
  go_upto_region 1 with fail
  generalize w.alloc (.cells CA 44) = W at HS ⊢
  have hc := HS.out.ups [x.now, x.low] (by
    intro y hy
    simp only [List.mem_cons, List.not_mem_nil, or_false] at hy
    have hh := GU.out
    simp only [gUp] at hh
    rcases hy with rfl | rfl
    all_goals omega) (by have := HL.out; (try simp only [List.flatMap_cons, List.flatMap_nil, List.append_nil, List.length_append, List.length_cons, List.length_nil] at this); (try simp only [List.flatMap_cons, List.flatMap_nil, List.append_nil, List.length_append, List.length_cons, List.length_nil]); omega) 2
  simp only [List.map_cons, List.map_nil, List.length_cons, List.length_nil, Nat.zero_add, Nat.reduceAdd] at hc
  have b0 := (blk_cell HS.out.k 0).trans KK.out.1
  have b1 := (blk_cell HS.out.k 1).trans KK.out.2.1
  go_upto_region 2 with (go_at_call 31; refine (show Calls _ _ _ _ _ from hc).mono ?_; rintro e W1 ⟨rfl, hps⟩; have HS1 := Aside0.mk hps; clear hps hc)
  clear HS b0 b1
  have HS := HS1
  clear HS1
  have hc := listSrc_calls gSrc bSrc 10033 bSrc_len (by omega) putSrc_one w0 g (bs ++ [x.now, x.low].flatMap upB) A1 c1 x.sources C1.out G1.out (by have := HL.out; (try simp only [List.flatMap_cons, List.flatMap_nil, List.append_nil, List.length_append, List.length_cons, List.length_nil] at this); (try simp only [List.flatMap_cons, List.flatMap_nil, List.append_nil, List.length_append, List.length_cons, List.length_nil]); omega) _ HS.out.c
  have b2 := (blk_cell HS.out.k 2).trans KK.out.2.2.1
  go_upto_region 3 with (go_at_call 43; refine (show Calls _ _ _ _ _ from hc).mono ?_; rintro e W1 ⟨rfl, hcs, hpf⟩; have HS1 := Aside0.mk (HS.out.call hcs hpf); clear hcs hpf hc)
  clear HS b2
  have HS := HS1
  clear HS1
  have hc := listSen_calls gSen bSen 21033 bSen_len (by omega) putSen_one w0 g ((bs ++ [x.now, x.low].flatMap upB) ++ listB bSrc x.sources) A2 c2 x.seens C2.out G2.out (by have := HL.out; (try simp only [List.flatMap_cons, List.flatMap_nil, List.append_nil, List.length_append, List.length_cons, List.length_nil] at this); (try simp only [List.flatMap_cons, List.flatMap_nil, List.append_nil, List.length_append, List.length_cons, List.length_nil]); omega) _ HS.out.c
  have b3 := (blk_cell HS.out.k 3).trans KK.out.2.2.2.1
  go_upto_region 4 with (go_at_call 45; refine (show Calls _ _ _ _ _ from hc).mono ?_; rintro e W1 ⟨rfl, hcs, hpf⟩; have HS1 := Aside0.mk (HS.out.call hcs hpf); clear hcs hpf hc)
  clear HS b3
  have HS := HS1
  clear HS1
  have hc := listCel_calls gCel bCel 30064166 bCel_len (by omega) putCel_one w0 g (((bs ++ [x.now, x.low].flatMap upB) ++ listB bSrc x.sources) ++ listB bSen x.seens) A3 c3 x.cells C3.out G3.out (by have := HL.out; (try simp only [List.flatMap_cons, List.flatMap_nil, List.append_nil, List.length_append, List.length_cons, List.length_nil] at this); (try simp only [List.flatMap_cons, List.flatMap_nil, List.append_nil, List.length_append, List.length_cons, List.length_nil]); omega) _ HS.out.c
  have b4 := (blk_cell HS.out.k 4).trans KK.out.2.2.2.2.1
  go_upto_region 5 with (go_at_call 47; refine (show Calls _ _ _ _ _ from hc).mono ?_; rintro e W1 ⟨rfl, hcs, hpf⟩; have HS1 := Aside0.mk (HS.out.call hcs hpf); clear hcs hpf hc)
  clear HS b4
  have HS := HS1
  clear HS1
  have hc := cup_calls w0 g ((((bs ++ [x.now, x.low].flatMap upB) ++ listB bSrc x.sources) ++ listB bSen x.seens) ++ listB bCel x.cells) x.first (by have := GU.out; simp only [gUp] at this; omega) (by have := HL.out; (try simp only [List.flatMap_cons, List.flatMap_nil, List.append_nil, List.length_append, List.length_cons, List.length_nil] at this); (try simp only [List.flatMap_cons, List.flatMap_nil, List.append_nil, List.length_append, List.length_cons, List.length_nil]); omega) _ HS.out.c
  have b5 := (blk_cell HS.out.k 5).trans KK.out.2.2.2.2.2.1
  go_upto_region 6 with (go_at_call 49; refine (show Calls _ _ _ _ _ from hc).mono ?_; rintro e W1 ⟨⟨ve, rfl⟩, hcs, hpf⟩; have HS1 := Aside0.mk (HS.out.call hcs hpf); clear hcs hpf hc)
  clear HS b5
  have HS := HS1
  clear HS1
  have hc := listEmi_calls gEmi bEmi 20200 bEmi_len (by omega) putEmi_one w0 g (((((bs ++ [x.now, x.low].flatMap upB) ++ listB bSrc x.sources) ++ listB bSen x.seens) ++ listB bCel x.cells) ++ upB x.first) A4 c4 x.out C4.out G4.out (by have := HL.out; (try simp only [List.flatMap_cons, List.flatMap_nil, List.append_nil, List.length_append, List.length_cons, List.length_nil] at this); (try simp only [List.flatMap_cons, List.flatMap_nil, List.append_nil, List.length_append, List.length_cons, List.length_nil]); omega) _ HS.out.c
  have b6 := (blk_cell HS.out.k 6).trans KK.out.2.2.2.2.2.2.1
  go_upto_region 7 with (go_at_call 50; refine (show Calls _ _ _ _ _ from hc).mono ?_; rintro e W1 ⟨rfl, hcs, hpf⟩; have HS1 := Aside0.mk (HS.out.call hcs hpf); clear hcs hpf hc)
  clear HS b6
  have HS := HS1
  clear HS1
  have hc := ups_calls w0 g ((((((bs ++ [x.now, x.low].flatMap upB) ++ listB bSrc x.sources) ++ listB bSen x.seens) ++ listB bCel x.cells) ++ upB x.first) ++ listB bEmi x.out) x.counts (fun n hn => by have := GC.out n hn; unfold gUp at this; omega) (by have := HL.out; have := H24.out; (try simp only [List.flatMap_cons, List.flatMap_nil, List.append_nil, List.length_append, List.length_cons, List.length_nil] at *); omega) w.heap.size 7 24 44 CA _ HS.out.c HS.out.k (by decide) HS.out.n KK.out.2.2.2.2.2.2.2
  rw [H24.out] at hc
  go_wp2_with (go_at_call 31; refine (show Calls _ _ _ _ _ from hc).mono ?_; rintro e W1 ⟨rfl, hcs, hpf⟩; have HS1 := Aside0.mk (HS.out.call hcs hpf); clear hcs hpf hc)
  go_end0
  refine ⟨⟨_, rfl⟩, ?_, HS1.out.p⟩
  have hfin := HS1.out.c
  simpa [bSta, List.append_assoc] using hfin
end Go.Proofs.YtpdppfihpnfblaaGreat.H
