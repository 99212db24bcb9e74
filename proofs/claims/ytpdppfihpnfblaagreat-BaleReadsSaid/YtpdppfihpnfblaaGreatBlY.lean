/- bale's forms: the bytes of a thing, the thing of bytes. Laid by wip/forms_bl.py. -/
import Derived.Test.YtpdppfihpnfblaaGreatBlX
namespace Go.Proofs.YtpdppfihpnfblaaGreat.H
open Go.RowKit Go.Shelf Go.Proofs.YtpdppfihpnfblaaGreat.PA Go.Proofs.YtpdppfihpnfblaaGreatW.PrintWords Go.Proofs.YtpdppfihpnfblaaGreatW.PrintLast Go.Proofs.YtpdppfihpnfblaaGreatW.PrintMore
set_option linter.unusedVariables false
set_option linter.unusedSimpArgs false
theorem eq_loop (a b : List Int) (hl : a.length = b.length) (hm : a.length ≤ 1000000000000) : ∀ (d j K : Nat), j + d = a.length → d < K → a.take j = b.take j → slices_Equal_byte_byte.l0 K a b (a.length : Int) (j : Int) = some (decide (a = b)) := by
  intro d
  induction d with
  | zero =>
    intro j K hj hK hp
    obtain ⟨K, rfl⟩ : ∃ m, K = m + 1 := ⟨K - 1, by omega⟩
    unfold slices_Equal_byte_byte.l0
    rw [if_neg (by omega)]
    have e1 : a = b := by
      have h1 : a.take j = a := List.take_of_length_le (by omega)
      have h2 : b.take j = b := List.take_of_length_le (by omega)
      rw [h1, h2] at hp
      exact hp
    rw [decide_eq_true e1]
  | succ d ih =>
    intro j K hj hK hp
    obtain ⟨K, rfl⟩ : ∃ m, K = m + 1 := ⟨K - 1, by omega⟩
    have hja : j < a.length := by omega
    have hjb : j < b.length := by omega
    unfold slices_Equal_byte_byte.l0
    rw [if_pos (by omega), if_pos (by omega), if_pos (by omega), if_pos (by omega)]
    have ea : rd a (j : Int) = a[j] := by unfold rd; rw [Int.toNat_natCast, List.getD_eq_getElem?_getD, List.getElem?_eq_getElem hja]; rfl
    have eb : rd b (j : Int) = b[j] := by unfold rd; rw [Int.toNat_natCast, List.getD_eq_getElem?_getD, List.getElem?_eq_getElem hjb]; rfl
    rw [ea, eb]
    by_cases hx : a[j] = b[j]
    · rw [if_pos hx, wrap_in (by omega) (by omega)]
      exact ih (j + 1) K (by omega) (by omega) (by rw [List.take_succ_eq_append_getElem hja, List.take_succ_eq_append_getElem hjb, hp, hx])
    · rw [if_neg hx]
      have : a ≠ b := fun e => hx (by subst e; rfl)
      rw [decide_eq_false this]
theorem equal_eq (a b : List Int) (hm : a.length ≤ 1000000000000) : slices_Equal_byte_byte.f (a.length + 1) a b = some (decide (a = b)) := by
  unfold slices_Equal_byte_byte.f
  by_cases hl : a.length = b.length
  · rw [if_pos (by omega)]
    exact eq_loop a b hl hm a.length 0 _ (by omega) (by omega) (by simp)
  · rw [if_neg (by omega)]
    have : a ≠ b := fun e => hl (by rw [e])
    rw [decide_eq_false this]
theorem end_calls (w0 : World) (g : Nat) (f : Int) (w : World) (h : RS w0 g f w) : Calls Tryz.prog 40 #[.pointer (some ⟨g, 0, none⟩)] w fun e w' => (∃ k : Int, e = .returned (.int .i64 k)) ∧ w' = w := by
  obtain ⟨h1, h2, A, c, l, hb, hc, _⟩ := h
  have c0 := blk_cell hb 0
  have c1 := blk_cell hb 1
  clear hb h1
  by_cases hf : f = 0
  · subst hf
    by_cases hl : (l.length : Int) > 0
    · go_enter Tryz.func40, Tryz.ntmps40
      go_wp2_with fail
      exact bodyPost_ret (v := .int .i64 2) (by simp [results, Tryz.results40, go_sem]) rfl ⟨⟨_, rfl⟩, by first | rfl | trivial⟩
    · go_enter Tryz.func40, Tryz.ntmps40
      go_wp2_with fail
      exact bodyPost_ret (v := .int .i64 0) (by simp [results, Tryz.results40, go_sem]) rfl ⟨⟨_, rfl⟩, by first | rfl | trivial⟩
  · have hf2 : (f == 0) = false := by simpa using hf
    go_enter Tryz.func40, Tryz.ntmps40
    go_wp2_with fail
    exact bodyPost_ret (v := .int .i64 f) (by simp [results, Tryz.results40, go_sem]) rfl ⟨⟨_, rfl⟩, by first | rfl | trivial⟩
theorem open_calls (A : Option Addr) (n c : Nat) (w : World) : Calls Tryz.prog 39 #[.slice A n c] w fun e w' => e = .returned (.pointer (some ⟨w.heap.size, 0, none⟩)) ∧ w' = w.alloc (.cells #[.slice A n c, .int .i64 0] 145) := by
  have hu := Tryz.underlying145
  go_enter Tryz.func39, Tryz.ntmps39
  go_wp2
  go_ret
  exact ⟨rfl, rfl⟩
theorem results_cell_tmp {P : Program} {fn : Func} {p q : Tmp} {ty : TypeId} (h : fn.results = #[.cell p ty, .tmp q]) (tmps : Array Value) (w : World) (g : Nat) (t : TypeId) (cs : Array Value) (fr : Nat × Nat) (d : TypeDesc)
    (hp : tmps.getD p undef = .pointer (some ⟨g, 0, none⟩)) (hg : w.heap[g]? = some (.cells cs t fr))
    (hu : P.underlying ty = some d) (hd : (match d with | .struct _ | .array _ _ => true | _ => false) = true) (hi : (P.info? ty).map (·.size) = some cs.size) :
    (results fn tmps).run P w = .ok (.tuple #[.agg cs, tmps.getD q undef]) w := by
  have hp' : tmps[p]?.getD undef = .pointer (some ⟨g, 0, none⟩) := by simpa using hp
  simp [results, h, hp', asAddr, run_loadVar_row w g t ty cs fr d hg hu hd hi]
/-- A store of a whole struct into a block of the read's own. -/
theorem setRow_grown (W : World) (b : Nat) (cs : Array Value) : W.grownBy (W.setRow b cs) (some b) := ⟨rfl, rfl, rfl, by simp, fun i hi hk => setRow_other W b i cs (fun e => hk (by rw [e]))⟩
theorem M_setRow {α : Type} {d : Kd α} {W : World} {base b T : Nat} {ok : Nat → Prop} {cs : List Value} {x : α} {old new : Array Value} (h : d.M W base ok x cs) (hb : W.heap[b]? = some (.cells old T (0, 0))) (ht : ∀ q, q ∈ d.E → q ≠ T) : d.M (W.setRow b new) base ok x cs :=
  d.M_mono (fun _ hk => hk.1) (Kd.M_grown (Kd.M_types h hb ht) (setRow_grown W b new) (fun k hk e => hk.2 (by injection e)))
/-- What a read tells of bytes l. -/
structure ReadAns {α : Type} (k : Kd α) (G : α → Prop) (B : α → List Int) (zs : List Value) (l : List Int) (w : World) (e : Ending) (w' : World) : Prop where
  out : ∃ (x : α) (cs : List Value) (c : Int), e = .returned (.tuple #[encA cs, .int .i64 c]) ∧ k.M w' w.heap.size (fun _ => True) x cs ∧ (c = 0 → G x ∧ B x = l) ∧ (c ≠ 0 → cs = zs)
  hb : Below w.heap.size w w'

set_option maxRecDepth 100000 in
set_option maxHeartbeats 8000000 in
theorem bytesBat_calls (x : Bat) (cs : List Value) (w : World) (hK : kBat.K w x cs) (hG : gBat x) : Calls Tryz.prog 29 #[.agg #[.func (.func 19) #[] #[], .func (.func 20) #[] #[]], encA cs] w (BytesOut (bBat x) w) := by
  have hK0 := hK
  have hcs := kBat_open hK
  subst hcs
  have HLN := Aside0.mk (show (bBat x).length ≤ 10100 from bBat_len x hG)
  have hput := fun W hW => putBat_one w (w.heap.size + 1 + 1) [] x _ W hK0 hG (by have := HLN.out; simp; omega) hW
  have hub := Tryz.underlying48
  have HLB := Aside0.mk (show (bBat x).length ≤ 140737488355328 by have := HLN.out; omega)
  simp only [encA] at hput ⊢
  obtain ⟨w1, e1⟩ : ∃ w1, w.alloc (.cells #[.func (.func 19) #[] #[], .func (.func 20) #[] #[]] 80) = w1 := ⟨_, rfl⟩
  obtain ⟨w2, e2⟩ : ∃ w2, w1.alloc (.cells #[.int .i64 x.number, .int .i64 x.now, .string x.text] 48) = w2 := ⟨_, rfl⟩
  obtain ⟨w3, e3⟩ : ∃ w3, w2.alloc (.cells #[.slice none 0 0] 139) = w3 := ⟨_, rfl⟩
  have z1 : w1.heap.size = w.heap.size + 1 := by rw [← e1]; exact World.size_alloc _ _
  have z2 : w2.heap.size = w.heap.size + 1 + 1 := by rw [← e2, World.size_alloc, z1]
  have b1 : Below w.heap.size w w1 := by rw [← e1]; exact (Below.refl _ _).alloc (Nat.le_refl _) _
  have b2 : Below w1.heap.size w1 w2 := by rw [← e2]; exact (Below.refl _ _).alloc (Nat.le_refl _) _
  have b3 : Below w2.heap.size w2 w3 := by rw [← e3]; exact (Below.refl _ _).alloc (Nat.le_refl _) _
  have k0 : w3.heap[w.heap.size]? = some (.cells #[.func (.func 19) #[] #[], .func (.func 20) #[] #[]] 80 (0, 0)) := blk_below (blk_below (by rw [← e1]; exact blk_new _ _) b2) b3
  have k1 : w3.heap[w.heap.size + 1]? = some (.cells #[.int .i64 x.number, .int .i64 x.now, .string x.text] 48 (0, 0)) := blk_below (by rw [← z1, ← e2]; exact blk_new _ _) b3
  have k2 : w3.heap[w.heap.size + 1 + 1]? = some (.cells #[.slice none 0 0] 139 (0, 0)) := by rw [← z2, ← e3]; exact blk_new _ _
  have hb := b1.trans ((b2.trans (b3.mono b2.size)).mono b1.size)
  have hcs : CS w (w.heap.size + 1 + 1) [] w3 := ⟨hb, by omega, _, k2, Kd.R_nil _ _ _ _ _⟩
  have c0 := blk_cell k0 0
  have x0 := blk_cell k1 0
  have x1 := blk_cell k1 1
  have x2 := blk_cell k1 2
  have HCS := Aside0.mk hcs
  have e4 : ((w.alloc (.cells #[.func (.func 19) #[] #[], .func (.func 20) #[] #[]] 80)).alloc (.cells #[.int .i64 x.number, .int .i64 x.now, .string x.text] 48)).alloc (.cells #[.slice none 0 0] 139) = w3 := by rw [e1, e2, e3]
  clear e1 e2 e3 z1 z2 b1 b2 b3 k0 k2 hb hcs hG hK hK0
  go_enter Tryz.func29, Tryz.ntmps29
  go_upto_region 2 with fail
  try rw [e4]
  clear e4
  go_wp2_with (first
    | (go_at_call 19; refine (show Calls _ _ _ _ _ from hput _ HCS.out).mono ?_; rintro e W1 ⟨⟨ve, rfl⟩, hc, hp⟩; rw [List.nil_append] at hc; have HC1 := Aside0.mk hc; have hby := cbytes_calls w (w.heap.size + 1 + 1) (bBat x) HLB.out W1 hc; clear hc hp hput)
    | (go_at_call 60; refine (show Calls _ _ _ _ _ from hby).mono ?_; rintro e W2 ⟨⟨A', n', c', rfl, hn, hcc, hCC⟩, hb2⟩; have HO := Aside0.mk (And.intro hn (And.intro hcc hCC)); have HB2 := Aside0.mk hb2; clear hn hcc hCC hb2 hby))
  exact bodyPost_ret (v := .slice A' n' c') (by simp [results, Tryz.results29, go_sem]) rfl ⟨⟨A', n', c', rfl, HO.out.1, HO.out.2.1, HO.out.2.2⟩, HC1.out.1.trans (HB2.out.mono HC1.out.1.size)⟩

def zsBat : List Value := [.int .i64 0, .int .i64 0, .string ⟨#[]⟩]
def zxBat : Bat := zBat
theorem zMBat (W : World) (base : Nat) : kBat.M W base (fun _ => True) zxBat zsBat := kBat_mkM W base _ zBat
set_option maxRecDepth 100000 in
set_option maxHeartbeats 8000000 in
theorem readBat_calls (A : Option Addr) (c : Nat) (l : List Int) (w : World) (hC : Kd.C (Kd.int .u8) w A l.length l) (hc : l.length ≤ c) (hl : l.length ≤ 3000) (hu8 : ∀ x ∈ l, 0 ≤ x ∧ x ≤ 255) :
    Calls Tryz.prog 21 #[.agg #[.func (.func 19) #[] #[], .func (.func 20) #[] #[]], .slice A l.length c] w (ReadAns kBat gBat bBat zsBat l w) := by
  have hub := Tryz.underlying48
  have huf := Tryz.underlying80
  have hi0 : (Tryz.prog.info? 48).map (·.size) = some zsBat.toArray.size := by kernel_rfl
  have hopen := fun W => open_calls A l.length c W
  obtain ⟨w1, e1⟩ : ∃ w1, w.alloc (.cells #[.func (.func 19) #[] #[], .func (.func 20) #[] #[]] 80) = w1 := ⟨_, rfl⟩
  obtain ⟨w2, e2⟩ : ∃ w2, w1.alloc (.cells #[.int .i64 0, .int .i64 0, .string ⟨#[]⟩] 48) = w2 := ⟨_, rfl⟩
  obtain ⟨w3, e3⟩ : ∃ w3, w2.alloc (.cells #[.slice A l.length c, .int .i64 0] 145) = w3 := ⟨_, rfl⟩
  have z1 : w1.heap.size = w.heap.size + 1 := by rw [← e1]; exact World.size_alloc _ _
  have z2 : w2.heap.size = w.heap.size + 1 + 1 := by rw [← e2, World.size_alloc, z1]
  have b1 : Below w.heap.size w w1 := by rw [← e1]; exact (Below.refl _ _).alloc (Nat.le_refl _) _
  have b2 : Below w1.heap.size w1 w2 := by rw [← e2]; exact (Below.refl _ _).alloc (Nat.le_refl _) _
  have b3 : Below w2.heap.size w2 w3 := by rw [← e3]; exact (Below.refl _ _).alloc (Nat.le_refl _) _
  have k0 : w3.heap[w.heap.size]? = some (.cells #[.func (.func 19) #[] #[], .func (.func 20) #[] #[]] 80 (0, 0)) := blk_below (blk_below (by rw [← e1]; exact blk_new _ _) b2) b3
  have k1 : w3.heap[w.heap.size + 1]? = some (.cells #[.int .i64 0, .int .i64 0, .string ⟨#[]⟩] 48 (0, 0)) := blk_below (by rw [← z1, ← e2]; exact blk_new _ _) b3
  have k2 : w3.heap[w.heap.size + 1 + 1]? = some (.cells #[.slice A l.length c, .int .i64 0] 145 (0, 0)) := by rw [← z2, ← e3]; exact blk_new _ _
  have hb := b1.trans ((b2.trans (b3.mono b2.size)).mono b1.size)
  have hrs : RS w (w.heap.size + 1 + 1) 0 w3 := ⟨hb, by omega, A, c, l, k2, hc, by omega, hu8, hC⟩
  have htk := takeBat_calls w (w.heap.size + 1 + 1) 0 w3 hrs
  have c1 := blk_cell k0 1
  have e4 : ((w.alloc (.cells #[.func (.func 19) #[] #[], .func (.func 20) #[] #[]] 80)).alloc (.cells #[.int .i64 0, .int .i64 0, .string ⟨#[]⟩] 48)).alloc (.cells #[.slice A l.length c, .int .i64 0] 145) = w3 := by rw [e1, e2, e3]
  have hsz : w2.heap.size = w.heap.size + 1 + 1 := z2
  have e5 : (w.alloc (.cells #[.func (.func 19) #[] #[], .func (.func 20) #[] #[]] 80)).alloc (.cells #[.int .i64 0, .int .i64 0, .string ⟨#[]⟩] 48) = w2 := by rw [e1, e2]
  have HC := Aside0.mk hC
  have HCC := Aside0.mk hc
  have HL := Aside0.mk hl
  have K0 := Aside0.mk k0
  have K1 := Aside0.mk k1
  have HB := Aside0.mk hb
  have H3 := Aside0.mk (show w.heap.size + 1 + 1 < w3.heap.size from blk_lt k2)
  clear z1 z2 b1 b2 b3 k0 k1 k2 hb hrs hC hc hl hu8 e1 e2
  go_enter Tryz.func21, Tryz.ntmps21
  go_upto_region 2 with (go_at_call 39; refine (hopen _).mono ?_; rintro e w4 ⟨rfl, rfl⟩; clear hopen)
  have HZ1 := Aside0.mk (show (#[.int .i64 0, .int .i64 0, .string ⟨#[]⟩] : Array Value).all (·.oneCell') = true by simp [Value.oneCell'])
  have HI0 := Aside0.mk hi0
  clear hi0
  go_upto_region 3 with (first
    | (refine wpList_store_row rfl 48 (.tmp 7) (.tmp 15) rfl W2.heap.size CA rfl rfl 48 #[.int .i64 0, .int .i64 0, .string ⟨#[]⟩] (blk_new W2 _) HI.out HOLD.out H1.out ?_)
    | (go_at_call 20; refine (show Calls _ _ _ _ _ from htk).mono ?_; rintro e W2 ⟨⟨x, cs, rfl, hM, hG⟩, ⟨f2, hr⟩, hg⟩; obtain ⟨CA, hCA⟩ : ∃ CA, cs.toArray = CA := ⟨_, rfl⟩; have hsz1 : CA.size = kBat.sz := (by rw [← hCA, List.size_toArray]; exact kBat.K_len (kBat.K_of_M hM)); have HI := Aside0.mk (show (Tryz.prog.info? 48).map (·.size) = some CA.size from (by rw [hsz1]; exact HI0.out)); have HOLD := Aside0.mk (show (#[.int .i64 0, .int .i64 0, .string ⟨#[]⟩] : Array Value).size = CA.size from (by rw [hsz1]; rfl)); have H1 := Aside0.mk (show CA.all (·.oneCell') = true from (by refine Array.all_eq_true_iff_forall_mem.2 fun v hv => ?_; rw [← hCA, List.mem_toArray] at hv; exact kBat.K_one (kBat.K_of_M hM) v hv)); have HM := Aside0.mk hM; have HG := Aside0.mk hG; have HR := Aside0.mk hr; have HGR := Aside0.mk hg; have HCA := Aside0.mk hCA; clear hM hG hr hg htk hsz1; simp only [encA, hCA]; clear hCA))
  clear e3 e4 e5 hsz c1
  have hbA := (Below.refl _ W2).alloc (Nat.le_refl _) (.cells #[.int .i64 0, .int .i64 0, .string ⟨#[]⟩] 48)
  have hw3 := HGR.out.size
  have HM3 := Aside0.mk (M_setRow (b := W2.heap.size) (new := CA) (Kd.M_below HM.out hbA) (blk_new W2 (.cells #[.int .i64 0, .int .i64 0, .string ⟨#[]⟩] 48)) (by decide))
  have HG3 := Aside0.mk (grown_own (World.grownBy.trans HGR.out (grown_of_below hbA _)) (setRow_grown (W2.alloc (.cells #[.int .i64 0, .int .i64 0, .string ⟨#[]⟩] 48)) W2.heap.size CA) (fun k e => by injection e with e; omega))
  have HR3 := Aside0.mk ((HR.out.kept hbA).grown (setRow_grown (W2.alloc (.cells #[.int .i64 0, .int .i64 0, .string ⟨#[]⟩] 48)) W2.heap.size CA) (fun e => by injection e with e; have := H3.out; omega) (fun k e => by injection e with e; have := HB.out.size; omega))
  have HX3 := Aside0.mk (setRow_heap (W2.alloc (.cells #[.int .i64 0, .int .i64 0, .string ⟨#[]⟩] 48)) W2.heap.size #[.int .i64 0, .int .i64 0, .string ⟨#[]⟩] CA 48 (0, 0) (blk_new W2 _))
  clear hbA HM HR
  generalize (W2.alloc (.cells #[.int .i64 0, .int .i64 0, .string ⟨#[]⟩] 48)).setRow W2.heap.size CA = W3 at HM3 HG3 HR3 HX3 ⊢
  have HK0 := Aside0.mk (blk_grown K0.out HG3.out (fun e => by injection e with e; omega))
  have HK1 := Aside0.mk (blk_grown K1.out HG3.out (fun e => by injection e with e; omega))
  have HB3 := Aside0.mk (HB.out.grown HG3.out HB.out.size (fun k e => by injection e with e; omega))
  have HP := Aside0.mk (show W2.heap.size ≠ w.heap.size + 1 by have := H3.out; omega)
  obtain ⟨p7, hp7⟩ : ∃ p7, W2.heap.size = p7 := ⟨_, rfl⟩
  rw [hp7] at HX3 HP ⊢
  clear hp7 hw3 HGR K0 K1 HB
  go_upto_region 4 with (go_at_call 40; refine (end_calls w (w.heap.size + 1 + 1) f2 W3 HR3.out).mono ?_; rintro e W4 ⟨⟨k, rfl⟩, rfl⟩)
  by_cases hk : k = 0
  · subst hk
    have hby := bytesBat_calls x cs W4 (kBat.K_of_M HM3.out) HG.out
    simp only [encA, HCA.out] at hby
    have HLB := Aside0.mk (show (bBat x).length ≤ 1000000000000 from Nat.le_trans (bBat_len x HG.out) (by decide))
    have c0 := blk_cell HK0.out 0
    have c1 := blk_cell HK0.out 1
    by_cases hbl : bBat x = l
    · have heq := fun A' c' W5 hC5 hcc hC6 => slices_Equal_byte_byte.calls ((bBat x).length + 1) A' c' (bBat x) A c l true W5 hC5 hcc hC6 HCC.out (by rw [equal_eq _ _ HLB.out, decide_eq_true hbl])
      have HBL := Aside0.mk hbl
      have HEQ := Aside0.mk heq
      clear hbl heq
      go_wp2_with (first
        | (refine gate_guard (by rfl) ?_; refine wpList_load_row rfl 48 (.tmp 7) rfl p7 rfl 48 CA (0, 0) _ HX3.out hub rfl HI.out ?_)
        | (go_at_call 29; refine (show Calls _ _ _ _ _ from hby).mono ?_; rintro e W5 ⟨⟨A', n', c', rfl, hn, hcc, hCC⟩, hb5⟩; subst hn; have hcall := HEQ.out A' c' W5 hCC hcc (Kd.C_below HC.out (HB3.out.trans (hb5.mono HB3.out.size))); have HX5 := Aside0.mk (blk_below HX3.out hb5); have HK15 := Aside0.mk (blk_below HK1.out hb5); have HM5 := Aside0.mk (Kd.M_below HM3.out hb5); have HB5 := Aside0.mk (HB3.out.trans (hb5.mono HB3.out.size)); clear hcc hCC hb5 hby c0 c1)
        | (go_at_call 41; refine (show Calls _ _ _ _ _ from hcall).mono ?_; rintro e W6 ⟨rfl, hd⟩; replace HX5 := Aside0.mk (blk_below HX5.out hd.below); replace HK15 := Aside0.mk (blk_below HK15.out hd.below); replace HM5 := Aside0.mk (Kd.M_below HM5.out hd.below); replace HB5 := Aside0.mk (HB5.out.trans (hd.below.mono HB5.out.size)); clear hcall hd)
        | (refine wpList_load_row rfl 48 (.tmp 7) rfl p7 rfl 48 CA (0, 0) _ HX5.out hub rfl HI.out ?_)
        | (refine wpList_store_row rfl 48 (.tmp 4) (.tmp 32) rfl (w.heap.size + 1) CA rfl rfl 48 #[.int .i64 0, .int .i64 0, .string ⟨#[]⟩] HK15.out HI.out HOLD.out H1.out ?_))
      refine bodyPost_ret (v := .tuple #[.agg CA, .int .i64 0]) (by refine (results_cell_tmp (p := 4) (q := 5) (ty := 48) ?_ _ _ (w.heap.size + 1) 48 CA (0, 0) _ ?_ (setRow_heap _ _ _ _ _ _ HK15.out) hub rfl HI.out).trans ?_ <;> rfl) rfl ⟨⟨x, cs, 0, by unfold encA; rw [HCA.out], kBat.M_mono (fun _ _ => trivial) (kBat.M_lower (by have := H3.out; omega) (M_setRow HM5.out HK15.out (by decide))), fun _ => ⟨HG.out, HBL.out⟩, fun e => absurd rfl e⟩, HB5.out.grown (setRow_grown _ _ _) HB5.out.size (fun k e => by injection e with e; omega)⟩
    · have heq := fun A' c' W5 hC5 hcc hC6 => slices_Equal_byte_byte.calls ((bBat x).length + 1) A' c' (bBat x) A c l false W5 hC5 hcc hC6 HCC.out (by rw [equal_eq _ _ HLB.out, decide_eq_false hbl])
      have HEQ := Aside0.mk heq
      clear hbl heq
      go_wp2_with (first
        | (refine gate_guard (by rfl) ?_; refine wpList_load_row rfl 48 (.tmp 7) rfl p7 rfl 48 CA (0, 0) _ HX3.out hub rfl HI.out ?_)
        | (go_at_call 29; refine (show Calls _ _ _ _ _ from hby).mono ?_; rintro e W5 ⟨⟨A', n', c', rfl, hn, hcc, hCC⟩, hb5⟩; subst hn; have hcall := HEQ.out A' c' W5 hCC hcc (Kd.C_below HC.out (HB3.out.trans (hb5.mono HB3.out.size))); have HX5 := Aside0.mk (blk_below HX3.out hb5); have HK15 := Aside0.mk (blk_below HK1.out hb5); have HM5 := Aside0.mk (Kd.M_below HM3.out hb5); have HB5 := Aside0.mk (HB3.out.trans (hb5.mono HB3.out.size)); clear hcc hCC hb5 hby c0 c1)
        | (go_at_call 41; refine (show Calls _ _ _ _ _ from hcall).mono ?_; rintro e W6 ⟨rfl, hd⟩; replace HX5 := Aside0.mk (blk_below HX5.out hd.below); replace HK15 := Aside0.mk (blk_below HK15.out hd.below); replace HM5 := Aside0.mk (Kd.M_below HM5.out hd.below); replace HB5 := Aside0.mk (HB5.out.trans (hd.below.mono HB5.out.size)); clear hcall hd)
        | (refine wpList_load_row rfl 48 (.tmp 9) rfl W6.heap.size rfl 48 #[.int .i64 0, .int .i64 0, .string ⟨#[]⟩] (0, 0) _ (blk_new W6 _) hub rfl HI0.out ?_)
        | (refine wpList_store_row rfl 48 (.tmp 4) (.tmp 30) rfl (w.heap.size + 1) #[.int .i64 0, .int .i64 0, .string ⟨#[]⟩] rfl rfl 48 #[.int .i64 0, .int .i64 0, .string ⟨#[]⟩] (blk_alloc HK15.out _) HI0.out rfl HZ1.out ?_))
      refine bodyPost_ret (v := .tuple #[.agg #[.int .i64 0, .int .i64 0, .string ⟨#[]⟩], .int .i64 2]) (by refine (results_cell_tmp (p := 4) (q := 5) (ty := 48) ?_ _ _ (w.heap.size + 1) 48 #[.int .i64 0, .int .i64 0, .string ⟨#[]⟩] (0, 0) _ ?_ (setRow_heap _ _ _ _ _ _ (blk_alloc HK15.out _)) hub rfl HI0.out).trans ?_ <;> rfl) rfl ⟨⟨zxBat, zsBat, 2, rfl, zMBat _ _, fun e => absurd e (by decide), fun _ => rfl⟩, (HB5.out.alloc HB5.out.size _).grown (setRow_grown _ _ _) (HB5.out.alloc HB5.out.size _).size (fun k e => by injection e with e; omega)⟩
  · have hk1 : (k == 0) = false := by simpa using hk
    have hk2 : (k != 0) = true := by simpa using hk
    have HKN := Aside0.mk hk
    clear hk
    have k1n := (blk_alloc HK1.out (.cells #[.int .i64 0, .int .i64 0, .string ⟨#[]⟩] 48))
    go_wp2_with (first | (refine wpList_load_row rfl 48 (.tmp 9) rfl W4.heap.size rfl 48 #[.int .i64 0, .int .i64 0, .string ⟨#[]⟩] (0, 0) _ (blk_new W4 _) hub rfl HI0.out ?_) | (refine wpList_store_row rfl 48 (.tmp 4) (.tmp 30) rfl (w.heap.size + 1) #[.int .i64 0, .int .i64 0, .string ⟨#[]⟩] rfl rfl 48 #[.int .i64 0, .int .i64 0, .string ⟨#[]⟩] k1n HI0.out rfl HZ1.out ?_))
    refine bodyPost_ret (v := .tuple #[.agg #[.int .i64 0, .int .i64 0, .string ⟨#[]⟩], .int .i64 k]) (by refine (results_cell_tmp (p := 4) (q := 5) (ty := 48) ?_ _ _ (w.heap.size + 1) 48 #[.int .i64 0, .int .i64 0, .string ⟨#[]⟩] (0, 0) _ ?_ (setRow_heap _ _ _ _ _ _ k1n) hub rfl HI0.out).trans ?_ <;> rfl) rfl ⟨⟨zxBat, zsBat, k, rfl, zMBat _ _, fun e => absurd e HKN.out, fun _ => rfl⟩, (HB3.out.alloc HB3.out.size _).grown (setRow_grown _ _ _) (HB3.out.alloc HB3.out.size _).size (fun k e => by injection e with e; omega)⟩

set_option maxRecDepth 100000 in
set_option maxHeartbeats 8000000 in
theorem ReadBat_calls (A : Option Addr) (c : Nat) (l : List Int) (w : World) (hC : Kd.C (Kd.int .u8) w A l.length l) (hc : l.length ≤ c) (hl : l.length ≤ 3000) (hu8 : ∀ x ∈ l, 0 ≤ x ∧ x ≤ 255) :
    Calls Tryz.prog 7 #[.slice A l.length c] w (ReadAns kBat gBat bBat zsBat l w) := by
  have hub := Tryz.underlying48
  have huf := Tryz.underlying80
  have hi0 : (Tryz.prog.info? 48).map (·.size) = some zsBat.toArray.size := by kernel_rfl
  have hb0 := (Below.refl _ w).alloc (Nat.le_refl _) (.cells #[.int .i64 0, .int .i64 0, .string ⟨#[]⟩] 48)
  have hrd := readBat_calls A c l (w.alloc (.cells #[.int .i64 0, .int .i64 0, .string ⟨#[]⟩] 48)) (Kd.C_below hC hb0) hc hl hu8
  have HI0 := Aside0.mk hi0
  have HB0 := Aside0.mk hb0
  clear hi0 hb0 hC hc hl hu8
  go_enter Tryz.func7, Tryz.ntmps7
  go_wp2_with (first
    | (refine wpList_store_row rfl 48 (.tmp 2) (.tmp 7) rfl w.heap.size CA rfl rfl 48 #[.int .i64 0, .int .i64 0, .string ⟨#[]⟩] HK.out HI.out HOLD.out H1.out ?_)
    | (go_at_call 21; refine (show Calls _ _ _ _ _ from hrd).mono ?_; rintro e W2 ⟨⟨x, cs, k, rfl, hM, h1, h2⟩, hb⟩; obtain ⟨CA, hCA⟩ : ∃ CA, cs.toArray = CA := ⟨_, rfl⟩; have hsz1 : CA.size = kBat.sz := (by rw [← hCA, List.size_toArray]; exact kBat.K_len (kBat.K_of_M hM)); have HI := Aside0.mk (show (Tryz.prog.info? 48).map (·.size) = some CA.size from (by rw [hsz1]; exact HI0.out)); have HOLD := Aside0.mk (show (#[.int .i64 0, .int .i64 0, .string ⟨#[]⟩] : Array Value).size = CA.size from (by rw [hsz1]; rfl)); have H1 := Aside0.mk (show CA.all (·.oneCell') = true from (by refine Array.all_eq_true_iff_forall_mem.2 fun v hv => ?_; rw [← hCA, List.mem_toArray] at hv; exact kBat.K_one (kBat.K_of_M hM) v hv)); have HM := Aside0.mk hM; have HF := Aside0.mk (And.intro h1 h2); have HB := Aside0.mk hb; have HK := Aside0.mk (blk_below (blk_new w (.cells #[.int .i64 0, .int .i64 0, .string ⟨#[]⟩] 48)) hb); have HCA := Aside0.mk hCA; clear hM h1 h2 hb hrd hsz1; simp only [encA, hCA]; clear hCA))
  have HB2 := Aside0.mk (HB0.out.trans (HB.out.mono HB0.out.size))
  refine bodyPost_ret (v := .tuple #[.agg CA, .int .i64 k]) (by refine (results_cell_tmp (p := 2) (q := 3) (ty := 48) ?_ _ _ w.heap.size 48 CA (0, 0) _ ?_ (setRow_heap _ _ _ _ _ _ HK.out) hub rfl HI.out).trans ?_ <;> rfl) rfl ⟨⟨x, cs, k, by unfold encA; rw [HCA.out], kBat.M_lower HB0.out.size (M_setRow HM.out HK.out (by decide)), HF.out.1, HF.out.2⟩, HB2.out.grown (setRow_grown _ _ _) HB2.out.size (fun k e => by injection e with e; omega)⟩

set_option maxRecDepth 100000 in
set_option maxHeartbeats 8000000 in
theorem bytesEmi_calls (x : Emi) (cs : List Value) (w : World) (hK : kEmi.K w x cs) (hG : gEmi x) : Calls Tryz.prog 42 #[.agg #[.func (.func 13) #[] #[], .func (.func 14) #[] #[]], encA cs] w (BytesOut (bEmi x) w) := by
  have hK0 := hK
  have hcs := kEmi_open hK
  subst hcs
  have HLN := Aside0.mk (show (bEmi x).length ≤ 20200 from bEmi_len x hG)
  have hput := fun W hW => putEmi_one w (w.heap.size + 1 + 1) [] x _ W hK0 hG (by have := HLN.out; simp; omega) hW
  have hub := Tryz.underlying30
  have HLB := Aside0.mk (show (bEmi x).length ≤ 140737488355328 by have := HLN.out; omega)
  simp only [encA] at hput ⊢
  obtain ⟨w1, e1⟩ : ∃ w1, w.alloc (.cells #[.func (.func 13) #[] #[], .func (.func 14) #[] #[]] 72) = w1 := ⟨_, rfl⟩
  obtain ⟨w2, e2⟩ : ∃ w2, w1.alloc (.cells #[.string x.key, .string x.policy, .int .i64 x.kind, .int .i64 x.start, .int .i64 x.rev, .bool x.final, .int .i64 x.rkind, .int .i64 x.count, .int .i64 x.sum, .int .i64 x.min, .int .i64 x.max, .int .i64 x.q0, .int .i64 x.q1, .int .i64 x.q2, .bool x.over] 30) = w2 := ⟨_, rfl⟩
  obtain ⟨w3, e3⟩ : ∃ w3, w2.alloc (.cells #[.slice none 0 0] 139) = w3 := ⟨_, rfl⟩
  have z1 : w1.heap.size = w.heap.size + 1 := by rw [← e1]; exact World.size_alloc _ _
  have z2 : w2.heap.size = w.heap.size + 1 + 1 := by rw [← e2, World.size_alloc, z1]
  have b1 : Below w.heap.size w w1 := by rw [← e1]; exact (Below.refl _ _).alloc (Nat.le_refl _) _
  have b2 : Below w1.heap.size w1 w2 := by rw [← e2]; exact (Below.refl _ _).alloc (Nat.le_refl _) _
  have b3 : Below w2.heap.size w2 w3 := by rw [← e3]; exact (Below.refl _ _).alloc (Nat.le_refl _) _
  have k0 : w3.heap[w.heap.size]? = some (.cells #[.func (.func 13) #[] #[], .func (.func 14) #[] #[]] 72 (0, 0)) := blk_below (blk_below (by rw [← e1]; exact blk_new _ _) b2) b3
  have k1 : w3.heap[w.heap.size + 1]? = some (.cells #[.string x.key, .string x.policy, .int .i64 x.kind, .int .i64 x.start, .int .i64 x.rev, .bool x.final, .int .i64 x.rkind, .int .i64 x.count, .int .i64 x.sum, .int .i64 x.min, .int .i64 x.max, .int .i64 x.q0, .int .i64 x.q1, .int .i64 x.q2, .bool x.over] 30 (0, 0)) := blk_below (by rw [← z1, ← e2]; exact blk_new _ _) b3
  have k2 : w3.heap[w.heap.size + 1 + 1]? = some (.cells #[.slice none 0 0] 139 (0, 0)) := by rw [← z2, ← e3]; exact blk_new _ _
  have hb := b1.trans ((b2.trans (b3.mono b2.size)).mono b1.size)
  have hcs : CS w (w.heap.size + 1 + 1) [] w3 := ⟨hb, by omega, _, k2, Kd.R_nil _ _ _ _ _⟩
  have c0 := blk_cell k0 0
  have x0 := blk_cell k1 0
  have x1 := blk_cell k1 1
  have x2 := blk_cell k1 2
  have x3 := blk_cell k1 3
  have x4 := blk_cell k1 4
  have x5 := blk_cell k1 5
  have x6 := blk_cell k1 6
  have x7 := blk_cell k1 7
  have x8 := blk_cell k1 8
  have x9 := blk_cell k1 9
  have x10 := blk_cell k1 10
  have x11 := blk_cell k1 11
  have x12 := blk_cell k1 12
  have x13 := blk_cell k1 13
  have x14 := blk_cell k1 14
  have HCS := Aside0.mk hcs
  have e4 : ((w.alloc (.cells #[.func (.func 13) #[] #[], .func (.func 14) #[] #[]] 72)).alloc (.cells #[.string x.key, .string x.policy, .int .i64 x.kind, .int .i64 x.start, .int .i64 x.rev, .bool x.final, .int .i64 x.rkind, .int .i64 x.count, .int .i64 x.sum, .int .i64 x.min, .int .i64 x.max, .int .i64 x.q0, .int .i64 x.q1, .int .i64 x.q2, .bool x.over] 30)).alloc (.cells #[.slice none 0 0] 139) = w3 := by rw [e1, e2, e3]
  clear e1 e2 e3 z1 z2 b1 b2 b3 k0 k2 hb hcs hG hK hK0
  go_enter Tryz.func42, Tryz.ntmps42
  go_upto_region 2 with fail
  try rw [e4]
  clear e4
  go_wp2_with (first
    | (go_at_call 13; refine (show Calls _ _ _ _ _ from hput _ HCS.out).mono ?_; rintro e W1 ⟨⟨ve, rfl⟩, hc, hp⟩; rw [List.nil_append] at hc; have HC1 := Aside0.mk hc; have hby := cbytes_calls w (w.heap.size + 1 + 1) (bEmi x) HLB.out W1 hc; clear hc hp hput)
    | (go_at_call 60; refine (show Calls _ _ _ _ _ from hby).mono ?_; rintro e W2 ⟨⟨A', n', c', rfl, hn, hcc, hCC⟩, hb2⟩; have HO := Aside0.mk (And.intro hn (And.intro hcc hCC)); have HB2 := Aside0.mk hb2; clear hn hcc hCC hb2 hby))
  exact bodyPost_ret (v := .slice A' n' c') (by simp [results, Tryz.results42, go_sem]) rfl ⟨⟨A', n', c', rfl, HO.out.1, HO.out.2.1, HO.out.2.2⟩, HC1.out.1.trans (HB2.out.mono HC1.out.1.size)⟩

def zsEmi : List Value := [.string ⟨#[]⟩, .string ⟨#[]⟩, .int .i64 0, .int .i64 0, .int .i64 0, .bool false, .int .i64 0, .int .i64 0, .int .i64 0, .int .i64 0, .int .i64 0, .int .i64 0, .int .i64 0, .int .i64 0, .bool false]
def zxEmi : Emi := zEmi
theorem zMEmi (W : World) (base : Nat) : kEmi.M W base (fun _ => True) zxEmi zsEmi := kEmi_mkM W base _ zEmi
set_option maxRecDepth 100000 in
set_option maxHeartbeats 8000000 in
theorem readEmi_calls (A : Option Addr) (c : Nat) (l : List Int) (w : World) (hC : Kd.C (Kd.int .u8) w A l.length l) (hc : l.length ≤ c) (hl : l.length ≤ 3000) (hu8 : ∀ x ∈ l, 0 ≤ x ∧ x ≤ 255) :
    Calls Tryz.prog 15 #[.agg #[.func (.func 13) #[] #[], .func (.func 14) #[] #[]], .slice A l.length c] w (ReadAns kEmi gEmi bEmi zsEmi l w) := by
  have hub := Tryz.underlying30
  have huf := Tryz.underlying72
  have hi0 : (Tryz.prog.info? 30).map (·.size) = some zsEmi.toArray.size := by kernel_rfl
  have hopen := fun W => open_calls A l.length c W
  obtain ⟨w1, e1⟩ : ∃ w1, w.alloc (.cells #[.func (.func 13) #[] #[], .func (.func 14) #[] #[]] 72) = w1 := ⟨_, rfl⟩
  obtain ⟨w2, e2⟩ : ∃ w2, w1.alloc (.cells #[.string ⟨#[]⟩, .string ⟨#[]⟩, .int .i64 0, .int .i64 0, .int .i64 0, .bool false, .int .i64 0, .int .i64 0, .int .i64 0, .int .i64 0, .int .i64 0, .int .i64 0, .int .i64 0, .int .i64 0, .bool false] 30) = w2 := ⟨_, rfl⟩
  obtain ⟨w3, e3⟩ : ∃ w3, w2.alloc (.cells #[.slice A l.length c, .int .i64 0] 145) = w3 := ⟨_, rfl⟩
  have z1 : w1.heap.size = w.heap.size + 1 := by rw [← e1]; exact World.size_alloc _ _
  have z2 : w2.heap.size = w.heap.size + 1 + 1 := by rw [← e2, World.size_alloc, z1]
  have b1 : Below w.heap.size w w1 := by rw [← e1]; exact (Below.refl _ _).alloc (Nat.le_refl _) _
  have b2 : Below w1.heap.size w1 w2 := by rw [← e2]; exact (Below.refl _ _).alloc (Nat.le_refl _) _
  have b3 : Below w2.heap.size w2 w3 := by rw [← e3]; exact (Below.refl _ _).alloc (Nat.le_refl _) _
  have k0 : w3.heap[w.heap.size]? = some (.cells #[.func (.func 13) #[] #[], .func (.func 14) #[] #[]] 72 (0, 0)) := blk_below (blk_below (by rw [← e1]; exact blk_new _ _) b2) b3
  have k1 : w3.heap[w.heap.size + 1]? = some (.cells #[.string ⟨#[]⟩, .string ⟨#[]⟩, .int .i64 0, .int .i64 0, .int .i64 0, .bool false, .int .i64 0, .int .i64 0, .int .i64 0, .int .i64 0, .int .i64 0, .int .i64 0, .int .i64 0, .int .i64 0, .bool false] 30 (0, 0)) := blk_below (by rw [← z1, ← e2]; exact blk_new _ _) b3
  have k2 : w3.heap[w.heap.size + 1 + 1]? = some (.cells #[.slice A l.length c, .int .i64 0] 145 (0, 0)) := by rw [← z2, ← e3]; exact blk_new _ _
  have hb := b1.trans ((b2.trans (b3.mono b2.size)).mono b1.size)
  have hrs : RS w (w.heap.size + 1 + 1) 0 w3 := ⟨hb, by omega, A, c, l, k2, hc, by omega, hu8, hC⟩
  have htk := takeEmi_calls w (w.heap.size + 1 + 1) 0 w3 hrs
  have c1 := blk_cell k0 1
  have e4 : ((w.alloc (.cells #[.func (.func 13) #[] #[], .func (.func 14) #[] #[]] 72)).alloc (.cells #[.string ⟨#[]⟩, .string ⟨#[]⟩, .int .i64 0, .int .i64 0, .int .i64 0, .bool false, .int .i64 0, .int .i64 0, .int .i64 0, .int .i64 0, .int .i64 0, .int .i64 0, .int .i64 0, .int .i64 0, .bool false] 30)).alloc (.cells #[.slice A l.length c, .int .i64 0] 145) = w3 := by rw [e1, e2, e3]
  have hsz : w2.heap.size = w.heap.size + 1 + 1 := z2
  have e5 : (w.alloc (.cells #[.func (.func 13) #[] #[], .func (.func 14) #[] #[]] 72)).alloc (.cells #[.string ⟨#[]⟩, .string ⟨#[]⟩, .int .i64 0, .int .i64 0, .int .i64 0, .bool false, .int .i64 0, .int .i64 0, .int .i64 0, .int .i64 0, .int .i64 0, .int .i64 0, .int .i64 0, .int .i64 0, .bool false] 30) = w2 := by rw [e1, e2]
  have HC := Aside0.mk hC
  have HCC := Aside0.mk hc
  have HL := Aside0.mk hl
  have K0 := Aside0.mk k0
  have K1 := Aside0.mk k1
  have HB := Aside0.mk hb
  have H3 := Aside0.mk (show w.heap.size + 1 + 1 < w3.heap.size from blk_lt k2)
  clear z1 z2 b1 b2 b3 k0 k1 k2 hb hrs hC hc hl hu8 e1 e2
  go_enter Tryz.func15, Tryz.ntmps15
  go_upto_region 2 with (go_at_call 39; refine (hopen _).mono ?_; rintro e w4 ⟨rfl, rfl⟩; clear hopen)
  have HZ1 := Aside0.mk (show (#[.string ⟨#[]⟩, .string ⟨#[]⟩, .int .i64 0, .int .i64 0, .int .i64 0, .bool false, .int .i64 0, .int .i64 0, .int .i64 0, .int .i64 0, .int .i64 0, .int .i64 0, .int .i64 0, .int .i64 0, .bool false] : Array Value).all (·.oneCell') = true by simp [Value.oneCell'])
  have HI0 := Aside0.mk hi0
  clear hi0
  go_upto_region 3 with (first
    | (refine wpList_store_row rfl 30 (.tmp 7) (.tmp 15) rfl W2.heap.size CA rfl rfl 30 #[.string ⟨#[]⟩, .string ⟨#[]⟩, .int .i64 0, .int .i64 0, .int .i64 0, .bool false, .int .i64 0, .int .i64 0, .int .i64 0, .int .i64 0, .int .i64 0, .int .i64 0, .int .i64 0, .int .i64 0, .bool false] (blk_new W2 _) HI.out HOLD.out H1.out ?_)
    | (go_at_call 14; refine (show Calls _ _ _ _ _ from htk).mono ?_; rintro e W2 ⟨⟨x, cs, rfl, hM, hG⟩, ⟨f2, hr⟩, hg⟩; obtain ⟨CA, hCA⟩ : ∃ CA, cs.toArray = CA := ⟨_, rfl⟩; have hsz1 : CA.size = kEmi.sz := (by rw [← hCA, List.size_toArray]; exact kEmi.K_len (kEmi.K_of_M hM)); have HI := Aside0.mk (show (Tryz.prog.info? 30).map (·.size) = some CA.size from (by rw [hsz1]; exact HI0.out)); have HOLD := Aside0.mk (show (#[.string ⟨#[]⟩, .string ⟨#[]⟩, .int .i64 0, .int .i64 0, .int .i64 0, .bool false, .int .i64 0, .int .i64 0, .int .i64 0, .int .i64 0, .int .i64 0, .int .i64 0, .int .i64 0, .int .i64 0, .bool false] : Array Value).size = CA.size from (by rw [hsz1]; rfl)); have H1 := Aside0.mk (show CA.all (·.oneCell') = true from (by refine Array.all_eq_true_iff_forall_mem.2 fun v hv => ?_; rw [← hCA, List.mem_toArray] at hv; exact kEmi.K_one (kEmi.K_of_M hM) v hv)); have HM := Aside0.mk hM; have HG := Aside0.mk hG; have HR := Aside0.mk hr; have HGR := Aside0.mk hg; have HCA := Aside0.mk hCA; clear hM hG hr hg htk hsz1; simp only [encA, hCA]; clear hCA))
  clear e3 e4 e5 hsz c1
  have hbA := (Below.refl _ W2).alloc (Nat.le_refl _) (.cells #[.string ⟨#[]⟩, .string ⟨#[]⟩, .int .i64 0, .int .i64 0, .int .i64 0, .bool false, .int .i64 0, .int .i64 0, .int .i64 0, .int .i64 0, .int .i64 0, .int .i64 0, .int .i64 0, .int .i64 0, .bool false] 30)
  have hw3 := HGR.out.size
  have HM3 := Aside0.mk (M_setRow (b := W2.heap.size) (new := CA) (Kd.M_below HM.out hbA) (blk_new W2 (.cells #[.string ⟨#[]⟩, .string ⟨#[]⟩, .int .i64 0, .int .i64 0, .int .i64 0, .bool false, .int .i64 0, .int .i64 0, .int .i64 0, .int .i64 0, .int .i64 0, .int .i64 0, .int .i64 0, .int .i64 0, .bool false] 30)) (by decide))
  have HG3 := Aside0.mk (grown_own (World.grownBy.trans HGR.out (grown_of_below hbA _)) (setRow_grown (W2.alloc (.cells #[.string ⟨#[]⟩, .string ⟨#[]⟩, .int .i64 0, .int .i64 0, .int .i64 0, .bool false, .int .i64 0, .int .i64 0, .int .i64 0, .int .i64 0, .int .i64 0, .int .i64 0, .int .i64 0, .int .i64 0, .bool false] 30)) W2.heap.size CA) (fun k e => by injection e with e; omega))
  have HR3 := Aside0.mk ((HR.out.kept hbA).grown (setRow_grown (W2.alloc (.cells #[.string ⟨#[]⟩, .string ⟨#[]⟩, .int .i64 0, .int .i64 0, .int .i64 0, .bool false, .int .i64 0, .int .i64 0, .int .i64 0, .int .i64 0, .int .i64 0, .int .i64 0, .int .i64 0, .int .i64 0, .bool false] 30)) W2.heap.size CA) (fun e => by injection e with e; have := H3.out; omega) (fun k e => by injection e with e; have := HB.out.size; omega))
  have HX3 := Aside0.mk (setRow_heap (W2.alloc (.cells #[.string ⟨#[]⟩, .string ⟨#[]⟩, .int .i64 0, .int .i64 0, .int .i64 0, .bool false, .int .i64 0, .int .i64 0, .int .i64 0, .int .i64 0, .int .i64 0, .int .i64 0, .int .i64 0, .int .i64 0, .bool false] 30)) W2.heap.size #[.string ⟨#[]⟩, .string ⟨#[]⟩, .int .i64 0, .int .i64 0, .int .i64 0, .bool false, .int .i64 0, .int .i64 0, .int .i64 0, .int .i64 0, .int .i64 0, .int .i64 0, .int .i64 0, .int .i64 0, .bool false] CA 30 (0, 0) (blk_new W2 _))
  clear hbA HM HR
  generalize (W2.alloc (.cells #[.string ⟨#[]⟩, .string ⟨#[]⟩, .int .i64 0, .int .i64 0, .int .i64 0, .bool false, .int .i64 0, .int .i64 0, .int .i64 0, .int .i64 0, .int .i64 0, .int .i64 0, .int .i64 0, .int .i64 0, .bool false] 30)).setRow W2.heap.size CA = W3 at HM3 HG3 HR3 HX3 ⊢
  have HK0 := Aside0.mk (blk_grown K0.out HG3.out (fun e => by injection e with e; omega))
  have HK1 := Aside0.mk (blk_grown K1.out HG3.out (fun e => by injection e with e; omega))
  have HB3 := Aside0.mk (HB.out.grown HG3.out HB.out.size (fun k e => by injection e with e; omega))
  have HP := Aside0.mk (show W2.heap.size ≠ w.heap.size + 1 by have := H3.out; omega)
  obtain ⟨p7, hp7⟩ : ∃ p7, W2.heap.size = p7 := ⟨_, rfl⟩
  rw [hp7] at HX3 HP ⊢
  clear hp7 hw3 HGR K0 K1 HB
  go_upto_region 4 with (go_at_call 40; refine (end_calls w (w.heap.size + 1 + 1) f2 W3 HR3.out).mono ?_; rintro e W4 ⟨⟨k, rfl⟩, rfl⟩)
  by_cases hk : k = 0
  · subst hk
    have hby := bytesEmi_calls x cs W4 (kEmi.K_of_M HM3.out) HG.out
    simp only [encA, HCA.out] at hby
    have HLB := Aside0.mk (show (bEmi x).length ≤ 1000000000000 from Nat.le_trans (bEmi_len x HG.out) (by decide))
    have c0 := blk_cell HK0.out 0
    have c1 := blk_cell HK0.out 1
    by_cases hbl : bEmi x = l
    · have heq := fun A' c' W5 hC5 hcc hC6 => slices_Equal_byte_byte.calls ((bEmi x).length + 1) A' c' (bEmi x) A c l true W5 hC5 hcc hC6 HCC.out (by rw [equal_eq _ _ HLB.out, decide_eq_true hbl])
      have HBL := Aside0.mk hbl
      have HEQ := Aside0.mk heq
      clear hbl heq
      go_wp2_with (first
        | (refine gate_guard (by rfl) ?_; refine wpList_load_row rfl 30 (.tmp 7) rfl p7 rfl 30 CA (0, 0) _ HX3.out hub rfl HI.out ?_)
        | (go_at_call 42; refine (show Calls _ _ _ _ _ from hby).mono ?_; rintro e W5 ⟨⟨A', n', c', rfl, hn, hcc, hCC⟩, hb5⟩; subst hn; have hcall := HEQ.out A' c' W5 hCC hcc (Kd.C_below HC.out (HB3.out.trans (hb5.mono HB3.out.size))); have HX5 := Aside0.mk (blk_below HX3.out hb5); have HK15 := Aside0.mk (blk_below HK1.out hb5); have HM5 := Aside0.mk (Kd.M_below HM3.out hb5); have HB5 := Aside0.mk (HB3.out.trans (hb5.mono HB3.out.size)); clear hcc hCC hb5 hby c0 c1)
        | (go_at_call 41; refine (show Calls _ _ _ _ _ from hcall).mono ?_; rintro e W6 ⟨rfl, hd⟩; replace HX5 := Aside0.mk (blk_below HX5.out hd.below); replace HK15 := Aside0.mk (blk_below HK15.out hd.below); replace HM5 := Aside0.mk (Kd.M_below HM5.out hd.below); replace HB5 := Aside0.mk (HB5.out.trans (hd.below.mono HB5.out.size)); clear hcall hd)
        | (refine wpList_load_row rfl 30 (.tmp 7) rfl p7 rfl 30 CA (0, 0) _ HX5.out hub rfl HI.out ?_)
        | (refine wpList_store_row rfl 30 (.tmp 4) (.tmp 32) rfl (w.heap.size + 1) CA rfl rfl 30 #[.string ⟨#[]⟩, .string ⟨#[]⟩, .int .i64 0, .int .i64 0, .int .i64 0, .bool false, .int .i64 0, .int .i64 0, .int .i64 0, .int .i64 0, .int .i64 0, .int .i64 0, .int .i64 0, .int .i64 0, .bool false] HK15.out HI.out HOLD.out H1.out ?_))
      refine bodyPost_ret (v := .tuple #[.agg CA, .int .i64 0]) (by refine (results_cell_tmp (p := 4) (q := 5) (ty := 30) ?_ _ _ (w.heap.size + 1) 30 CA (0, 0) _ ?_ (setRow_heap _ _ _ _ _ _ HK15.out) hub rfl HI.out).trans ?_ <;> rfl) rfl ⟨⟨x, cs, 0, by unfold encA; rw [HCA.out], kEmi.M_mono (fun _ _ => trivial) (kEmi.M_lower (by have := H3.out; omega) (M_setRow HM5.out HK15.out (by decide))), fun _ => ⟨HG.out, HBL.out⟩, fun e => absurd rfl e⟩, HB5.out.grown (setRow_grown _ _ _) HB5.out.size (fun k e => by injection e with e; omega)⟩
    · have heq := fun A' c' W5 hC5 hcc hC6 => slices_Equal_byte_byte.calls ((bEmi x).length + 1) A' c' (bEmi x) A c l false W5 hC5 hcc hC6 HCC.out (by rw [equal_eq _ _ HLB.out, decide_eq_false hbl])
      have HEQ := Aside0.mk heq
      clear hbl heq
      go_wp2_with (first
        | (refine gate_guard (by rfl) ?_; refine wpList_load_row rfl 30 (.tmp 7) rfl p7 rfl 30 CA (0, 0) _ HX3.out hub rfl HI.out ?_)
        | (go_at_call 42; refine (show Calls _ _ _ _ _ from hby).mono ?_; rintro e W5 ⟨⟨A', n', c', rfl, hn, hcc, hCC⟩, hb5⟩; subst hn; have hcall := HEQ.out A' c' W5 hCC hcc (Kd.C_below HC.out (HB3.out.trans (hb5.mono HB3.out.size))); have HX5 := Aside0.mk (blk_below HX3.out hb5); have HK15 := Aside0.mk (blk_below HK1.out hb5); have HM5 := Aside0.mk (Kd.M_below HM3.out hb5); have HB5 := Aside0.mk (HB3.out.trans (hb5.mono HB3.out.size)); clear hcc hCC hb5 hby c0 c1)
        | (go_at_call 41; refine (show Calls _ _ _ _ _ from hcall).mono ?_; rintro e W6 ⟨rfl, hd⟩; replace HX5 := Aside0.mk (blk_below HX5.out hd.below); replace HK15 := Aside0.mk (blk_below HK15.out hd.below); replace HM5 := Aside0.mk (Kd.M_below HM5.out hd.below); replace HB5 := Aside0.mk (HB5.out.trans (hd.below.mono HB5.out.size)); clear hcall hd)
        | (refine wpList_load_row rfl 30 (.tmp 9) rfl W6.heap.size rfl 30 #[.string ⟨#[]⟩, .string ⟨#[]⟩, .int .i64 0, .int .i64 0, .int .i64 0, .bool false, .int .i64 0, .int .i64 0, .int .i64 0, .int .i64 0, .int .i64 0, .int .i64 0, .int .i64 0, .int .i64 0, .bool false] (0, 0) _ (blk_new W6 _) hub rfl HI0.out ?_)
        | (refine wpList_store_row rfl 30 (.tmp 4) (.tmp 30) rfl (w.heap.size + 1) #[.string ⟨#[]⟩, .string ⟨#[]⟩, .int .i64 0, .int .i64 0, .int .i64 0, .bool false, .int .i64 0, .int .i64 0, .int .i64 0, .int .i64 0, .int .i64 0, .int .i64 0, .int .i64 0, .int .i64 0, .bool false] rfl rfl 30 #[.string ⟨#[]⟩, .string ⟨#[]⟩, .int .i64 0, .int .i64 0, .int .i64 0, .bool false, .int .i64 0, .int .i64 0, .int .i64 0, .int .i64 0, .int .i64 0, .int .i64 0, .int .i64 0, .int .i64 0, .bool false] (blk_alloc HK15.out _) HI0.out rfl HZ1.out ?_))
      refine bodyPost_ret (v := .tuple #[.agg #[.string ⟨#[]⟩, .string ⟨#[]⟩, .int .i64 0, .int .i64 0, .int .i64 0, .bool false, .int .i64 0, .int .i64 0, .int .i64 0, .int .i64 0, .int .i64 0, .int .i64 0, .int .i64 0, .int .i64 0, .bool false], .int .i64 2]) (by refine (results_cell_tmp (p := 4) (q := 5) (ty := 30) ?_ _ _ (w.heap.size + 1) 30 #[.string ⟨#[]⟩, .string ⟨#[]⟩, .int .i64 0, .int .i64 0, .int .i64 0, .bool false, .int .i64 0, .int .i64 0, .int .i64 0, .int .i64 0, .int .i64 0, .int .i64 0, .int .i64 0, .int .i64 0, .bool false] (0, 0) _ ?_ (setRow_heap _ _ _ _ _ _ (blk_alloc HK15.out _)) hub rfl HI0.out).trans ?_ <;> rfl) rfl ⟨⟨zxEmi, zsEmi, 2, rfl, zMEmi _ _, fun e => absurd e (by decide), fun _ => rfl⟩, (HB5.out.alloc HB5.out.size _).grown (setRow_grown _ _ _) (HB5.out.alloc HB5.out.size _).size (fun k e => by injection e with e; omega)⟩
  · have hk1 : (k == 0) = false := by simpa using hk
    have hk2 : (k != 0) = true := by simpa using hk
    have HKN := Aside0.mk hk
    clear hk
    have k1n := (blk_alloc HK1.out (.cells #[.string ⟨#[]⟩, .string ⟨#[]⟩, .int .i64 0, .int .i64 0, .int .i64 0, .bool false, .int .i64 0, .int .i64 0, .int .i64 0, .int .i64 0, .int .i64 0, .int .i64 0, .int .i64 0, .int .i64 0, .bool false] 30))
    go_wp2_with (first | (refine wpList_load_row rfl 30 (.tmp 9) rfl W4.heap.size rfl 30 #[.string ⟨#[]⟩, .string ⟨#[]⟩, .int .i64 0, .int .i64 0, .int .i64 0, .bool false, .int .i64 0, .int .i64 0, .int .i64 0, .int .i64 0, .int .i64 0, .int .i64 0, .int .i64 0, .int .i64 0, .bool false] (0, 0) _ (blk_new W4 _) hub rfl HI0.out ?_) | (refine wpList_store_row rfl 30 (.tmp 4) (.tmp 30) rfl (w.heap.size + 1) #[.string ⟨#[]⟩, .string ⟨#[]⟩, .int .i64 0, .int .i64 0, .int .i64 0, .bool false, .int .i64 0, .int .i64 0, .int .i64 0, .int .i64 0, .int .i64 0, .int .i64 0, .int .i64 0, .int .i64 0, .bool false] rfl rfl 30 #[.string ⟨#[]⟩, .string ⟨#[]⟩, .int .i64 0, .int .i64 0, .int .i64 0, .bool false, .int .i64 0, .int .i64 0, .int .i64 0, .int .i64 0, .int .i64 0, .int .i64 0, .int .i64 0, .int .i64 0, .bool false] k1n HI0.out rfl HZ1.out ?_))
    refine bodyPost_ret (v := .tuple #[.agg #[.string ⟨#[]⟩, .string ⟨#[]⟩, .int .i64 0, .int .i64 0, .int .i64 0, .bool false, .int .i64 0, .int .i64 0, .int .i64 0, .int .i64 0, .int .i64 0, .int .i64 0, .int .i64 0, .int .i64 0, .bool false], .int .i64 k]) (by refine (results_cell_tmp (p := 4) (q := 5) (ty := 30) ?_ _ _ (w.heap.size + 1) 30 #[.string ⟨#[]⟩, .string ⟨#[]⟩, .int .i64 0, .int .i64 0, .int .i64 0, .bool false, .int .i64 0, .int .i64 0, .int .i64 0, .int .i64 0, .int .i64 0, .int .i64 0, .int .i64 0, .int .i64 0, .bool false] (0, 0) _ ?_ (setRow_heap _ _ _ _ _ _ k1n) hub rfl HI0.out).trans ?_ <;> rfl) rfl ⟨⟨zxEmi, zsEmi, k, rfl, zMEmi _ _, fun e => absurd e HKN.out, fun _ => rfl⟩, (HB3.out.alloc HB3.out.size _).grown (setRow_grown _ _ _) (HB3.out.alloc HB3.out.size _).size (fun k e => by injection e with e; omega)⟩

set_option maxRecDepth 100000 in
set_option maxHeartbeats 8000000 in
theorem ReadEmi_calls (A : Option Addr) (c : Nat) (l : List Int) (w : World) (hC : Kd.C (Kd.int .u8) w A l.length l) (hc : l.length ≤ c) (hl : l.length ≤ 3000) (hu8 : ∀ x ∈ l, 0 ≤ x ∧ x ≤ 255) :
    Calls Tryz.prog 5 #[.slice A l.length c] w (ReadAns kEmi gEmi bEmi zsEmi l w) := by
  have hub := Tryz.underlying30
  have huf := Tryz.underlying72
  have hi0 : (Tryz.prog.info? 30).map (·.size) = some zsEmi.toArray.size := by kernel_rfl
  have hb0 := (Below.refl _ w).alloc (Nat.le_refl _) (.cells #[.string ⟨#[]⟩, .string ⟨#[]⟩, .int .i64 0, .int .i64 0, .int .i64 0, .bool false, .int .i64 0, .int .i64 0, .int .i64 0, .int .i64 0, .int .i64 0, .int .i64 0, .int .i64 0, .int .i64 0, .bool false] 30)
  have hrd := readEmi_calls A c l (w.alloc (.cells #[.string ⟨#[]⟩, .string ⟨#[]⟩, .int .i64 0, .int .i64 0, .int .i64 0, .bool false, .int .i64 0, .int .i64 0, .int .i64 0, .int .i64 0, .int .i64 0, .int .i64 0, .int .i64 0, .int .i64 0, .bool false] 30)) (Kd.C_below hC hb0) hc hl hu8
  have HI0 := Aside0.mk hi0
  have HB0 := Aside0.mk hb0
  clear hi0 hb0 hC hc hl hu8
  go_enter Tryz.func5, Tryz.ntmps5
  go_wp2_with (first
    | (refine wpList_store_row rfl 30 (.tmp 2) (.tmp 7) rfl w.heap.size CA rfl rfl 30 #[.string ⟨#[]⟩, .string ⟨#[]⟩, .int .i64 0, .int .i64 0, .int .i64 0, .bool false, .int .i64 0, .int .i64 0, .int .i64 0, .int .i64 0, .int .i64 0, .int .i64 0, .int .i64 0, .int .i64 0, .bool false] HK.out HI.out HOLD.out H1.out ?_)
    | (go_at_call 15; refine (show Calls _ _ _ _ _ from hrd).mono ?_; rintro e W2 ⟨⟨x, cs, k, rfl, hM, h1, h2⟩, hb⟩; obtain ⟨CA, hCA⟩ : ∃ CA, cs.toArray = CA := ⟨_, rfl⟩; have hsz1 : CA.size = kEmi.sz := (by rw [← hCA, List.size_toArray]; exact kEmi.K_len (kEmi.K_of_M hM)); have HI := Aside0.mk (show (Tryz.prog.info? 30).map (·.size) = some CA.size from (by rw [hsz1]; exact HI0.out)); have HOLD := Aside0.mk (show (#[.string ⟨#[]⟩, .string ⟨#[]⟩, .int .i64 0, .int .i64 0, .int .i64 0, .bool false, .int .i64 0, .int .i64 0, .int .i64 0, .int .i64 0, .int .i64 0, .int .i64 0, .int .i64 0, .int .i64 0, .bool false] : Array Value).size = CA.size from (by rw [hsz1]; rfl)); have H1 := Aside0.mk (show CA.all (·.oneCell') = true from (by refine Array.all_eq_true_iff_forall_mem.2 fun v hv => ?_; rw [← hCA, List.mem_toArray] at hv; exact kEmi.K_one (kEmi.K_of_M hM) v hv)); have HM := Aside0.mk hM; have HF := Aside0.mk (And.intro h1 h2); have HB := Aside0.mk hb; have HK := Aside0.mk (blk_below (blk_new w (.cells #[.string ⟨#[]⟩, .string ⟨#[]⟩, .int .i64 0, .int .i64 0, .int .i64 0, .bool false, .int .i64 0, .int .i64 0, .int .i64 0, .int .i64 0, .int .i64 0, .int .i64 0, .int .i64 0, .int .i64 0, .bool false] 30)) hb); have HCA := Aside0.mk hCA; clear hM h1 h2 hb hrd hsz1; simp only [encA, hCA]; clear hCA))
  have HB2 := Aside0.mk (HB0.out.trans (HB.out.mono HB0.out.size))
  refine bodyPost_ret (v := .tuple #[.agg CA, .int .i64 k]) (by refine (results_cell_tmp (p := 2) (q := 3) (ty := 30) ?_ _ _ w.heap.size 30 CA (0, 0) _ ?_ (setRow_heap _ _ _ _ _ _ HK.out) hub rfl HI.out).trans ?_ <;> rfl) rfl ⟨⟨x, cs, k, by unfold encA; rw [HCA.out], kEmi.M_lower HB0.out.size (M_setRow HM.out HK.out (by decide)), HF.out.1, HF.out.2⟩, HB2.out.grown (setRow_grown _ _ _) HB2.out.size (fun k e => by injection e with e; omega)⟩

set_option maxRecDepth 100000 in
set_option maxHeartbeats 8000000 in
theorem bytesSta_calls (x : Sta) (cs : List Value) (w : World) (hK : kSta.K w x cs) (hG : gSta x) : Calls Tryz.prog 58 #[.agg #[.func (.func 16) #[] #[], .func (.func 17) #[] #[]], encA cs] w (BytesOut (bSta x) w) := by
  have hK0 := hK
  obtain ⟨CA, hCA⟩ : ∃ CA, cs.toArray = CA := ⟨_, rfl⟩
  have hi : (Tryz.prog.info? 44).map (·.size) = some CA.size := by rw [← hCA, List.size_toArray, kSta.K_len hK]; kernel_rfl
  have HLN := Aside0.mk (show (bSta x).length ≤ 40000000000 from bSta_len x hG (by obtain ⟨_, _, _, _, _, _, _, _, _, h24, _⟩ := kSta_open hK0; exact h24))
  have hput := fun W hW => putSta_calls w (w.heap.size + 1 + 1) [] x cs W hK0 hG (by have := HLN.out; simp; omega) hW
  have hub := Tryz.underlying44
  have HLB := Aside0.mk (show (bSta x).length ≤ 140737488355328 by have := HLN.out; omega)
  simp only [encA, hCA] at hput ⊢
  obtain ⟨w1, e1⟩ : ∃ w1, w.alloc (.cells #[.func (.func 16) #[] #[], .func (.func 17) #[] #[]] 76) = w1 := ⟨_, rfl⟩
  obtain ⟨w2, e2⟩ : ∃ w2, w1.alloc (.cells CA 44) = w2 := ⟨_, rfl⟩
  obtain ⟨w3, e3⟩ : ∃ w3, w2.alloc (.cells #[.slice none 0 0] 139) = w3 := ⟨_, rfl⟩
  have z1 : w1.heap.size = w.heap.size + 1 := by rw [← e1]; exact World.size_alloc _ _
  have z2 : w2.heap.size = w.heap.size + 1 + 1 := by rw [← e2, World.size_alloc, z1]
  have b1 : Below w.heap.size w w1 := by rw [← e1]; exact (Below.refl _ _).alloc (Nat.le_refl _) _
  have b2 : Below w1.heap.size w1 w2 := by rw [← e2]; exact (Below.refl _ _).alloc (Nat.le_refl _) _
  have b3 : Below w2.heap.size w2 w3 := by rw [← e3]; exact (Below.refl _ _).alloc (Nat.le_refl _) _
  have k0 : w3.heap[w.heap.size]? = some (.cells #[.func (.func 16) #[] #[], .func (.func 17) #[] #[]] 76 (0, 0)) := blk_below (blk_below (by rw [← e1]; exact blk_new _ _) b2) b3
  have k1 : w3.heap[w.heap.size + 1]? = some (.cells CA 44 (0, 0)) := blk_below (by rw [← z1, ← e2]; exact blk_new _ _) b3
  have k2 : w3.heap[w.heap.size + 1 + 1]? = some (.cells #[.slice none 0 0] 139 (0, 0)) := by rw [← z2, ← e3]; exact blk_new _ _
  have hb := b1.trans ((b2.trans (b3.mono b2.size)).mono b1.size)
  have hcs : CS w (w.heap.size + 1 + 1) [] w3 := ⟨hb, by omega, _, k2, Kd.R_nil _ _ _ _ _⟩
  have c0 := blk_cell k0 0

  have HCS := Aside0.mk hcs
  have e4 : ((w.alloc (.cells #[.func (.func 16) #[] #[], .func (.func 17) #[] #[]] 76)).alloc (.cells CA 44)).alloc (.cells #[.slice none 0 0] 139) = w3 := by rw [e1, e2, e3]
  clear e1 e2 e3 z1 z2 b1 b2 b3 k0 k2 hb hcs hG hK hK0
  go_enter Tryz.func58, Tryz.ntmps58
  go_upto_region 2 with fail
  try rw [e4]
  clear e4
  go_wp2_with (first
    | (refine wpList_load_row rfl 44 (.tmp 3) rfl (w.heap.size + 1) rfl 44 CA (0, 0) _ k1 hub rfl hi ?_)
    | (go_at_call 16; refine (show Calls _ _ _ _ _ from hput _ HCS.out).mono ?_; rintro e W1 ⟨⟨ve, rfl⟩, hc, hp⟩; rw [List.nil_append] at hc; have HC1 := Aside0.mk hc; have hby := cbytes_calls w (w.heap.size + 1 + 1) (bSta x) HLB.out W1 hc; clear hc hp hput)
    | (go_at_call 60; refine (show Calls _ _ _ _ _ from hby).mono ?_; rintro e W2 ⟨⟨A', n', c', rfl, hn, hcc, hCC⟩, hb2⟩; have HO := Aside0.mk (And.intro hn (And.intro hcc hCC)); have HB2 := Aside0.mk hb2; clear hn hcc hCC hb2 hby))
  exact bodyPost_ret (v := .slice A' n' c') (by simp [results, Tryz.results58, go_sem]) rfl ⟨⟨A', n', c', rfl, HO.out.1, HO.out.2.1, HO.out.2.2⟩, HC1.out.1.trans (HB2.out.mono HC1.out.1.size)⟩

def zsSta : List Value := [.int .i64 0, .int .i64 0, .slice none 0 0, .slice none 0 0, .slice none 0 0, .int .i64 0, .slice none 0 0, .int .i64 0, .int .i64 0, .int .i64 0, .int .i64 0, .int .i64 0, .int .i64 0, .int .i64 0, .int .i64 0, .int .i64 0, .int .i64 0, .int .i64 0, .int .i64 0, .int .i64 0, .int .i64 0, .int .i64 0, .int .i64 0, .int .i64 0, .int .i64 0, .int .i64 0, .int .i64 0, .int .i64 0, .int .i64 0, .int .i64 0, .int .i64 0]
def zxSta : Sta := ⟨0, 0, [], [], [], 0, [], List.replicate 24 0⟩
theorem zMSta (W : World) (base : Nat) : kSta.M W base (fun _ => True) zxSta zsSta := kSta_mkM W base (fun _ => True) ⟨0, 0, [], [], [], 0, [], List.replicate 24 0⟩ rfl (Kd.R_nil _ _ _ _ _) (Kd.R_nil _ _ _ _ _) (Kd.R_nil _ _ _ _ _) (Kd.R_nil _ _ _ _ _)
set_option maxRecDepth 100000 in
set_option maxHeartbeats 8000000 in
theorem readSta_calls (A : Option Addr) (c : Nat) (l : List Int) (w : World) (hC : Kd.C (Kd.int .u8) w A l.length l) (hc : l.length ≤ c) (hl : l.length ≤ 3000) (hu8 : ∀ x ∈ l, 0 ≤ x ∧ x ≤ 255) :
    Calls Tryz.prog 18 #[.agg #[.func (.func 16) #[] #[], .func (.func 17) #[] #[]], .slice A l.length c] w (ReadAns kSta gSta bSta zsSta l w) := by
  have hub := Tryz.underlying44
  have huf := Tryz.underlying76
  have hi0 : (Tryz.prog.info? 44).map (·.size) = some zsSta.toArray.size := by kernel_rfl
  have hopen := fun W => open_calls A l.length c W
  obtain ⟨w1, e1⟩ : ∃ w1, w.alloc (.cells #[.func (.func 16) #[] #[], .func (.func 17) #[] #[]] 76) = w1 := ⟨_, rfl⟩
  obtain ⟨w2, e2⟩ : ∃ w2, w1.alloc (.cells #[.int .i64 0, .int .i64 0, .slice none 0 0, .slice none 0 0, .slice none 0 0, .int .i64 0, .slice none 0 0, .int .i64 0, .int .i64 0, .int .i64 0, .int .i64 0, .int .i64 0, .int .i64 0, .int .i64 0, .int .i64 0, .int .i64 0, .int .i64 0, .int .i64 0, .int .i64 0, .int .i64 0, .int .i64 0, .int .i64 0, .int .i64 0, .int .i64 0, .int .i64 0, .int .i64 0, .int .i64 0, .int .i64 0, .int .i64 0, .int .i64 0, .int .i64 0] 44) = w2 := ⟨_, rfl⟩
  obtain ⟨w3, e3⟩ : ∃ w3, w2.alloc (.cells #[.slice A l.length c, .int .i64 0] 145) = w3 := ⟨_, rfl⟩
  have z1 : w1.heap.size = w.heap.size + 1 := by rw [← e1]; exact World.size_alloc _ _
  have z2 : w2.heap.size = w.heap.size + 1 + 1 := by rw [← e2, World.size_alloc, z1]
  have b1 : Below w.heap.size w w1 := by rw [← e1]; exact (Below.refl _ _).alloc (Nat.le_refl _) _
  have b2 : Below w1.heap.size w1 w2 := by rw [← e2]; exact (Below.refl _ _).alloc (Nat.le_refl _) _
  have b3 : Below w2.heap.size w2 w3 := by rw [← e3]; exact (Below.refl _ _).alloc (Nat.le_refl _) _
  have k0 : w3.heap[w.heap.size]? = some (.cells #[.func (.func 16) #[] #[], .func (.func 17) #[] #[]] 76 (0, 0)) := blk_below (blk_below (by rw [← e1]; exact blk_new _ _) b2) b3
  have k1 : w3.heap[w.heap.size + 1]? = some (.cells #[.int .i64 0, .int .i64 0, .slice none 0 0, .slice none 0 0, .slice none 0 0, .int .i64 0, .slice none 0 0, .int .i64 0, .int .i64 0, .int .i64 0, .int .i64 0, .int .i64 0, .int .i64 0, .int .i64 0, .int .i64 0, .int .i64 0, .int .i64 0, .int .i64 0, .int .i64 0, .int .i64 0, .int .i64 0, .int .i64 0, .int .i64 0, .int .i64 0, .int .i64 0, .int .i64 0, .int .i64 0, .int .i64 0, .int .i64 0, .int .i64 0, .int .i64 0] 44 (0, 0)) := blk_below (by rw [← z1, ← e2]; exact blk_new _ _) b3
  have k2 : w3.heap[w.heap.size + 1 + 1]? = some (.cells #[.slice A l.length c, .int .i64 0] 145 (0, 0)) := by rw [← z2, ← e3]; exact blk_new _ _
  have hb := b1.trans ((b2.trans (b3.mono b2.size)).mono b1.size)
  have hrs : RS w (w.heap.size + 1 + 1) 0 w3 := ⟨hb, by omega, A, c, l, k2, hc, by omega, hu8, hC⟩
  have htk := takeSta_calls w (w.heap.size + 1 + 1) 0 w3 hrs
  have c1 := blk_cell k0 1
  have e4 : ((w.alloc (.cells #[.func (.func 16) #[] #[], .func (.func 17) #[] #[]] 76)).alloc (.cells #[.int .i64 0, .int .i64 0, .slice none 0 0, .slice none 0 0, .slice none 0 0, .int .i64 0, .slice none 0 0, .int .i64 0, .int .i64 0, .int .i64 0, .int .i64 0, .int .i64 0, .int .i64 0, .int .i64 0, .int .i64 0, .int .i64 0, .int .i64 0, .int .i64 0, .int .i64 0, .int .i64 0, .int .i64 0, .int .i64 0, .int .i64 0, .int .i64 0, .int .i64 0, .int .i64 0, .int .i64 0, .int .i64 0, .int .i64 0, .int .i64 0, .int .i64 0] 44)).alloc (.cells #[.slice A l.length c, .int .i64 0] 145) = w3 := by rw [e1, e2, e3]
  have hsz : w2.heap.size = w.heap.size + 1 + 1 := z2
  have e5 : (w.alloc (.cells #[.func (.func 16) #[] #[], .func (.func 17) #[] #[]] 76)).alloc (.cells #[.int .i64 0, .int .i64 0, .slice none 0 0, .slice none 0 0, .slice none 0 0, .int .i64 0, .slice none 0 0, .int .i64 0, .int .i64 0, .int .i64 0, .int .i64 0, .int .i64 0, .int .i64 0, .int .i64 0, .int .i64 0, .int .i64 0, .int .i64 0, .int .i64 0, .int .i64 0, .int .i64 0, .int .i64 0, .int .i64 0, .int .i64 0, .int .i64 0, .int .i64 0, .int .i64 0, .int .i64 0, .int .i64 0, .int .i64 0, .int .i64 0, .int .i64 0] 44) = w2 := by rw [e1, e2]
  have HC := Aside0.mk hC
  have HCC := Aside0.mk hc
  have HL := Aside0.mk hl
  have K0 := Aside0.mk k0
  have K1 := Aside0.mk k1
  have HB := Aside0.mk hb
  have H3 := Aside0.mk (show w.heap.size + 1 + 1 < w3.heap.size from blk_lt k2)
  clear z1 z2 b1 b2 b3 k0 k1 k2 hb hrs hC hc hl hu8 e1 e2
  go_enter Tryz.func18, Tryz.ntmps18
  go_upto_region 2 with (go_at_call 39; refine (hopen _).mono ?_; rintro e w4 ⟨rfl, rfl⟩; clear hopen)
  have HZ1 := Aside0.mk (show (#[.int .i64 0, .int .i64 0, .slice none 0 0, .slice none 0 0, .slice none 0 0, .int .i64 0, .slice none 0 0, .int .i64 0, .int .i64 0, .int .i64 0, .int .i64 0, .int .i64 0, .int .i64 0, .int .i64 0, .int .i64 0, .int .i64 0, .int .i64 0, .int .i64 0, .int .i64 0, .int .i64 0, .int .i64 0, .int .i64 0, .int .i64 0, .int .i64 0, .int .i64 0, .int .i64 0, .int .i64 0, .int .i64 0, .int .i64 0, .int .i64 0, .int .i64 0] : Array Value).all (·.oneCell') = true by simp [Value.oneCell'])
  have HI0 := Aside0.mk hi0
  clear hi0
  go_upto_region 3 with (first
    | (refine wpList_store_row rfl 44 (.tmp 7) (.tmp 15) rfl W2.heap.size CA rfl rfl 44 #[.int .i64 0, .int .i64 0, .slice none 0 0, .slice none 0 0, .slice none 0 0, .int .i64 0, .slice none 0 0, .int .i64 0, .int .i64 0, .int .i64 0, .int .i64 0, .int .i64 0, .int .i64 0, .int .i64 0, .int .i64 0, .int .i64 0, .int .i64 0, .int .i64 0, .int .i64 0, .int .i64 0, .int .i64 0, .int .i64 0, .int .i64 0, .int .i64 0, .int .i64 0, .int .i64 0, .int .i64 0, .int .i64 0, .int .i64 0, .int .i64 0, .int .i64 0] (blk_new W2 _) HI.out HOLD.out H1.out ?_)
    | (go_at_call 17; refine (show Calls _ _ _ _ _ from htk).mono ?_; rintro e W2 ⟨⟨x, cs, rfl, hM, hG⟩, ⟨f2, hr⟩, hg⟩; obtain ⟨CA, hCA⟩ : ∃ CA, cs.toArray = CA := ⟨_, rfl⟩; have hsz1 : CA.size = kSta.sz := (by rw [← hCA, List.size_toArray]; exact kSta.K_len (kSta.K_of_M hM)); have HI := Aside0.mk (show (Tryz.prog.info? 44).map (·.size) = some CA.size from (by rw [hsz1]; exact HI0.out)); have HOLD := Aside0.mk (show (#[.int .i64 0, .int .i64 0, .slice none 0 0, .slice none 0 0, .slice none 0 0, .int .i64 0, .slice none 0 0, .int .i64 0, .int .i64 0, .int .i64 0, .int .i64 0, .int .i64 0, .int .i64 0, .int .i64 0, .int .i64 0, .int .i64 0, .int .i64 0, .int .i64 0, .int .i64 0, .int .i64 0, .int .i64 0, .int .i64 0, .int .i64 0, .int .i64 0, .int .i64 0, .int .i64 0, .int .i64 0, .int .i64 0, .int .i64 0, .int .i64 0, .int .i64 0] : Array Value).size = CA.size from (by rw [hsz1]; rfl)); have H1 := Aside0.mk (show CA.all (·.oneCell') = true from (by refine Array.all_eq_true_iff_forall_mem.2 fun v hv => ?_; rw [← hCA, List.mem_toArray] at hv; exact kSta.K_one (kSta.K_of_M hM) v hv)); have HM := Aside0.mk hM; have HG := Aside0.mk hG; have HR := Aside0.mk hr; have HGR := Aside0.mk hg; have HCA := Aside0.mk hCA; clear hM hG hr hg htk hsz1; simp only [encA, hCA]; clear hCA))
  clear e3 e4 e5 hsz c1
  have hbA := (Below.refl _ W2).alloc (Nat.le_refl _) (.cells #[.int .i64 0, .int .i64 0, .slice none 0 0, .slice none 0 0, .slice none 0 0, .int .i64 0, .slice none 0 0, .int .i64 0, .int .i64 0, .int .i64 0, .int .i64 0, .int .i64 0, .int .i64 0, .int .i64 0, .int .i64 0, .int .i64 0, .int .i64 0, .int .i64 0, .int .i64 0, .int .i64 0, .int .i64 0, .int .i64 0, .int .i64 0, .int .i64 0, .int .i64 0, .int .i64 0, .int .i64 0, .int .i64 0, .int .i64 0, .int .i64 0, .int .i64 0] 44)
  have hw3 := HGR.out.size
  have HM3 := Aside0.mk (M_setRow (b := W2.heap.size) (new := CA) (Kd.M_below HM.out hbA) (blk_new W2 (.cells #[.int .i64 0, .int .i64 0, .slice none 0 0, .slice none 0 0, .slice none 0 0, .int .i64 0, .slice none 0 0, .int .i64 0, .int .i64 0, .int .i64 0, .int .i64 0, .int .i64 0, .int .i64 0, .int .i64 0, .int .i64 0, .int .i64 0, .int .i64 0, .int .i64 0, .int .i64 0, .int .i64 0, .int .i64 0, .int .i64 0, .int .i64 0, .int .i64 0, .int .i64 0, .int .i64 0, .int .i64 0, .int .i64 0, .int .i64 0, .int .i64 0, .int .i64 0] 44)) (by decide))
  have HG3 := Aside0.mk (grown_own (World.grownBy.trans HGR.out (grown_of_below hbA _)) (setRow_grown (W2.alloc (.cells #[.int .i64 0, .int .i64 0, .slice none 0 0, .slice none 0 0, .slice none 0 0, .int .i64 0, .slice none 0 0, .int .i64 0, .int .i64 0, .int .i64 0, .int .i64 0, .int .i64 0, .int .i64 0, .int .i64 0, .int .i64 0, .int .i64 0, .int .i64 0, .int .i64 0, .int .i64 0, .int .i64 0, .int .i64 0, .int .i64 0, .int .i64 0, .int .i64 0, .int .i64 0, .int .i64 0, .int .i64 0, .int .i64 0, .int .i64 0, .int .i64 0, .int .i64 0] 44)) W2.heap.size CA) (fun k e => by injection e with e; omega))
  have HR3 := Aside0.mk ((HR.out.kept hbA).grown (setRow_grown (W2.alloc (.cells #[.int .i64 0, .int .i64 0, .slice none 0 0, .slice none 0 0, .slice none 0 0, .int .i64 0, .slice none 0 0, .int .i64 0, .int .i64 0, .int .i64 0, .int .i64 0, .int .i64 0, .int .i64 0, .int .i64 0, .int .i64 0, .int .i64 0, .int .i64 0, .int .i64 0, .int .i64 0, .int .i64 0, .int .i64 0, .int .i64 0, .int .i64 0, .int .i64 0, .int .i64 0, .int .i64 0, .int .i64 0, .int .i64 0, .int .i64 0, .int .i64 0, .int .i64 0] 44)) W2.heap.size CA) (fun e => by injection e with e; have := H3.out; omega) (fun k e => by injection e with e; have := HB.out.size; omega))
  have HX3 := Aside0.mk (setRow_heap (W2.alloc (.cells #[.int .i64 0, .int .i64 0, .slice none 0 0, .slice none 0 0, .slice none 0 0, .int .i64 0, .slice none 0 0, .int .i64 0, .int .i64 0, .int .i64 0, .int .i64 0, .int .i64 0, .int .i64 0, .int .i64 0, .int .i64 0, .int .i64 0, .int .i64 0, .int .i64 0, .int .i64 0, .int .i64 0, .int .i64 0, .int .i64 0, .int .i64 0, .int .i64 0, .int .i64 0, .int .i64 0, .int .i64 0, .int .i64 0, .int .i64 0, .int .i64 0, .int .i64 0] 44)) W2.heap.size #[.int .i64 0, .int .i64 0, .slice none 0 0, .slice none 0 0, .slice none 0 0, .int .i64 0, .slice none 0 0, .int .i64 0, .int .i64 0, .int .i64 0, .int .i64 0, .int .i64 0, .int .i64 0, .int .i64 0, .int .i64 0, .int .i64 0, .int .i64 0, .int .i64 0, .int .i64 0, .int .i64 0, .int .i64 0, .int .i64 0, .int .i64 0, .int .i64 0, .int .i64 0, .int .i64 0, .int .i64 0, .int .i64 0, .int .i64 0, .int .i64 0, .int .i64 0] CA 44 (0, 0) (blk_new W2 _))
  clear hbA HM HR
  generalize (W2.alloc (.cells #[.int .i64 0, .int .i64 0, .slice none 0 0, .slice none 0 0, .slice none 0 0, .int .i64 0, .slice none 0 0, .int .i64 0, .int .i64 0, .int .i64 0, .int .i64 0, .int .i64 0, .int .i64 0, .int .i64 0, .int .i64 0, .int .i64 0, .int .i64 0, .int .i64 0, .int .i64 0, .int .i64 0, .int .i64 0, .int .i64 0, .int .i64 0, .int .i64 0, .int .i64 0, .int .i64 0, .int .i64 0, .int .i64 0, .int .i64 0, .int .i64 0, .int .i64 0] 44)).setRow W2.heap.size CA = W3 at HM3 HG3 HR3 HX3 ⊢
  have HK0 := Aside0.mk (blk_grown K0.out HG3.out (fun e => by injection e with e; omega))
  have HK1 := Aside0.mk (blk_grown K1.out HG3.out (fun e => by injection e with e; omega))
  have HB3 := Aside0.mk (HB.out.grown HG3.out HB.out.size (fun k e => by injection e with e; omega))
  have HP := Aside0.mk (show W2.heap.size ≠ w.heap.size + 1 by have := H3.out; omega)
  obtain ⟨p7, hp7⟩ : ∃ p7, W2.heap.size = p7 := ⟨_, rfl⟩
  rw [hp7] at HX3 HP ⊢
  clear hp7 hw3 HGR K0 K1 HB
  go_upto_region 4 with (go_at_call 40; refine (end_calls w (w.heap.size + 1 + 1) f2 W3 HR3.out).mono ?_; rintro e W4 ⟨⟨k, rfl⟩, rfl⟩)
  by_cases hk : k = 0
  · subst hk
    have hby := bytesSta_calls x cs W4 (kSta.K_of_M HM3.out) HG.out
    simp only [encA, HCA.out] at hby
    have HLB := Aside0.mk (show (bSta x).length ≤ 1000000000000 from Nat.le_trans (bSta_len x HG.out (by obtain ⟨_, _, _, _, _, _, _, _, _, h24, _⟩ := kSta_open (kSta.K_of_M HM3.out); exact h24)) (by decide))
    have c0 := blk_cell HK0.out 0
    have c1 := blk_cell HK0.out 1
    by_cases hbl : bSta x = l
    · have heq := fun A' c' W5 hC5 hcc hC6 => slices_Equal_byte_byte.calls ((bSta x).length + 1) A' c' (bSta x) A c l true W5 hC5 hcc hC6 HCC.out (by rw [equal_eq _ _ HLB.out, decide_eq_true hbl])
      have HBL := Aside0.mk hbl
      have HEQ := Aside0.mk heq
      clear hbl heq
      go_wp2_with (first
        | (refine gate_guard (by rfl) ?_; refine wpList_load_row rfl 44 (.tmp 7) rfl p7 rfl 44 CA (0, 0) _ HX3.out hub rfl HI.out ?_)
        | (go_at_call 58; refine (show Calls _ _ _ _ _ from hby).mono ?_; rintro e W5 ⟨⟨A', n', c', rfl, hn, hcc, hCC⟩, hb5⟩; subst hn; have hcall := HEQ.out A' c' W5 hCC hcc (Kd.C_below HC.out (HB3.out.trans (hb5.mono HB3.out.size))); have HX5 := Aside0.mk (blk_below HX3.out hb5); have HK15 := Aside0.mk (blk_below HK1.out hb5); have HM5 := Aside0.mk (Kd.M_below HM3.out hb5); have HB5 := Aside0.mk (HB3.out.trans (hb5.mono HB3.out.size)); clear hcc hCC hb5 hby c0 c1)
        | (go_at_call 41; refine (show Calls _ _ _ _ _ from hcall).mono ?_; rintro e W6 ⟨rfl, hd⟩; replace HX5 := Aside0.mk (blk_below HX5.out hd.below); replace HK15 := Aside0.mk (blk_below HK15.out hd.below); replace HM5 := Aside0.mk (Kd.M_below HM5.out hd.below); replace HB5 := Aside0.mk (HB5.out.trans (hd.below.mono HB5.out.size)); clear hcall hd)
        | (refine wpList_load_row rfl 44 (.tmp 7) rfl p7 rfl 44 CA (0, 0) _ HX5.out hub rfl HI.out ?_)
        | (refine wpList_store_row rfl 44 (.tmp 4) (.tmp 32) rfl (w.heap.size + 1) CA rfl rfl 44 #[.int .i64 0, .int .i64 0, .slice none 0 0, .slice none 0 0, .slice none 0 0, .int .i64 0, .slice none 0 0, .int .i64 0, .int .i64 0, .int .i64 0, .int .i64 0, .int .i64 0, .int .i64 0, .int .i64 0, .int .i64 0, .int .i64 0, .int .i64 0, .int .i64 0, .int .i64 0, .int .i64 0, .int .i64 0, .int .i64 0, .int .i64 0, .int .i64 0, .int .i64 0, .int .i64 0, .int .i64 0, .int .i64 0, .int .i64 0, .int .i64 0, .int .i64 0] HK15.out HI.out HOLD.out H1.out ?_))
      refine bodyPost_ret (v := .tuple #[.agg CA, .int .i64 0]) (by refine (results_cell_tmp (p := 4) (q := 5) (ty := 44) ?_ _ _ (w.heap.size + 1) 44 CA (0, 0) _ ?_ (setRow_heap _ _ _ _ _ _ HK15.out) hub rfl HI.out).trans ?_ <;> rfl) rfl ⟨⟨x, cs, 0, by unfold encA; rw [HCA.out], kSta.M_mono (fun _ _ => trivial) (kSta.M_lower (by have := H3.out; omega) (M_setRow HM5.out HK15.out (by decide))), fun _ => ⟨HG.out, HBL.out⟩, fun e => absurd rfl e⟩, HB5.out.grown (setRow_grown _ _ _) HB5.out.size (fun k e => by injection e with e; omega)⟩
    · have heq := fun A' c' W5 hC5 hcc hC6 => slices_Equal_byte_byte.calls ((bSta x).length + 1) A' c' (bSta x) A c l false W5 hC5 hcc hC6 HCC.out (by rw [equal_eq _ _ HLB.out, decide_eq_false hbl])
      have HEQ := Aside0.mk heq
      clear hbl heq
      go_wp2_with (first
        | (refine gate_guard (by rfl) ?_; refine wpList_load_row rfl 44 (.tmp 7) rfl p7 rfl 44 CA (0, 0) _ HX3.out hub rfl HI.out ?_)
        | (go_at_call 58; refine (show Calls _ _ _ _ _ from hby).mono ?_; rintro e W5 ⟨⟨A', n', c', rfl, hn, hcc, hCC⟩, hb5⟩; subst hn; have hcall := HEQ.out A' c' W5 hCC hcc (Kd.C_below HC.out (HB3.out.trans (hb5.mono HB3.out.size))); have HX5 := Aside0.mk (blk_below HX3.out hb5); have HK15 := Aside0.mk (blk_below HK1.out hb5); have HM5 := Aside0.mk (Kd.M_below HM3.out hb5); have HB5 := Aside0.mk (HB3.out.trans (hb5.mono HB3.out.size)); clear hcc hCC hb5 hby c0 c1)
        | (go_at_call 41; refine (show Calls _ _ _ _ _ from hcall).mono ?_; rintro e W6 ⟨rfl, hd⟩; replace HX5 := Aside0.mk (blk_below HX5.out hd.below); replace HK15 := Aside0.mk (blk_below HK15.out hd.below); replace HM5 := Aside0.mk (Kd.M_below HM5.out hd.below); replace HB5 := Aside0.mk (HB5.out.trans (hd.below.mono HB5.out.size)); clear hcall hd)
        | (refine wpList_load_row rfl 44 (.tmp 9) rfl W6.heap.size rfl 44 #[.int .i64 0, .int .i64 0, .slice none 0 0, .slice none 0 0, .slice none 0 0, .int .i64 0, .slice none 0 0, .int .i64 0, .int .i64 0, .int .i64 0, .int .i64 0, .int .i64 0, .int .i64 0, .int .i64 0, .int .i64 0, .int .i64 0, .int .i64 0, .int .i64 0, .int .i64 0, .int .i64 0, .int .i64 0, .int .i64 0, .int .i64 0, .int .i64 0, .int .i64 0, .int .i64 0, .int .i64 0, .int .i64 0, .int .i64 0, .int .i64 0, .int .i64 0] (0, 0) _ (blk_new W6 _) hub rfl HI0.out ?_)
        | (refine wpList_store_row rfl 44 (.tmp 4) (.tmp 30) rfl (w.heap.size + 1) #[.int .i64 0, .int .i64 0, .slice none 0 0, .slice none 0 0, .slice none 0 0, .int .i64 0, .slice none 0 0, .int .i64 0, .int .i64 0, .int .i64 0, .int .i64 0, .int .i64 0, .int .i64 0, .int .i64 0, .int .i64 0, .int .i64 0, .int .i64 0, .int .i64 0, .int .i64 0, .int .i64 0, .int .i64 0, .int .i64 0, .int .i64 0, .int .i64 0, .int .i64 0, .int .i64 0, .int .i64 0, .int .i64 0, .int .i64 0, .int .i64 0, .int .i64 0] rfl rfl 44 #[.int .i64 0, .int .i64 0, .slice none 0 0, .slice none 0 0, .slice none 0 0, .int .i64 0, .slice none 0 0, .int .i64 0, .int .i64 0, .int .i64 0, .int .i64 0, .int .i64 0, .int .i64 0, .int .i64 0, .int .i64 0, .int .i64 0, .int .i64 0, .int .i64 0, .int .i64 0, .int .i64 0, .int .i64 0, .int .i64 0, .int .i64 0, .int .i64 0, .int .i64 0, .int .i64 0, .int .i64 0, .int .i64 0, .int .i64 0, .int .i64 0, .int .i64 0] (blk_alloc HK15.out _) HI0.out rfl HZ1.out ?_))
      refine bodyPost_ret (v := .tuple #[.agg #[.int .i64 0, .int .i64 0, .slice none 0 0, .slice none 0 0, .slice none 0 0, .int .i64 0, .slice none 0 0, .int .i64 0, .int .i64 0, .int .i64 0, .int .i64 0, .int .i64 0, .int .i64 0, .int .i64 0, .int .i64 0, .int .i64 0, .int .i64 0, .int .i64 0, .int .i64 0, .int .i64 0, .int .i64 0, .int .i64 0, .int .i64 0, .int .i64 0, .int .i64 0, .int .i64 0, .int .i64 0, .int .i64 0, .int .i64 0, .int .i64 0, .int .i64 0], .int .i64 2]) (by refine (results_cell_tmp (p := 4) (q := 5) (ty := 44) ?_ _ _ (w.heap.size + 1) 44 #[.int .i64 0, .int .i64 0, .slice none 0 0, .slice none 0 0, .slice none 0 0, .int .i64 0, .slice none 0 0, .int .i64 0, .int .i64 0, .int .i64 0, .int .i64 0, .int .i64 0, .int .i64 0, .int .i64 0, .int .i64 0, .int .i64 0, .int .i64 0, .int .i64 0, .int .i64 0, .int .i64 0, .int .i64 0, .int .i64 0, .int .i64 0, .int .i64 0, .int .i64 0, .int .i64 0, .int .i64 0, .int .i64 0, .int .i64 0, .int .i64 0, .int .i64 0] (0, 0) _ ?_ (setRow_heap _ _ _ _ _ _ (blk_alloc HK15.out _)) hub rfl HI0.out).trans ?_ <;> rfl) rfl ⟨⟨zxSta, zsSta, 2, rfl, zMSta _ _, fun e => absurd e (by decide), fun _ => rfl⟩, (HB5.out.alloc HB5.out.size _).grown (setRow_grown _ _ _) (HB5.out.alloc HB5.out.size _).size (fun k e => by injection e with e; omega)⟩
  · have hk1 : (k == 0) = false := by simpa using hk
    have hk2 : (k != 0) = true := by simpa using hk
    have HKN := Aside0.mk hk
    clear hk
    have k1n := (blk_alloc HK1.out (.cells #[.int .i64 0, .int .i64 0, .slice none 0 0, .slice none 0 0, .slice none 0 0, .int .i64 0, .slice none 0 0, .int .i64 0, .int .i64 0, .int .i64 0, .int .i64 0, .int .i64 0, .int .i64 0, .int .i64 0, .int .i64 0, .int .i64 0, .int .i64 0, .int .i64 0, .int .i64 0, .int .i64 0, .int .i64 0, .int .i64 0, .int .i64 0, .int .i64 0, .int .i64 0, .int .i64 0, .int .i64 0, .int .i64 0, .int .i64 0, .int .i64 0, .int .i64 0] 44))
    go_wp2_with (first | (refine wpList_load_row rfl 44 (.tmp 9) rfl W4.heap.size rfl 44 #[.int .i64 0, .int .i64 0, .slice none 0 0, .slice none 0 0, .slice none 0 0, .int .i64 0, .slice none 0 0, .int .i64 0, .int .i64 0, .int .i64 0, .int .i64 0, .int .i64 0, .int .i64 0, .int .i64 0, .int .i64 0, .int .i64 0, .int .i64 0, .int .i64 0, .int .i64 0, .int .i64 0, .int .i64 0, .int .i64 0, .int .i64 0, .int .i64 0, .int .i64 0, .int .i64 0, .int .i64 0, .int .i64 0, .int .i64 0, .int .i64 0, .int .i64 0] (0, 0) _ (blk_new W4 _) hub rfl HI0.out ?_) | (refine wpList_store_row rfl 44 (.tmp 4) (.tmp 30) rfl (w.heap.size + 1) #[.int .i64 0, .int .i64 0, .slice none 0 0, .slice none 0 0, .slice none 0 0, .int .i64 0, .slice none 0 0, .int .i64 0, .int .i64 0, .int .i64 0, .int .i64 0, .int .i64 0, .int .i64 0, .int .i64 0, .int .i64 0, .int .i64 0, .int .i64 0, .int .i64 0, .int .i64 0, .int .i64 0, .int .i64 0, .int .i64 0, .int .i64 0, .int .i64 0, .int .i64 0, .int .i64 0, .int .i64 0, .int .i64 0, .int .i64 0, .int .i64 0, .int .i64 0] rfl rfl 44 #[.int .i64 0, .int .i64 0, .slice none 0 0, .slice none 0 0, .slice none 0 0, .int .i64 0, .slice none 0 0, .int .i64 0, .int .i64 0, .int .i64 0, .int .i64 0, .int .i64 0, .int .i64 0, .int .i64 0, .int .i64 0, .int .i64 0, .int .i64 0, .int .i64 0, .int .i64 0, .int .i64 0, .int .i64 0, .int .i64 0, .int .i64 0, .int .i64 0, .int .i64 0, .int .i64 0, .int .i64 0, .int .i64 0, .int .i64 0, .int .i64 0, .int .i64 0] k1n HI0.out rfl HZ1.out ?_))
    refine bodyPost_ret (v := .tuple #[.agg #[.int .i64 0, .int .i64 0, .slice none 0 0, .slice none 0 0, .slice none 0 0, .int .i64 0, .slice none 0 0, .int .i64 0, .int .i64 0, .int .i64 0, .int .i64 0, .int .i64 0, .int .i64 0, .int .i64 0, .int .i64 0, .int .i64 0, .int .i64 0, .int .i64 0, .int .i64 0, .int .i64 0, .int .i64 0, .int .i64 0, .int .i64 0, .int .i64 0, .int .i64 0, .int .i64 0, .int .i64 0, .int .i64 0, .int .i64 0, .int .i64 0, .int .i64 0], .int .i64 k]) (by refine (results_cell_tmp (p := 4) (q := 5) (ty := 44) ?_ _ _ (w.heap.size + 1) 44 #[.int .i64 0, .int .i64 0, .slice none 0 0, .slice none 0 0, .slice none 0 0, .int .i64 0, .slice none 0 0, .int .i64 0, .int .i64 0, .int .i64 0, .int .i64 0, .int .i64 0, .int .i64 0, .int .i64 0, .int .i64 0, .int .i64 0, .int .i64 0, .int .i64 0, .int .i64 0, .int .i64 0, .int .i64 0, .int .i64 0, .int .i64 0, .int .i64 0, .int .i64 0, .int .i64 0, .int .i64 0, .int .i64 0, .int .i64 0, .int .i64 0, .int .i64 0] (0, 0) _ ?_ (setRow_heap _ _ _ _ _ _ k1n) hub rfl HI0.out).trans ?_ <;> rfl) rfl ⟨⟨zxSta, zsSta, k, rfl, zMSta _ _, fun e => absurd e HKN.out, fun _ => rfl⟩, (HB3.out.alloc HB3.out.size _).grown (setRow_grown _ _ _) (HB3.out.alloc HB3.out.size _).size (fun k e => by injection e with e; omega)⟩

set_option maxRecDepth 100000 in
set_option maxHeartbeats 8000000 in
theorem ReadSta_calls (A : Option Addr) (c : Nat) (l : List Int) (w : World) (hC : Kd.C (Kd.int .u8) w A l.length l) (hc : l.length ≤ c) (hl : l.length ≤ 3000) (hu8 : ∀ x ∈ l, 0 ≤ x ∧ x ≤ 255) :
    Calls Tryz.prog 6 #[.slice A l.length c] w (ReadAns kSta gSta bSta zsSta l w) := by
  have hub := Tryz.underlying44
  have huf := Tryz.underlying76
  have hi0 : (Tryz.prog.info? 44).map (·.size) = some zsSta.toArray.size := by kernel_rfl
  have hb0 := (Below.refl _ w).alloc (Nat.le_refl _) (.cells #[.int .i64 0, .int .i64 0, .slice none 0 0, .slice none 0 0, .slice none 0 0, .int .i64 0, .slice none 0 0, .int .i64 0, .int .i64 0, .int .i64 0, .int .i64 0, .int .i64 0, .int .i64 0, .int .i64 0, .int .i64 0, .int .i64 0, .int .i64 0, .int .i64 0, .int .i64 0, .int .i64 0, .int .i64 0, .int .i64 0, .int .i64 0, .int .i64 0, .int .i64 0, .int .i64 0, .int .i64 0, .int .i64 0, .int .i64 0, .int .i64 0, .int .i64 0] 44)
  have hrd := readSta_calls A c l (w.alloc (.cells #[.int .i64 0, .int .i64 0, .slice none 0 0, .slice none 0 0, .slice none 0 0, .int .i64 0, .slice none 0 0, .int .i64 0, .int .i64 0, .int .i64 0, .int .i64 0, .int .i64 0, .int .i64 0, .int .i64 0, .int .i64 0, .int .i64 0, .int .i64 0, .int .i64 0, .int .i64 0, .int .i64 0, .int .i64 0, .int .i64 0, .int .i64 0, .int .i64 0, .int .i64 0, .int .i64 0, .int .i64 0, .int .i64 0, .int .i64 0, .int .i64 0, .int .i64 0] 44)) (Kd.C_below hC hb0) hc hl hu8
  have HI0 := Aside0.mk hi0
  have HB0 := Aside0.mk hb0
  clear hi0 hb0 hC hc hl hu8
  go_enter Tryz.func6, Tryz.ntmps6
  go_wp2_with (first
    | (refine wpList_store_row rfl 44 (.tmp 2) (.tmp 7) rfl w.heap.size CA rfl rfl 44 #[.int .i64 0, .int .i64 0, .slice none 0 0, .slice none 0 0, .slice none 0 0, .int .i64 0, .slice none 0 0, .int .i64 0, .int .i64 0, .int .i64 0, .int .i64 0, .int .i64 0, .int .i64 0, .int .i64 0, .int .i64 0, .int .i64 0, .int .i64 0, .int .i64 0, .int .i64 0, .int .i64 0, .int .i64 0, .int .i64 0, .int .i64 0, .int .i64 0, .int .i64 0, .int .i64 0, .int .i64 0, .int .i64 0, .int .i64 0, .int .i64 0, .int .i64 0] HK.out HI.out HOLD.out H1.out ?_)
    | (go_at_call 18; refine (show Calls _ _ _ _ _ from hrd).mono ?_; rintro e W2 ⟨⟨x, cs, k, rfl, hM, h1, h2⟩, hb⟩; obtain ⟨CA, hCA⟩ : ∃ CA, cs.toArray = CA := ⟨_, rfl⟩; have hsz1 : CA.size = kSta.sz := (by rw [← hCA, List.size_toArray]; exact kSta.K_len (kSta.K_of_M hM)); have HI := Aside0.mk (show (Tryz.prog.info? 44).map (·.size) = some CA.size from (by rw [hsz1]; exact HI0.out)); have HOLD := Aside0.mk (show (#[.int .i64 0, .int .i64 0, .slice none 0 0, .slice none 0 0, .slice none 0 0, .int .i64 0, .slice none 0 0, .int .i64 0, .int .i64 0, .int .i64 0, .int .i64 0, .int .i64 0, .int .i64 0, .int .i64 0, .int .i64 0, .int .i64 0, .int .i64 0, .int .i64 0, .int .i64 0, .int .i64 0, .int .i64 0, .int .i64 0, .int .i64 0, .int .i64 0, .int .i64 0, .int .i64 0, .int .i64 0, .int .i64 0, .int .i64 0, .int .i64 0, .int .i64 0] : Array Value).size = CA.size from (by rw [hsz1]; rfl)); have H1 := Aside0.mk (show CA.all (·.oneCell') = true from (by refine Array.all_eq_true_iff_forall_mem.2 fun v hv => ?_; rw [← hCA, List.mem_toArray] at hv; exact kSta.K_one (kSta.K_of_M hM) v hv)); have HM := Aside0.mk hM; have HF := Aside0.mk (And.intro h1 h2); have HB := Aside0.mk hb; have HK := Aside0.mk (blk_below (blk_new w (.cells #[.int .i64 0, .int .i64 0, .slice none 0 0, .slice none 0 0, .slice none 0 0, .int .i64 0, .slice none 0 0, .int .i64 0, .int .i64 0, .int .i64 0, .int .i64 0, .int .i64 0, .int .i64 0, .int .i64 0, .int .i64 0, .int .i64 0, .int .i64 0, .int .i64 0, .int .i64 0, .int .i64 0, .int .i64 0, .int .i64 0, .int .i64 0, .int .i64 0, .int .i64 0, .int .i64 0, .int .i64 0, .int .i64 0, .int .i64 0, .int .i64 0, .int .i64 0] 44)) hb); have HCA := Aside0.mk hCA; clear hM h1 h2 hb hrd hsz1; simp only [encA, hCA]; clear hCA))
  have HB2 := Aside0.mk (HB0.out.trans (HB.out.mono HB0.out.size))
  refine bodyPost_ret (v := .tuple #[.agg CA, .int .i64 k]) (by refine (results_cell_tmp (p := 2) (q := 3) (ty := 44) ?_ _ _ w.heap.size 44 CA (0, 0) _ ?_ (setRow_heap _ _ _ _ _ _ HK.out) hub rfl HI.out).trans ?_ <;> rfl) rfl ⟨⟨x, cs, k, by unfold encA; rw [HCA.out], kSta.M_lower HB0.out.size (M_setRow HM.out HK.out (by decide)), HF.out.1, HF.out.2⟩, HB2.out.grown (setRow_grown _ _ _) HB2.out.size (fun k e => by injection e with e; omega)⟩
end Go.Proofs.YtpdppfihpnfblaaGreat.H
