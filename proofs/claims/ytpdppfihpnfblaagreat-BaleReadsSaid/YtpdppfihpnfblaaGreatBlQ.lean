/- bale's putters: which bytes they append. Laid by wip/putters_bl.py. -/
import Derived.Test.YtpdppfihpnfblaaGreatBlP
namespace Go.Proofs.YtpdppfihpnfblaaGreat.H
open Go.RowKit Go.Shelf Go.Proofs.YtpdppfihpnfblaaGreat.PA Go.Proofs.YtpdppfihpnfblaaGreatW.PrintWords Go.Proofs.YtpdppfihpnfblaaGreatW.PrintLast Go.Proofs.YtpdppfihpnfblaaGreatW.PrintMore
set_option linter.unusedVariables false
set_option linter.unusedSimpArgs false
def bSrc (x : Src) : List Int := textB x.name ++ upB x.time ++ upB x.at_
def bSen (x : Sen) : List Int := textB x.name ++ upB x.floor ++ listB upB x.seqs
def bLab (x : Lab) : List Int := textB x.name ++ textB x.value
def bVatS (x : VatS) : List Int := upB x.kind ++ upB x.many ++ intB x.high ++ intB x.low ++ intB x.last ++ upB x.time ++ upB x.seq ++ textB x.source ++ listB intB x.samples ++ listB textB x.members
def bCel (x : Cel) : List Int := textB x.metric ++ listB bLab x.labels ++ upB x.policy ++ upB x.start ++ upB x.rev ++ markB x.dirty ++ bVatS x.vat
def bBat (x : Bat) : List Int := upB x.number ++ upB x.now ++ textB x.text
def bEmi (x : Emi) : List Int := textB x.key ++ textB x.policy ++ upB x.kind ++ upB x.start ++ upB x.rev ++ markB x.final ++ upB x.rkind ++ upB x.count ++ intB (x.sum.tdiv 1000000000000) ++ intB (x.sum.tmod 1000000000000) ++ intB x.min ++ intB x.max ++ intB x.q0 ++ intB x.q1 ++ intB x.q2 ++ markB x.over
theorem textB_len {s : ByteArray} (h : gTxt s) : (textB s).length ≤ 10011 := by
  unfold gTxt at h
  have := numB_len (n := s.size) (by omega)
  unfold textB
  rw [List.length_append, bytesOf_length]
  omega
theorem upB_len' {n : Int} (h : gUp n) : (upB n).length ≤ 11 := upB_len (by unfold gUp at h; omega)
theorem markB_len (b : Bool) : (markB b).length = 1 := by cases b <;> rfl
theorem listB_len {α : Type} {G : α → Prop} {B : α → List Int} {M : Nat} (hM : ∀ x, G x → (B x).length ≤ M) {l : List α} (h : gList G l) : (listB B l).length ≤ 11 + M * 1000 := by
  have h1 := flat_len B M l (fun x hx => hM x (h.2 x hx))
  have h2 := upB_len (n := (l.length : Int)) (by have := h.1; omega)
  have h3 := Nat.mul_le_mul_left M h.1
  unfold listB
  rw [List.length_append]
  omega
theorem bSrc_len (x : Src) (h : gSrc x) : (bSrc x).length ≤ 10033 := by
  obtain ⟨h1, h2, h3⟩ := h
  have := textB_len h1; have := upB_len' h2; have := upB_len' h3
  simp only [bSrc, List.length_append]; omega
theorem bSen_len (x : Sen) (h : gSen x) : (bSen x).length ≤ 21033 := by
  obtain ⟨h1, h2, h3⟩ := h
  have := textB_len h1; have := upB_len' h2; have := listB_len (B := upB) (M := 11) (fun x hx => upB_len' hx) h3
  simp only [bSen, List.length_append]; omega
theorem bLab_len (x : Lab) (h : gLab x) : (bLab x).length ≤ 20022 := by
  obtain ⟨h1, h2⟩ := h
  have := textB_len h1; have := textB_len h2
  simp only [bLab, List.length_append]; omega
theorem bVatS_len (x : VatS) (h : gVatS x) : (bVatS x).length ≤ 10032110 := by
  obtain ⟨h1, h2, h3, h4, h5, h6, h7, h8, h9, h10⟩ := h
  have := upB_len' h1; have := upB_len' h2; have := intB_len x.high; have := intB_len x.low; have := intB_len x.last; have := upB_len' h6; have := upB_len' h7; have := textB_len h8
  have := listB_len (B := intB) (M := 11) (fun x _ => intB_len x) h9
  have := listB_len (B := textB) (M := 10011) (fun x hx => textB_len hx) h10
  simp only [bVatS, List.length_append]; omega
theorem bCel_len (x : Cel) (h : gCel x) : (bCel x).length ≤ 30064166 := by
  obtain ⟨h1, h2, h3, h4, h5, h6⟩ := h
  have := textB_len h1; have := listB_len (B := bLab) (M := 20022) bLab_len h2; have := upB_len' h3; have := upB_len' h4; have := upB_len' h5; have := markB_len x.dirty; have := bVatS_len _ h6
  simp only [bCel, List.length_append]; omega
theorem bEmi_len (x : Emi) (h : gEmi x) : (bEmi x).length ≤ 20200 := by
  obtain ⟨h1, h2, h3, h4, h5, h6, h7, _⟩ := h
  have := textB_len h1; have := textB_len h2; have := upB_len' h3; have := upB_len' h4; have := upB_len' h5; have := upB_len' h6; have := upB_len' h7; have := markB_len x.final; have := markB_len x.over
  have := intB_len (x.sum.tdiv 1000000000000); have := intB_len (x.sum.tmod 1000000000000); have := intB_len x.min; have := intB_len x.max; have := intB_len x.q0; have := intB_len x.q1; have := intB_len x.q2
  simp only [bEmi, List.length_append]; omega
theorem nums_at (l : List Int) : ∀ j x, l[j]? = some x → (l.map (Value.int .i64)).toArray[0 + j]? = some (.int .i64 x) := by
  intro j x h
  rw [Nat.zero_add, List.getElem?_toArray, List.getElem?_map, h]
  rfl
/-- Where a struct in block b is being put. -/
structure PS (w0 w : World) (g b T : Nat) (cs : Array Value) (bs : List Int) (W : World) : Prop where
  c : CS w0 g bs W
  p : PF g w W
  k : W.heap[b]? = some (.cells cs T (0, 0))
  n : b ≠ g
  t : T ≠ 5
theorem PS.start {w0 w : World} {g T : Nat} {cs : Array Value} {bs : List Int} (h : CS w0 g bs w) (hT : T ≠ 5) : PS w0 w g w.heap.size T cs bs (w.alloc (.cells cs T)) := by
  have hb := (Below.refl _ w).alloc (Nat.le_refl _) (.cells cs T)
  have hl := h.lt
  exact ⟨h.kept hb, PF.of_below hl hb, blk_new _ _, by omega, hT⟩
theorem PS.call {w0 w W W' : World} {g b T : Nat} {cs : Array Value} {bs bs' : List Int} (h : PS w0 w g b T cs bs W) (hc : CS w0 g bs' W') (hp : PF g W W') : PS w0 w g b T cs bs' W' := ⟨hc, h.p.trans hp, hp.blk h.c h.k h.n h.t, h.n, h.t⟩
/-- A call upon whole numbers that were laid ahead of it. -/
theorem PS.laid {w0 w W : World} {g b T : Nat} {cs : Array Value} {bs : List Int} (h : PS w0 w g b T cs bs W) (o : Obj) : PS w0 w g b T cs bs (W.alloc o) := h.call (h.c.kept ((Below.refl _ W).alloc (Nat.le_refl _) o)) (PF.of_below h.c.lt ((Below.refl _ W).alloc (Nat.le_refl _) o))
theorem PS.ups {w0 w W : World} {g b T : Nat} {cs : Array Value} {bs : List Int} (h : PS w0 w g b T cs bs W) (l : List Int) (hi : ∀ x ∈ l, -9223372036854775808 ≤ x ∧ x ≤ 9223372036854775807) (hl : bs.length + 11 * l.length ≤ 100000000000000) (c : Nat) :
    Calls Tryz.prog 31 #[.pointer (some ⟨g, 0, none⟩), .slice (some ⟨W.heap.size, 0, none⟩) l.length c] (W.alloc (.cells (l.map (Value.int .i64)).toArray 3)) fun e w' => e = .returned (.tuple #[]) ∧ PS w0 w g b T cs (bs ++ l.flatMap upB) w' := by
  have h1 := h.laid (.cells (l.map (Value.int .i64)).toArray 3)
  refine (ups_calls w0 g bs l hi hl W.heap.size 0 c 3 _ _ h1.c (blk_new _ _) (by decide) (by have := h.c.lt; omega) (nums_at l)).mono ?_
  rintro e w' ⟨rfl, hc, hp⟩
  exact ⟨rfl, h1.call hc hp⟩
theorem PS.ints {w0 w W : World} {g b T : Nat} {cs : Array Value} {bs : List Int} (h : PS w0 w g b T cs bs W) (l : List Int) (hi : ∀ x ∈ l, -9223372036854775808 ≤ x ∧ x ≤ 9223372036854775807) (hl : bs.length + 11 * l.length ≤ 100000000000000) (c : Nat) :
    Calls Tryz.prog 33 #[.pointer (some ⟨g, 0, none⟩), .slice (some ⟨W.heap.size, 0, none⟩) l.length c] (W.alloc (.cells (l.map (Value.int .i64)).toArray 3)) fun e w' => e = .returned (.tuple #[]) ∧ PS w0 w g b T cs (bs ++ l.flatMap intB) w' := by
  have h1 := h.laid (.cells (l.map (Value.int .i64)).toArray 3)
  refine (ints_calls w0 g bs l hi hl W.heap.size 0 c 3 _ _ h1.c (blk_new _ _) (by decide) (by have := h.c.lt; omega) (nums_at l)).mono ?_
  rintro e w' ⟨rfl, hc, hp⟩
  exact ⟨rfl, h1.call hc hp⟩
theorem PS.move {w0 w W : World} {g b T T2 : Nat} {cs cs2 : Array Value} {bs : List Int} (h : PS w0 w g b T cs bs W) (hT : T2 ≠ 5) : PS w0 w g W.heap.size T2 cs2 bs (W.alloc (.cells cs2 T2)) := by
  have h1 := h.laid (.cells cs2 T2)
  exact ⟨h1.c, h1.p, blk_new _ _, by have := h.c.lt; omega, hT⟩
theorem tdiv_bnd {n : Int} (h : gI64 n) : gI64 (n.tdiv 1000000000000) ∧ gI64 (n.tmod 1000000000000) := by
  unfold gI64 at h ⊢
  by_cases h0 : 0 ≤ n
  · rw [Int.tdiv_eq_ediv_of_nonneg h0, Int.tmod_eq_emod_of_nonneg h0]
    omega
  · obtain ⟨m, rfl⟩ : ∃ m, n = -m := ⟨-n, by omega⟩
    rw [Int.neg_tdiv, Int.neg_tmod, Int.tdiv_eq_ediv_of_nonneg (by omega), Int.tmod_eq_emod_of_nonneg (by omega)]
    omega
theorem putUp_one : PutOne 72 (Kd.int .i64) enc1 gUp upB := by
  intro w0 g bs x cs w hK hG hl h
  have hcs : cs = [.int .i64 x] := hK
  subst hcs
  unfold gUp at hG
  have hc := cup_calls w0 g bs x (by omega) (by omega) w h
  simp only [enc1, List.headD_cons]
  clear h hl hK
  go_enter Tryz.func72, Tryz.ntmps72
  go_wp2_with (go_at_call 49; refine (show Calls _ _ _ _ _ from hc).mono ?_; rintro e w1 ⟨⟨v, rfl⟩, hcs, hpf⟩; have HC := Aside0.mk hcs; have HP := Aside0.mk hpf; clear hcs hpf hc)
  go_end0
  exact ⟨⟨_, rfl⟩, HC.out, HP.out⟩
theorem putInt_one : PutOne 97 (Kd.int .i64) enc1 gInt intB := by
  intro w0 g bs x cs w hK hG hl h
  have hcs : cs = [.int .i64 x] := hK
  subst hcs
  unfold gInt at hG
  have hc := cint_calls w0 g bs x (by omega) (by omega) (by omega) w h
  simp only [enc1, List.headD_cons]
  clear h hl hK
  go_enter Tryz.func97, Tryz.ntmps97
  go_wp2_with (go_at_call 61; refine (show Calls _ _ _ _ _ from hc).mono ?_; rintro e w1 ⟨⟨v, rfl⟩, hcs, hpf⟩; have HC := Aside0.mk hcs; have HP := Aside0.mk hpf; clear hcs hpf hc)
  go_end0
  exact ⟨⟨_, rfl⟩, HC.out, HP.out⟩
theorem putText_one : PutOne 99 Kd.string enc1 gTxt textB := by
  intro w0 g bs x cs w hK hG hl h
  have hcs : cs = [.string x] := hK
  subst hcs
  unfold gTxt at hG
  have hc := ctext_calls w0 g bs x (by omega) w h
  simp only [enc1, List.headD_cons]
  clear h hl hK
  go_enter Tryz.func99, Tryz.ntmps99
  go_wp2_with (go_at_call 30; refine (show Calls _ _ _ _ _ from hc).mono ?_; rintro e w1 ⟨rfl, hcs, hpf⟩; have HC := Aside0.mk hcs; have HP := Aside0.mk hpf; clear hcs hpf hc)
  go_end0
  exact ⟨⟨_, rfl⟩, HC.out, HP.out⟩
set_option maxRecDepth 100000 in
set_option maxHeartbeats 8000000 in
theorem putLab_one : PutOne 76 kLab encA gLab bLab := by
  intro w0 g bs x cs w hK hG hl h
  have hcs := kLab_open hK
  subst hcs
  obtain ⟨h_name, h_value⟩ := hG
  have HL := Aside0.mk hl
  simp only [bLab, List.length_append] at HL
  have G_name := Aside0.mk h_name
  have G_value := Aside0.mk h_value
  have HS := Aside0.mk (PS.start (T := 98) (cs := #[.string x.name, .string x.value]) h (by decide))
  clear hl h hK  h_name h_value
  simp only [encA]
  go_enter Tryz.func76, Tryz.ntmps76
  go_upto_region 1 with fail
  generalize w.alloc (.cells #[.string x.name, .string x.value] 98) = W at HS ⊢
  have hc := ctext_calls w0 g bs x.name (by have := HL.out; have := G_name.out; unfold gTxt at this; (try simp only [List.flatMap_cons, List.flatMap_nil, List.append_nil, List.length_append, List.length_cons, List.length_nil]); omega) _ HS.out.c
  have b0 := blk_cell HS.out.k 0
  go_upto_region 2 with (go_at_call 30; refine (show Calls _ _ _ _ _ from hc).mono ?_; rintro e W1 ⟨rfl, hcs, hpf⟩; have HS1 := Aside0.mk (HS.out.call hcs hpf); clear hcs hpf hc)
  clear HS b0
  have HS := HS1
  clear HS1
  have hc := ctext_calls w0 g (bs ++ textB x.name) x.value (by have := HL.out; have := G_value.out; unfold gTxt at this; (try simp only [List.flatMap_cons, List.flatMap_nil, List.append_nil, List.length_append, List.length_cons, List.length_nil]); omega) _ HS.out.c
  have b1 := blk_cell HS.out.k 1
  go_wp2_with (go_at_call 30; refine (show Calls _ _ _ _ _ from hc).mono ?_; rintro e W1 ⟨rfl, hcs, hpf⟩; have HS1 := Aside0.mk (HS.out.call hcs hpf); clear hcs hpf hc)
  clear HS b1
  have HS := HS1
  clear HS1
  go_end0
  refine ⟨⟨_, rfl⟩, ?_, HS.out.p⟩
  have hfin := HS.out.c
  simpa [bLab, List.append_assoc] using hfin
set_option maxRecDepth 100000 in
set_option maxHeartbeats 8000000 in
theorem putSrc_one : PutOne 44 kSrc encA gSrc bSrc := by
  intro w0 g bs x cs w hK hG hl h
  have hcs := kSrc_open hK
  subst hcs
  obtain ⟨h_name, h_time, h_at_⟩ := hG
  have HL := Aside0.mk hl
  simp only [bSrc, List.length_append] at HL
  have G_name := Aside0.mk h_name
  have G_time := Aside0.mk h_time
  have G_at_ := Aside0.mk h_at_
  have HS := Aside0.mk (PS.start (T := 119) (cs := #[.string x.name, .int .i64 x.time, .int .i64 x.at_]) h (by decide))
  clear hl h hK  h_name h_time h_at_
  simp only [encA]
  go_enter Tryz.func44, Tryz.ntmps44
  go_upto_region 1 with fail
  generalize w.alloc (.cells #[.string x.name, .int .i64 x.time, .int .i64 x.at_] 119) = W at HS ⊢
  have hc := ctext_calls w0 g bs x.name (by have := HL.out; have := G_name.out; unfold gTxt at this; (try simp only [List.flatMap_cons, List.flatMap_nil, List.append_nil, List.length_append, List.length_cons, List.length_nil]); omega) _ HS.out.c
  have b0 := blk_cell HS.out.k 0
  go_upto_region 2 with (go_at_call 30; refine (show Calls _ _ _ _ _ from hc).mono ?_; rintro e W1 ⟨rfl, hcs, hpf⟩; have HS1 := Aside0.mk (HS.out.call hcs hpf); clear hcs hpf hc)
  clear HS b0
  have HS := HS1
  clear HS1
  have hc := HS.out.ups [x.time, x.at_] (by
    intro y hy
    simp only [List.mem_cons, List.not_mem_nil, or_false] at hy
    have hh := And.intro trivial (And.intro G_time.out G_at_.out)
    rcases hy with rfl | rfl
    all_goals (simp only [gUp, gInt, gI64] at hh; omega)) (by have := HL.out; (try simp only [List.flatMap_cons, List.flatMap_nil, List.append_nil, List.length_append, List.length_cons, List.length_nil]); omega) 2
  simp only [List.map_cons, List.map_nil, List.length_cons, List.length_nil, Nat.zero_add, Nat.reduceAdd] at hc
  have b1 := blk_cell HS.out.k 1
  have b2 := blk_cell HS.out.k 2
  go_wp2_with (go_at_call 31; refine (show Calls _ _ _ _ _ from hc).mono ?_; rintro e W1 ⟨rfl, hps⟩; have HS1 := Aside0.mk hps; clear hps hc)
  clear HS b1 b2
  have HS := HS1
  clear HS1
  go_end0
  refine ⟨⟨_, rfl⟩, ?_, HS.out.p⟩
  have hfin := HS.out.c
  simpa [bSrc, List.append_assoc] using hfin
set_option maxRecDepth 100000 in
set_option maxHeartbeats 8000000 in
theorem putBat_one : PutOne 19 kBat encA gBat bBat := by
  intro w0 g bs x cs w hK hG hl h
  have hcs := kBat_open hK
  subst hcs
  obtain ⟨h_number, h_now, h_text⟩ := hG
  have HL := Aside0.mk hl
  simp only [bBat, List.length_append] at HL
  have G_number := Aside0.mk h_number
  have G_now := Aside0.mk h_now
  have G_text := Aside0.mk h_text
  have HS := Aside0.mk (PS.start (T := 48) (cs := #[.int .i64 x.number, .int .i64 x.now, .string x.text]) h (by decide))
  clear hl h hK  h_number h_now h_text
  simp only [encA]
  go_enter Tryz.func19, Tryz.ntmps19
  go_upto_region 1 with fail
  generalize w.alloc (.cells #[.int .i64 x.number, .int .i64 x.now, .string x.text] 48) = W at HS ⊢
  have hc := HS.out.ups [x.number, x.now] (by
    intro y hy
    simp only [List.mem_cons, List.not_mem_nil, or_false] at hy
    have hh := And.intro trivial (And.intro G_number.out G_now.out)
    rcases hy with rfl | rfl
    all_goals (simp only [gUp, gInt, gI64] at hh; omega)) (by have := HL.out; (try simp only [List.flatMap_cons, List.flatMap_nil, List.append_nil, List.length_append, List.length_cons, List.length_nil]); omega) 2
  simp only [List.map_cons, List.map_nil, List.length_cons, List.length_nil, Nat.zero_add, Nat.reduceAdd] at hc
  have b0 := blk_cell HS.out.k 0
  have b1 := blk_cell HS.out.k 1
  go_upto_region 2 with (go_at_call 31; refine (show Calls _ _ _ _ _ from hc).mono ?_; rintro e W1 ⟨rfl, hps⟩; have HS1 := Aside0.mk hps; clear hps hc)
  clear HS b0 b1
  have HS := HS1
  clear HS1
  have hc := ctext_calls w0 g (bs ++ [x.number, x.now].flatMap upB) x.text (by have := HL.out; have := G_text.out; unfold gTxt at this; (try simp only [List.flatMap_cons, List.flatMap_nil, List.append_nil, List.length_append, List.length_cons, List.length_nil]); omega) _ HS.out.c
  have b2 := blk_cell HS.out.k 2
  go_wp2_with (go_at_call 30; refine (show Calls _ _ _ _ _ from hc).mono ?_; rintro e W1 ⟨rfl, hcs, hpf⟩; have HS1 := Aside0.mk (HS.out.call hcs hpf); clear hcs hpf hc)
  clear HS b2
  have HS := HS1
  clear HS1
  go_end0
  refine ⟨⟨_, rfl⟩, ?_, HS.out.p⟩
  have hfin := HS.out.c
  simpa [bBat, List.append_assoc] using hfin
set_option maxRecDepth 100000 in
set_option maxHeartbeats 8000000 in
theorem putSen_one : PutOne 46 kSen encA gSen bSen := by
  intro w0 g bs x cs w hK hG hl h
  obtain ⟨A_seqs, c_seqs, hcs, l_seqs, g_seqs⟩ := kSen_open hK
  subst hcs
  obtain ⟨h_name, h_floor, h_seqs⟩ := hG
  have HL := Aside0.mk hl
  simp only [bSen, List.length_append] at HL
  have C_seqs := Aside0.mk g_seqs
  have L_seqs := Aside0.mk l_seqs
  have G_name := Aside0.mk h_name
  have G_floor := Aside0.mk h_floor
  have G_seqs := Aside0.mk h_seqs
  have HS := Aside0.mk (PS.start (T := 122) (cs := #[.string x.name, .int .i64 x.floor, .slice A_seqs x.seqs.length c_seqs]) h (by decide))
  clear hl h hK l_seqs g_seqs h_name h_floor h_seqs
  simp only [encA]
  go_enter Tryz.func46, Tryz.ntmps46
  go_upto_region 1 with fail
  generalize w.alloc (.cells #[.string x.name, .int .i64 x.floor, .slice A_seqs x.seqs.length c_seqs] 122) = W at HS ⊢
  have hc := ctext_calls w0 g bs x.name (by have := HL.out; have := G_name.out; unfold gTxt at this; (try simp only [List.flatMap_cons, List.flatMap_nil, List.append_nil, List.length_append, List.length_cons, List.length_nil]); omega) _ HS.out.c
  have b0 := blk_cell HS.out.k 0
  go_upto_region 2 with (go_at_call 30; refine (show Calls _ _ _ _ _ from hc).mono ?_; rintro e W1 ⟨rfl, hcs, hpf⟩; have HS1 := Aside0.mk (HS.out.call hcs hpf); clear hcs hpf hc)
  clear HS b0
  have HS := HS1
  clear HS1
  have hc := cup_calls w0 g (bs ++ textB x.name) x.floor (by have := G_floor.out; unfold gUp at this; omega) (by have := HL.out; (try simp only [List.flatMap_cons, List.flatMap_nil, List.append_nil, List.length_append, List.length_cons, List.length_nil]); omega) _ HS.out.c
  have b1 := blk_cell HS.out.k 1
  go_upto_region 3 with (go_at_call 49; refine (show Calls _ _ _ _ _ from hc).mono ?_; rintro e W1 ⟨⟨ve, rfl⟩, hcs, hpf⟩; have HS1 := Aside0.mk (HS.out.call hcs hpf); clear hcs hpf hc)
  clear HS b1
  have HS := HS1
  clear HS1
  have hc := listIntU_calls gUp upB 11 (fun x hx => upB_len' hx) (by omega) putUp_one w0 g ((bs ++ textB x.name) ++ upB x.floor) A_seqs c_seqs x.seqs C_seqs.out G_seqs.out (by have := HL.out; (try simp only [List.flatMap_cons, List.flatMap_nil, List.append_nil, List.length_append, List.length_cons, List.length_nil] at this); (try simp only [List.flatMap_cons, List.flatMap_nil, List.append_nil, List.length_append, List.length_cons, List.length_nil]); omega) _ HS.out.c
  have b2 := blk_cell HS.out.k 2
  go_wp2_with (go_at_call 71; refine (show Calls _ _ _ _ _ from hc).mono ?_; rintro e W1 ⟨rfl, hcs, hpf⟩; have HS1 := Aside0.mk (HS.out.call hcs hpf); clear hcs hpf hc)
  clear HS b2
  have HS := HS1
  clear HS1
  go_end0
  refine ⟨⟨_, rfl⟩, ?_, HS.out.p⟩
  have hfin := HS.out.c
  simpa [bSen, List.append_assoc] using hfin
set_option maxRecDepth 100000 in
set_option maxHeartbeats 8000000 in
theorem putVatS_one : PutOne 77 kVatS encA gVatS bVatS := by
  intro w0 g bs x cs w hK hG hl h
  obtain ⟨A_samples, c_samples, A_members, c_members, hcs, l_samples, g_samples, l_members, g_members⟩ := kVatS_open hK
  subst hcs
  obtain ⟨h_kind, h_many, h_high, h_low, h_last, h_time, h_seq, h_source, h_samples, h_members⟩ := hG
  have HL := Aside0.mk hl
  simp only [bVatS, List.length_append] at HL
  have C_samples := Aside0.mk g_samples
  have C_members := Aside0.mk g_members
  have L_samples := Aside0.mk l_samples
  have L_members := Aside0.mk l_members
  have G_kind := Aside0.mk h_kind
  have G_many := Aside0.mk h_many
  have G_high := Aside0.mk h_high
  have G_low := Aside0.mk h_low
  have G_last := Aside0.mk h_last
  have G_time := Aside0.mk h_time
  have G_seq := Aside0.mk h_seq
  have G_source := Aside0.mk h_source
  have G_samples := Aside0.mk h_samples
  have G_members := Aside0.mk h_members
  have HS := Aside0.mk (PS.start (T := 102) (cs := #[.int .i64 x.kind, .int .i64 x.many, .int .i64 x.high, .int .i64 x.low, .int .i64 x.last, .int .i64 x.time, .int .i64 x.seq, .string x.source, .slice A_samples x.samples.length c_samples, .slice A_members x.members.length c_members]) h (by decide))
  clear hl h hK l_samples g_samples l_members g_members h_kind h_many h_high h_low h_last h_time h_seq h_source h_samples h_members
  simp only [encA]
  go_enter Tryz.func77, Tryz.ntmps77
  go_upto_region 1 with fail
  generalize w.alloc (.cells #[.int .i64 x.kind, .int .i64 x.many, .int .i64 x.high, .int .i64 x.low, .int .i64 x.last, .int .i64 x.time, .int .i64 x.seq, .string x.source, .slice A_samples x.samples.length c_samples, .slice A_members x.members.length c_members] 102) = W at HS ⊢
  have hc := HS.out.ups [x.kind, x.many] (by
    intro y hy
    simp only [List.mem_cons, List.not_mem_nil, or_false] at hy
    have hh := And.intro trivial (And.intro G_kind.out G_many.out)
    rcases hy with rfl | rfl
    all_goals (simp only [gUp, gInt, gI64] at hh; omega)) (by have := HL.out; (try simp only [List.flatMap_cons, List.flatMap_nil, List.append_nil, List.length_append, List.length_cons, List.length_nil]); omega) 2
  simp only [List.map_cons, List.map_nil, List.length_cons, List.length_nil, Nat.zero_add, Nat.reduceAdd] at hc
  have b0 := blk_cell HS.out.k 0
  have b1 := blk_cell HS.out.k 1
  go_upto_region 2 with (go_at_call 31; refine (show Calls _ _ _ _ _ from hc).mono ?_; rintro e W1 ⟨rfl, hps⟩; have HS1 := Aside0.mk hps; clear hps hc)
  clear HS b0 b1
  have HS := HS1
  clear HS1
  have hc := HS.out.ints [x.high, x.low, x.last] (by
    intro y hy
    simp only [List.mem_cons, List.not_mem_nil, or_false] at hy
    have hh := And.intro trivial (And.intro G_high.out (And.intro G_low.out G_last.out))
    rcases hy with rfl | rfl | rfl
    all_goals (simp only [gUp, gInt, gI64] at hh; omega)) (by have := HL.out; (try simp only [List.flatMap_cons, List.flatMap_nil, List.append_nil, List.length_append, List.length_cons, List.length_nil]); omega) 3
  simp only [List.map_cons, List.map_nil, List.length_cons, List.length_nil, Nat.zero_add, Nat.reduceAdd] at hc
  have b2 := blk_cell HS.out.k 2
  have b3 := blk_cell HS.out.k 3
  have b4 := blk_cell HS.out.k 4
  go_upto_region 3 with (go_at_call 33; refine (show Calls _ _ _ _ _ from hc).mono ?_; rintro e W1 ⟨rfl, hps⟩; have HS1 := Aside0.mk hps; clear hps hc)
  clear HS b2 b3 b4
  have HS := HS1
  clear HS1
  have hc := HS.out.ups [x.time, x.seq] (by
    intro y hy
    simp only [List.mem_cons, List.not_mem_nil, or_false] at hy
    have hh := And.intro trivial (And.intro G_time.out G_seq.out)
    rcases hy with rfl | rfl
    all_goals (simp only [gUp, gInt, gI64] at hh; omega)) (by have := HL.out; (try simp only [List.flatMap_cons, List.flatMap_nil, List.append_nil, List.length_append, List.length_cons, List.length_nil]); omega) 2
  simp only [List.map_cons, List.map_nil, List.length_cons, List.length_nil, Nat.zero_add, Nat.reduceAdd] at hc
  have b5 := blk_cell HS.out.k 5
  have b6 := blk_cell HS.out.k 6
  go_upto_region 4 with (go_at_call 31; refine (show Calls _ _ _ _ _ from hc).mono ?_; rintro e W1 ⟨rfl, hps⟩; have HS1 := Aside0.mk hps; clear hps hc)
  clear HS b5 b6
  have HS := HS1
  clear HS1
  have hc := ctext_calls w0 g (((bs ++ [x.kind, x.many].flatMap upB) ++ [x.high, x.low, x.last].flatMap intB) ++ [x.time, x.seq].flatMap upB) x.source (by have := HL.out; have := G_source.out; unfold gTxt at this; (try simp only [List.flatMap_cons, List.flatMap_nil, List.append_nil, List.length_append, List.length_cons, List.length_nil]); omega) _ HS.out.c
  have b7 := blk_cell HS.out.k 7
  go_upto_region 5 with (go_at_call 30; refine (show Calls _ _ _ _ _ from hc).mono ?_; rintro e W1 ⟨rfl, hcs, hpf⟩; have HS1 := Aside0.mk (HS.out.call hcs hpf); clear hcs hpf hc)
  clear HS b7
  have HS := HS1
  clear HS1
  have hc := listIntI_calls gInt intB 11 (fun x _ => intB_len x) (by omega) putInt_one w0 g ((((bs ++ [x.kind, x.many].flatMap upB) ++ [x.high, x.low, x.last].flatMap intB) ++ [x.time, x.seq].flatMap upB) ++ textB x.source) A_samples c_samples x.samples C_samples.out G_samples.out (by have := HL.out; (try simp only [List.flatMap_cons, List.flatMap_nil, List.append_nil, List.length_append, List.length_cons, List.length_nil] at this); (try simp only [List.flatMap_cons, List.flatMap_nil, List.append_nil, List.length_append, List.length_cons, List.length_nil]); omega) _ HS.out.c
  have b8 := blk_cell HS.out.k 8
  go_upto_region 6 with (go_at_call 71; refine (show Calls _ _ _ _ _ from hc).mono ?_; rintro e W1 ⟨rfl, hcs, hpf⟩; have HS1 := Aside0.mk (HS.out.call hcs hpf); clear hcs hpf hc)
  clear HS b8
  have HS := HS1
  clear HS1
  have hc := listStr_calls gTxt textB 10011 (fun x hx => textB_len hx) (by omega) putText_one w0 g (((((bs ++ [x.kind, x.many].flatMap upB) ++ [x.high, x.low, x.last].flatMap intB) ++ [x.time, x.seq].flatMap upB) ++ textB x.source) ++ listB intB x.samples) A_members c_members x.members C_members.out G_members.out (by have := HL.out; (try simp only [List.flatMap_cons, List.flatMap_nil, List.append_nil, List.length_append, List.length_cons, List.length_nil] at this); (try simp only [List.flatMap_cons, List.flatMap_nil, List.append_nil, List.length_append, List.length_cons, List.length_nil]); omega) _ HS.out.c
  have b9 := blk_cell HS.out.k 9
  go_wp2_with (go_at_call 98; refine (show Calls _ _ _ _ _ from hc).mono ?_; rintro e W1 ⟨rfl, hcs, hpf⟩; have HS1 := Aside0.mk (HS.out.call hcs hpf); clear hcs hpf hc)
  clear HS b9
  have HS := HS1
  clear HS1
  go_end0
  refine ⟨⟨_, rfl⟩, ?_, HS.out.p⟩
  have hfin := HS.out.c
  simpa [bVatS, List.append_assoc] using hfin
set_option maxRecDepth 100000 in
set_option maxHeartbeats 8000000 in
theorem putEmi_one : PutOne 13 kEmi encA gEmi bEmi := by
  intro w0 g bs x cs w hK hG hl h
  have hcs := kEmi_open hK
  subst hcs
  obtain ⟨h_key, h_policy, h_kind, h_start, h_rev, h_rkind, h_count, h_sum, h_min, h_max, h_q0, h_q1, h_q2⟩ := hG
  have HL := Aside0.mk hl
  simp only [bEmi, List.length_append] at HL
  have G_key := Aside0.mk h_key
  have G_policy := Aside0.mk h_policy
  have G_kind := Aside0.mk h_kind
  have G_start := Aside0.mk h_start
  have G_rev := Aside0.mk h_rev
  have G_rkind := Aside0.mk h_rkind
  have G_count := Aside0.mk h_count
  have G_sum := Aside0.mk h_sum
  have G_min := Aside0.mk h_min
  have G_max := Aside0.mk h_max
  have G_q0 := Aside0.mk h_q0
  have G_q1 := Aside0.mk h_q1
  have G_q2 := Aside0.mk h_q2
  have HS := Aside0.mk (PS.start (T := 30) (cs := #[.string x.key, .string x.policy, .int .i64 x.kind, .int .i64 x.start, .int .i64 x.rev, .bool x.final, .int .i64 x.rkind, .int .i64 x.count, .int .i64 x.sum, .int .i64 x.min, .int .i64 x.max, .int .i64 x.q0, .int .i64 x.q1, .int .i64 x.q2, .bool x.over]) h (by decide))
  clear hl h hK  h_key h_policy h_kind h_start h_rev h_rkind h_count h_sum h_min h_max h_q0 h_q1 h_q2
  simp only [encA]
  have G_sumq := Aside0.mk (tdiv_bnd G_sum.out)
  have hwq : wrap64 (x.sum.tdiv 1000000000000) = x.sum.tdiv 1000000000000 := by have := G_sumq.out.1; unfold gI64 at this; exact wrap_in (by omega) (by omega)
  go_enter Tryz.func13, Tryz.ntmps13
  go_upto_region 1 with fail
  generalize w.alloc (.cells #[.string x.key, .string x.policy, .int .i64 x.kind, .int .i64 x.start, .int .i64 x.rev, .bool x.final, .int .i64 x.rkind, .int .i64 x.count, .int .i64 x.sum, .int .i64 x.min, .int .i64 x.max, .int .i64 x.q0, .int .i64 x.q1, .int .i64 x.q2, .bool x.over] 30) = W at HS ⊢
  have hc := ctext_calls w0 g bs x.key (by have := HL.out; have := G_key.out; unfold gTxt at this; (try simp only [List.flatMap_cons, List.flatMap_nil, List.append_nil, List.length_append, List.length_cons, List.length_nil]); omega) _ HS.out.c
  have b0 := blk_cell HS.out.k 0
  go_upto_region 2 with (go_at_call 30; refine (show Calls _ _ _ _ _ from hc).mono ?_; rintro e W1 ⟨rfl, hcs, hpf⟩; have HS1 := Aside0.mk (HS.out.call hcs hpf); clear hcs hpf hc)
  clear HS b0
  have HS := HS1
  clear HS1
  have hc := ctext_calls w0 g (bs ++ textB x.key) x.policy (by have := HL.out; have := G_policy.out; unfold gTxt at this; (try simp only [List.flatMap_cons, List.flatMap_nil, List.append_nil, List.length_append, List.length_cons, List.length_nil]); omega) _ HS.out.c
  have b1 := blk_cell HS.out.k 1
  go_upto_region 3 with (go_at_call 30; refine (show Calls _ _ _ _ _ from hc).mono ?_; rintro e W1 ⟨rfl, hcs, hpf⟩; have HS1 := Aside0.mk (HS.out.call hcs hpf); clear hcs hpf hc)
  clear HS b1
  have HS := HS1
  clear HS1
  have hc := HS.out.ups [x.kind, x.start, x.rev] (by
    intro y hy
    simp only [List.mem_cons, List.not_mem_nil, or_false] at hy
    have hh := And.intro trivial (And.intro G_kind.out (And.intro G_start.out G_rev.out))
    rcases hy with rfl | rfl | rfl
    all_goals (simp only [gUp, gInt, gI64] at hh; omega)) (by have := HL.out; (try simp only [List.flatMap_cons, List.flatMap_nil, List.append_nil, List.length_append, List.length_cons, List.length_nil]); omega) 3
  simp only [List.map_cons, List.map_nil, List.length_cons, List.length_nil, Nat.zero_add, Nat.reduceAdd] at hc
  have b2 := blk_cell HS.out.k 2
  have b3 := blk_cell HS.out.k 3
  have b4 := blk_cell HS.out.k 4
  go_upto_region 4 with (go_at_call 31; refine (show Calls _ _ _ _ _ from hc).mono ?_; rintro e W1 ⟨rfl, hps⟩; have HS1 := Aside0.mk hps; clear hps hc)
  clear HS b2 b3 b4
  have HS := HS1
  clear HS1
  have hc := cmark_calls w0 g (((bs ++ textB x.key) ++ textB x.policy) ++ [x.kind, x.start, x.rev].flatMap upB) x.final (by have := HL.out; (try simp only [List.flatMap_cons, List.flatMap_nil, List.append_nil, List.length_append, List.length_cons, List.length_nil]); omega) _ HS.out.c
  have b5 := blk_cell HS.out.k 5
  go_upto_region 5 with (go_at_call 32; refine (show Calls _ _ _ _ _ from hc).mono ?_; rintro e W1 ⟨rfl, hcs, hpf⟩; have HS1 := Aside0.mk (HS.out.call hcs hpf); clear hcs hpf hc)
  clear HS b5
  have HS := HS1
  clear HS1
  have b6 := blk_cell HS.out.k 6
  have b7 := blk_cell HS.out.k 7
  have b8 := blk_cell HS.out.k 8
  have b9 := blk_cell HS.out.k 9
  have b10 := blk_cell HS.out.k 10
  have b11 := blk_cell HS.out.k 11
  have b12 := blk_cell HS.out.k 12
  have b13 := blk_cell HS.out.k 13
  have b14 := blk_cell HS.out.k 14
  have HS1 := Aside0.mk (HS.out.move (T2 := 28) (cs2 := #[.int .i64 x.rkind, .int .i64 x.count, .int .i64 x.sum, .int .i64 x.min, .int .i64 x.max, .int .i64 x.q0, .int .i64 x.q1, .int .i64 x.q2, .bool x.over]) (by decide))
  go_upto_region 6 with fail
  generalize W1.alloc (.cells #[.int .i64 x.rkind, .int .i64 x.count, .int .i64 x.sum, .int .i64 x.min, .int .i64 x.max, .int .i64 x.q0, .int .i64 x.q1, .int .i64 x.q2, .bool x.over] 28) = W2 at HS1 ⊢
  clear HS b6 b7 b8 b9 b10 b11 b12 b13 b14
  have HS := HS1
  clear HS1
  have hc := HS.out.ups [x.rkind, x.count] (by
    intro y hy
    simp only [List.mem_cons, List.not_mem_nil, or_false] at hy
    have hh := And.intro trivial (And.intro G_rkind.out G_count.out)
    rcases hy with rfl | rfl
    all_goals (simp only [gUp, gInt, gI64] at hh; omega)) (by have := HL.out; (try simp only [List.flatMap_cons, List.flatMap_nil, List.append_nil, List.length_append, List.length_cons, List.length_nil]); omega) 2
  simp only [List.map_cons, List.map_nil, List.length_cons, List.length_nil, Nat.zero_add, Nat.reduceAdd] at hc
  have b0 := blk_cell HS.out.k 0
  have b1 := blk_cell HS.out.k 1
  go_upto_region 7 with (go_at_call 31; refine (show Calls _ _ _ _ _ from hc).mono ?_; rintro e W1 ⟨rfl, hps⟩; have HS1 := Aside0.mk hps; clear hps hc)
  clear HS b0 b1
  have HS := HS1
  clear HS1
  have hc := HS.out.ints [(x.sum.tdiv 1000000000000), (x.sum.tmod 1000000000000), x.min, x.max, x.q0, x.q1, x.q2] (by
    intro y hy
    simp only [List.mem_cons, List.not_mem_nil, or_false] at hy
    have hh := And.intro trivial (And.intro G_sumq.out (And.intro G_min.out (And.intro G_max.out (And.intro G_q0.out (And.intro G_q1.out G_q2.out)))))
    rcases hy with rfl | rfl | rfl | rfl | rfl | rfl | rfl
    all_goals (simp only [gUp, gInt, gI64] at hh; omega)) (by have := HL.out; (try simp only [List.flatMap_cons, List.flatMap_nil, List.append_nil, List.length_append, List.length_cons, List.length_nil]); omega) 7
  simp only [List.map_cons, List.map_nil, List.length_cons, List.length_nil, Nat.zero_add, Nat.reduceAdd] at hc
  have b2 := blk_cell HS.out.k 2
  have b3 := blk_cell HS.out.k 3
  have b4 := blk_cell HS.out.k 4
  have b5 := blk_cell HS.out.k 5
  have b6 := blk_cell HS.out.k 6
  have b7 := blk_cell HS.out.k 7
  go_upto_region 8 with (go_at_call 33; refine (show Calls _ _ _ _ _ from hc).mono ?_; rintro e W1 ⟨rfl, hps⟩; have HS1 := Aside0.mk hps; clear hps hc)
  clear HS b2 b3 b4 b5 b6 b7
  have HS := HS1
  clear HS1
  have hc := cmark_calls w0 g ((((((bs ++ textB x.key) ++ textB x.policy) ++ [x.kind, x.start, x.rev].flatMap upB) ++ markB x.final) ++ [x.rkind, x.count].flatMap upB) ++ [(x.sum.tdiv 1000000000000), (x.sum.tmod 1000000000000), x.min, x.max, x.q0, x.q1, x.q2].flatMap intB) x.over (by have := HL.out; (try simp only [List.flatMap_cons, List.flatMap_nil, List.append_nil, List.length_append, List.length_cons, List.length_nil]); omega) _ HS.out.c
  have b8 := blk_cell HS.out.k 8
  go_wp2_with (go_at_call 32; refine (show Calls _ _ _ _ _ from hc).mono ?_; rintro e W1 ⟨rfl, hcs, hpf⟩; have HS1 := Aside0.mk (HS.out.call hcs hpf); clear hcs hpf hc)
  clear HS b8
  have HS := HS1
  clear HS1
  go_end0
  refine ⟨⟨_, rfl⟩, ?_, HS.out.p⟩
  have hfin := HS.out.c
  simpa [bEmi, List.append_assoc] using hfin
set_option maxRecDepth 100000 in
set_option maxHeartbeats 8000000 in
theorem putCel_one : PutOne 48 kCel encA gCel bCel := by
  intro w0 g bs x cs w hK hG hl h
  obtain ⟨A_labels, c_labels, A_vsamples, c_vsamples, A_vmembers, c_vmembers, hcs, l_labels, g_labels, l_vsamples, g_vsamples, l_vmembers, g_vmembers⟩ := kCel_open hK
  subst hcs
  obtain ⟨h_metric, h_labels, h_policy, h_start, h_rev, h_vat⟩ := hG
  have HL := Aside0.mk hl
  simp only [bCel, List.length_append] at HL
  have C_labels := Aside0.mk g_labels
  have C_vsamples := Aside0.mk g_vsamples
  have C_vmembers := Aside0.mk g_vmembers
  have L_labels := Aside0.mk l_labels
  have L_vsamples := Aside0.mk l_vsamples
  have L_vmembers := Aside0.mk l_vmembers
  have G_metric := Aside0.mk h_metric
  have G_labels := Aside0.mk h_labels
  have G_policy := Aside0.mk h_policy
  have G_start := Aside0.mk h_start
  have G_rev := Aside0.mk h_rev
  have G_vat := Aside0.mk h_vat
  have HS := Aside0.mk (PS.start (T := 104) (cs := #[.string x.metric, .slice A_labels x.labels.length c_labels, .int .i64 x.policy, .int .i64 x.start, .int .i64 x.rev, .bool x.dirty, .int .i64 x.vat.kind, .int .i64 x.vat.many, .int .i64 x.vat.high, .int .i64 x.vat.low, .int .i64 x.vat.last, .int .i64 x.vat.time, .int .i64 x.vat.seq, .string x.vat.source, .slice A_vsamples x.vat.samples.length c_vsamples, .slice A_vmembers x.vat.members.length c_vmembers]) h (by decide))
  clear hl h hK l_labels g_labels l_vsamples g_vsamples l_vmembers g_vmembers h_metric h_labels h_policy h_start h_rev h_vat
  simp only [encA]
  go_enter Tryz.func48, Tryz.ntmps48
  go_upto_region 1 with fail
  generalize w.alloc (.cells #[.string x.metric, .slice A_labels x.labels.length c_labels, .int .i64 x.policy, .int .i64 x.start, .int .i64 x.rev, .bool x.dirty, .int .i64 x.vat.kind, .int .i64 x.vat.many, .int .i64 x.vat.high, .int .i64 x.vat.low, .int .i64 x.vat.last, .int .i64 x.vat.time, .int .i64 x.vat.seq, .string x.vat.source, .slice A_vsamples x.vat.samples.length c_vsamples, .slice A_vmembers x.vat.members.length c_vmembers] 104) = W at HS ⊢
  have hc := ctext_calls w0 g bs x.metric (by have := HL.out; have := G_metric.out; unfold gTxt at this; (try simp only [List.flatMap_cons, List.flatMap_nil, List.append_nil, List.length_append, List.length_cons, List.length_nil]); omega) _ HS.out.c
  have b0 := blk_cell HS.out.k 0
  go_upto_region 2 with (go_at_call 30; refine (show Calls _ _ _ _ _ from hc).mono ?_; rintro e W1 ⟨rfl, hcs, hpf⟩; have HS1 := Aside0.mk (HS.out.call hcs hpf); clear hcs hpf hc)
  clear HS b0
  have HS := HS1
  clear HS1
  have hc := listLab_calls gLab bLab 20022 bLab_len (by omega) putLab_one w0 g (bs ++ textB x.metric) A_labels c_labels x.labels C_labels.out G_labels.out (by have := HL.out; (try simp only [List.flatMap_cons, List.flatMap_nil, List.append_nil, List.length_append, List.length_cons, List.length_nil] at this); (try simp only [List.flatMap_cons, List.flatMap_nil, List.append_nil, List.length_append, List.length_cons, List.length_nil]); omega) _ HS.out.c
  have b1 := blk_cell HS.out.k 1
  go_upto_region 3 with (go_at_call 75; refine (show Calls _ _ _ _ _ from hc).mono ?_; rintro e W1 ⟨rfl, hcs, hpf⟩; have HS1 := Aside0.mk (HS.out.call hcs hpf); clear hcs hpf hc)
  clear HS b1
  have HS := HS1
  clear HS1
  have hc := HS.out.ups [x.policy, x.start, x.rev] (by
    intro y hy
    simp only [List.mem_cons, List.not_mem_nil, or_false] at hy
    have hh := And.intro trivial (And.intro G_policy.out (And.intro G_start.out G_rev.out))
    rcases hy with rfl | rfl | rfl
    all_goals (simp only [gUp, gInt, gI64] at hh; omega)) (by have := HL.out; (try simp only [List.flatMap_cons, List.flatMap_nil, List.append_nil, List.length_append, List.length_cons, List.length_nil]); omega) 3
  simp only [List.map_cons, List.map_nil, List.length_cons, List.length_nil, Nat.zero_add, Nat.reduceAdd] at hc
  have b2 := blk_cell HS.out.k 2
  have b3 := blk_cell HS.out.k 3
  have b4 := blk_cell HS.out.k 4
  go_upto_region 4 with (go_at_call 31; refine (show Calls _ _ _ _ _ from hc).mono ?_; rintro e W1 ⟨rfl, hps⟩; have HS1 := Aside0.mk hps; clear hps hc)
  clear HS b2 b3 b4
  have HS := HS1
  clear HS1
  have hc := cmark_calls w0 g (((bs ++ textB x.metric) ++ listB bLab x.labels) ++ [x.policy, x.start, x.rev].flatMap upB) x.dirty (by have := HL.out; (try simp only [List.flatMap_cons, List.flatMap_nil, List.append_nil, List.length_append, List.length_cons, List.length_nil]); omega) _ HS.out.c
  have b5 := blk_cell HS.out.k 5
  go_upto_region 5 with (go_at_call 32; refine (show Calls _ _ _ _ _ from hc).mono ?_; rintro e W1 ⟨rfl, hcs, hpf⟩; have HS1 := Aside0.mk (HS.out.call hcs hpf); clear hcs hpf hc)
  clear HS b5
  have HS := HS1
  clear HS1
  have hc := putVatS_one w0 g ((((bs ++ textB x.metric) ++ listB bLab x.labels) ++ [x.policy, x.start, x.rev].flatMap upB) ++ markB x.dirty) x.vat _ _ (kVatS_mk w0 x.vat L_vsamples.out C_vsamples.out L_vmembers.out C_vmembers.out) G_vat.out (by have := HL.out; (try simp only [List.flatMap_cons, List.flatMap_nil, List.append_nil, List.length_append, List.length_cons, List.length_nil] at this); (try simp only [List.flatMap_cons, List.flatMap_nil, List.append_nil, List.length_append, List.length_cons, List.length_nil]); omega) HS.out.c
  simp only [encA] at hc
  have b6 := blk_cell HS.out.k 6
  have b7 := blk_cell HS.out.k 7
  have b8 := blk_cell HS.out.k 8
  have b9 := blk_cell HS.out.k 9
  have b10 := blk_cell HS.out.k 10
  have b11 := blk_cell HS.out.k 11
  have b12 := blk_cell HS.out.k 12
  have b13 := blk_cell HS.out.k 13
  have b14 := blk_cell HS.out.k 14
  have b15 := blk_cell HS.out.k 15
  go_wp2_with (go_at_call 77; refine (show Calls _ _ _ _ _ from hc).mono ?_; rintro e W1 ⟨⟨ve, rfl⟩, hcs, hpf⟩; have HS1 := Aside0.mk (HS.out.call hcs hpf); clear hcs hpf hc)
  clear HS b6 b7 b8 b9 b10 b11 b12 b13 b14 b15
  have HS := HS1
  clear HS1
  go_end0
  refine ⟨⟨_, rfl⟩, ?_, HS.out.p⟩
  have hfin := HS.out.c
  simpa [bCel, List.append_assoc] using hfin
end Go.Proofs.YtpdppfihpnfblaaGreat.H
